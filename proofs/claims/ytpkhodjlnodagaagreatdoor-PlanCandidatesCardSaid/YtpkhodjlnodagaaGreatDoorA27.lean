/- Part 27 of the proof of PlanCandidates. -/
import Derived.Test.YtpkhodjlnodagaaGreatDoorA06
import Derived.Test.YtpkhodjlnodagaaGreatDoorA26
set_option linter.unusedSimpArgs false
set_option linter.unusedVariables false
set_option linter.unusedSectionVars false
namespace Go.Proofs.YtpkhodjlnodagaaGreatDoor
open Go.Av
set_option maxHeartbeats 4000000
attribute [local irreducible] Af
theorem VG:Tryz.prog.underlying 9=some .string:=by kernel_rfl
theorem Ae6:Tryz.prog.underlying 203=some (.struct #[⟨ "Name",9,0,false,"","",0⟩,⟨ "Value",9,1,false,"","",16⟩]):=by kernel_rfl
theorem inf9: ∃ i,Tryz.prog.info? 9=some i:=⟨Tryz.t9,by kernel_rfl⟩
theorem Agt:Tryz.prog.stoodInHeld 203=false:=by kernel_rfl
theorem Afj:Tryz.prog.eqGuardType Tryz.prog.depth 203=false:=by kernel_rfl
theorem eqFl(s s' t t':ByteArray):Sm Tryz.prog 203 [.string s,.string t] [.string s',.string t'] (bl s==bl s'&&(bl t==bl t'&&true)):=by
 refine⟨Afj,fun w=>?_⟩
 obtain⟨i9,h9⟩:=inf9
 show(Op.equalIn (9998+1+1) 203 _ _).run Tryz.prog w=_
 rw[Op.equalIn,run_bind,At Ae6]
 simp only[run_bind,E4,Agt]
 simp only[Bool.false_eq_true,if_false,List.forIn_toArray,List.forIn_cons,List.forIn_nil,run_bind,NA VG h9,Dv,OG VG]
 by_cases g1:bl s=bl s'<;>by_cases g3:bl t=bl t'<;>
   simp[g1,g3,run_pure,run_bind,NA VG h9,Dv,OG VG]
theorem Vy(L:List Fl)(hl:L.length≤2^40):Af Tryz.prog 157 [.sl 2 (flE L),.sl 2 (flE L)] [] (B true) []:=by
 refine acN 26 0 Tryz.func157 fun C hN hk=>?_
 refine Ah [0,1] ?_
 refine rG hN hk noc [] [0,1,10] fun K hK=>?_;simp only[go_sem,seval,bne_self_eq_false]
 try simp (disch:=omega) only[au]
 (first|with_reducible refine hK _ _ ?_|refine obK (hK _ _ ?_));clear hK K;refine nx ?_
 refine cF ?_;refine Ah [0,1,5] ?_
 refine lpF hk 0 (fun i:Nat=>⟨[(0,.sl 2 (flE L)),(1,.sl 2 (flE L)),(5,I i)],[]⟩) (fun i=>i≤L.length) (fun i=>L.length-i) 0 (Eb [] []) ?_
 intro i h1
 by_cases hi:i<L.length
 · have hx:=List.getElem?_eq_getElem hi
   generalize L[i]=x at*
   have q:=eqFl ⟨x.name.toArray⟩ ⟨x.name.toArray⟩ ⟨x.val.toArray⟩ ⟨x.val.toArray⟩
   simp only[Aaw,beq_self_eq_true,Bool.and_true]at q
   refine AU [0,1,5,14] ?_
   refine cT ?_;have F:=hx;refine DV [0,1,5,25] ?_;clear F
   refine nx ?_;refine cF ?_;refine AU [0,1,5] ?_
   refine eE (i+1) (Eb [] [])
 · refine AU [0,1,5,14] ?_
   refine cF ?_;refine Ah [4] ?_
   refine AW.ret (DX [] [])
def B8(a b:Ev):Bool:=if a.time≠b.time then decide (a.time<b.time)else if a.host≠b.host then decide (a.host<b.host)else if a.file≠b.file then decide (a.file<b.file)else decide (a.frm<b.frm)
theorem VY(a b:Ev):Af Tryz.prog 100 [.agg (evC a),.agg (evC b)] [] (B (B8 a b)) []:=by
 refine acN 43 0 Tryz.func100 fun C hN hk=>?_
 rcases dqE a.time b.time with ⟨p0,e0,f0⟩|⟨p0,e0,f0⟩
 · rcases dqE a.host b.host with ⟨p1,e1,f1⟩|⟨p1,e1,f1⟩
   · rcases dqE a.file b.file with ⟨p2,e2,f2⟩|⟨p2,e2,f2⟩
     · have e:B8 a b=decide (a.frm<b.frm):=by simp[B8,p0,p1,p2]
       rw[e]
       have F:=And.intro f0 (And.intro f1 f2);refine AB [2,3] ?_;clear F
       have F:=And.intro f0 (And.intro f1 f2);refine A5 [2,3,5] ?_;clear F;refine cF ?_;have F:=And.intro f0 (And.intro f1 f2);refine A5 [2,3,16] ?_;clear F;refine cF ?_;have F:=And.intro f0 (And.intro f1 f2);refine A5 [2,3,27] ?_;clear F;refine cF ?_;have F:=And.intro f0 (And.intro f1 f2);refine A5 [4] ?_;clear F
       refine AW.ret (DX [] [])
     · have e:B8 a b=decide (a.file<b.file):=by simp[B8,p0,p1,p2]
       rw[e]
       have F:=And.intro f0 (And.intro f1 f2);refine AB [2,3] ?_;clear F
       have F:=And.intro f0 (And.intro f1 f2);refine A5 [2,3,5] ?_;clear F;refine cF ?_;have F:=And.intro f0 (And.intro f1 f2);refine A5 [2,3,16] ?_;clear F;refine cF ?_;have F:=And.intro f0 (And.intro f1 f2);refine A5 [2,3,27] ?_;clear F;refine cT ?_;have F:=And.intro f0 (And.intro f1 f2);refine A5 [4] ?_;clear F
       refine AW.ret (DX [] [])
   · have e:B8 a b=decide (a.host<b.host):=by simp[B8,p0,p1]
     rw[e]
     have F:=And.intro f0 f1;refine AB [2,3] ?_;clear F
     have F:=And.intro f0 f1;refine A5 [2,3,5] ?_;clear F;refine cF ?_;have F:=And.intro f0 f1;refine A5 [2,3,16] ?_;clear F;refine cT ?_;have F:=And.intro f0 f1;refine A5 [4] ?_;clear F
     refine AW.ret (DX [] [])
 · have e:B8 a b=decide (a.time<b.time):=by simp[B8,p0]
   rw[e]
   have F:=f0;refine AB [2,3] ?_;clear F
   have F:=f0;refine A5 [2,3,5] ?_;clear F;refine cT ?_;have F:=f0;refine A5 [4] ?_;clear F
   refine AW.ret (DX [] [])
end Go.Proofs.YtpkhodjlnodagaaGreatDoor
namespace Go.Proofs.YtpkhodjlnodagaaGreatDoor
open Go.Av
theorem Lk(a:Ev):B8 a a=false:=by simp[B8]
theorem SI{a b:Ev}(h:B8 a b=true):B8 b a=false:=by
 unfold B8 at*
 split at h<;>split<;>(try split at h)<;>(try split)<;>(try split at h)<;>(try split)<;>simp_all<;>omega
def Asc(l:List Ev):Prop:=l.Pairwise fun a b=>B8 a b=true
def CD:List Ev→(Nat→Bool)→List Ev
 | [],_=>[]
 |x::l,p=>if p 0 then x::CD l (fun i=>p (i+1))else CD l (fun i=>p (i+1))
theorem HM: ∀ (l:List Ev) (p:Nat→Bool),(CD l p).Sublist l
 | [],_=>List.Sublist.slnil
 |x::l,p=>by
   simp only[CD]
   split
   · exact(HM l _).cons_cons x
   · exact(HM l _).cons x
theorem RY: ∀ (l:List Ev) (p:Nat→Bool),(∀ i,i<l.length→p i=true)→CD l p=l
 | [],_,_=>rfl
 |x::l,p,h=>by
   simp only[CD,h 0 (by simp),if_true]
   rw[RY l _ (fun i hi=>h (i+1) (by simp;omega))]
theorem PY: ∀ (l:List Ev) (p:Nat→Bool),(∀ i,i<l.length→p i=false)→CD l p=[]
 | [],_,_=>rfl
 |x::l,p,h=>by
   simp only[CD,h 0 (by simp),Bool.false_eq_true,if_false]
   exact PY l _ (fun i hi=>h (i+1) (by simp;omega))
def CI:List Ev→List Ev→List Ev→List Ev
 | [],b,out=>out++b
 |x::a,[],out=>out++(x::a)
 |x::a,y::b,out=>if B8 x y then CI a (y::b) (out++[x])else if B8 y x then CI (x::a) b (out++[y])else CI a b (out++[x])
termination_by a b _=>a.length+b.length
theorem TM{l:List Ev}{p:Nat→Bool}{x:Ev}(h:x∈CD l p):x∈l:=(HM l p).subset h
theorem SX(a out:List Ev):CI a [] out=out++a:=by cases a<;>simp[CI]
theorem M4: ∀ (l:List Ev) (p q:Nat→Bool) (out:List Ev),Asc l→CI (CD l p) (CD l q) out=out++CD l (fun i=>p i||q i)
 | [],p,q,out,_=>by simp[CD,CI]
 |x::l,p,q,out,h=>by
   have h1:=(List.pairwise_cons.1 h).1
   have h2:=(List.pairwise_cons.1 h).2
   have IH:=fun p q out=>M4 l p q out h2
   cases hp:p 0<;>cases hq:q 0
   · simp only[CD,hp,hq,Bool.false_eq_true,if_false,Bool.or_self]
     exact IH _ _ _
   · simp only[CD,hp,hq,Bool.false_eq_true,if_false,if_true,Bool.false_or,Bool.or_true]
     have IH:=IH (fun i=>p (i+1)) (fun i=>q (i+1)) (out++[x])
     cases hs:CD l (fun i=>p (i+1))with
     |nil=>rw[hs]at IH;rw[CI]at IH ⊢;rw[show out++x::CD l (fun i=>q (i+1))=out++[x]++CD l (fun i=>q (i+1)) by simp,IH];simp
     |cons z a=>
       rw[hs]at IH
       have hz:=h1 z (TM (by rw[hs];simp))
       rw[CI,if_neg (by simp[SI hz]),if_pos hz,IH];simp
   · simp only[CD,hp,hq,Bool.false_eq_true,if_false,if_true,Bool.or_false]
     have IH:=IH (fun i=>p (i+1)) (fun i=>q (i+1)) (out++[x])
     cases hs:CD l (fun i=>q (i+1))with
     |nil=>rw[hs]at IH;rw[SX]at IH ⊢;rw[show out++x::CD l (fun i=>p (i+1))=out++[x]++CD l (fun i=>p (i+1)) by simp,IH];simp
     |cons z b=>
       rw[hs]at IH
       have hz:=h1 z (TM (by rw[hs];simp))
       rw[CI,if_pos hz,IH];simp
   · simp only[CD,hp,hq,if_true,Bool.or_self]
     have IH:=IH (fun i=>p (i+1)) (fun i=>q (i+1)) (out++[x])
     rw[CI,if_neg (by simp[Lk]),if_neg (by simp[Lk]),IH];simp
end Go.Proofs.YtpkhodjlnodagaaGreatDoor
namespace Go.Proofs.YtpkhodjlnodagaaGreatDoor
open Go.Av
set_option maxHeartbeats 4000000
attribute [local irreducible] Af
def EJ(l:List Ev)(e:Ev):Nat→Nat
 |0=>0
 |i+1=>match l[i]? with
   |some y=>if B8 e y then EJ l e i else i+1
   |none=>i+1
def H1(l:List Ev)(e:Ev):List Ev:=l.take (EJ l e l.length)++[e]++l.drop (EJ l e l.length)
theorem KS(l:List Ev)(e:Ev): ∀ i,EJ l e i≤i
 |0=>by simp[EJ]
 |i+1=>by
   have:=KS l e i
   unfold EJ
   split
   · split<;>omega
   · omega
theorem Yi(l:List Ev)(e:Ev)(hl:l.length≤2^30):Af Tryz.prog 54 [.sl 10 (evE l),.agg (evC e)] [] (.osl 0 (H1 l e).length 10) [some ⟨56,10,evE (H1 l e)⟩]:=by
 refine acN 34 0 Tryz.func54 fun C hN hk=>?_
 have hle:=KS l e l.length
 refine Ah [0,3] ?_
 refine Ah [0,3,5] ?_
 refine lpF hk 1 (fun i:Nat=>⟨[(0,.sl 10 (evE l)),(3,.ptr 0 10 0 0),(5,I i)],[(0,some ⟨56,10,[evC e]⟩)]⟩) (fun i=>i≤l.length∧EJ l e i=EJ l e l.length) (fun i=>i) l.length (C9 evC.eq_1 [some 0] []) ?_
 rintro i ⟨h1,h2⟩
 have fin: ∀ k,k=EJ l e l.length→(l.take k++[e]++l.drop k)=H1 l e:=by intro k hk;subst hk;rfl
 cases i with
 |zero=>
   have hf:=fin 0 h2
   simp only[List.take_zero,List.drop_zero,List.nil_append]at hf
   have d0:decide (((0:Nat):Int)>0)=false:=by simp
   have hfl:(H1 l e).length=1+l.length:=by rw[← hf];simp;omega
   refine nx ?_
   refine rD hN hk noc [] [0,3,5,19] fun K tok htok hK=>?_
   simp only[go_sem,seval,d0]
   try simp (disch:=omega) only[au]
   try simp only[go_sem,seval,d0]
   refine⟨htok _ (by decide+kernel),?_⟩
   (first|with_reducible refine hK _ _ ?_|refine obK (hK _ _ ?_));clear hK K htok tok
   refine nx ?_;refine cF ?_;refine Ah [0,3,5,6] ?_
   refine IC [4] ?_
   rw[← hf]
   have hcons: ∀ l,evE (e::l)=evC e::evE l:=fun _=>rfl
   refine AW.ret (B0 [some 0] [] rfl (by simp[Ax,lk,lkh,I,str,B,U8,U64,U32,hcons,evC,AE,AO]<;>omega) (by first|(simp[Am,Ai,Aj,lkh,hcons,evC,AE,AO];done)|simp[Am,Ai,Aj,lkh,I,str,hcons,evC,AE,AO]))
 |succ j=>
   have hj:j<l.length:=by omega
   have hx:=List.getElem?_eq_getElem hj
   have q:=VY e l[j]
   have h3:EJ l e (j+1)=if B8 e l[j]then EJ l e j else j+1:=by rw[EJ,hx]
   have e1:(((j+1:Nat):Int)-1)=(j:Int):=by omega
   have d0:decide (((j+1:Nat):Int)>0)=true:=by simp
   have w1:=As (n:=(j:Int)) (by omega)
   generalize l[j]=y at*
   cases hb:B8 e y with
   |true=>
     rw[hb]at q h3
     rw[if_pos rfl]at h3
     refine nx ?_
     refine rD hN hk (onc 9 (pcq q) noc) [] [0,3,5,19] fun K tok htok hK=>?_
     simp only[go_sem,seval,d0,e1,w1,hx]
     try simp (disch:=omega) only[au]
     try simp only[go_sem,seval,d0,e1,w1,hx]
     refine⟨htok _ (by decide+kernel),?_⟩
     refine obK (hK _ _ ?_);clear hK K htok tok
     refine nx ?_;refine cT ?_;have F:=And.intro e1 w1;refine A5 [0,3,5] ?_;clear F
     refine eE (j) (C9 evC.eq_1 [some 0] [])
   |false=>
     rw[hb]at q h3
     rw[if_neg (by simp)]at h3
     have hf:=fin (j+1) (by omega)
     have e3:(((j+1:Nat):Int)).toNat=j+1:=by omega
     have hfl:(H1 l e).length=l.length+1:=by rw[← hf];simp;omega
     refine nx ?_
     refine rD hN hk (onc 9 (pcq q) noc) [] [0,3,5,19] fun K tok htok hK=>?_
     simp only[go_sem,seval,d0,e1,w1,hx]
     try simp (disch:=omega) only[au]
     try simp only[go_sem,seval,d0,e1,w1,hx]
     refine⟨htok _ (by decide+kernel),?_⟩
     refine obK (hK _ _ ?_);clear hK K htok tok
     refine nx ?_;refine cF ?_;have F:=e3;refine AB [0,3,5,6] ?_;clear F
     have F:=e3;refine DV [4] ?_;clear F
     rw[← hf]
     refine AW.ret (DX [some 0] [])
def orF(l:List Int):Int:=match l.find? fun x=>x !=0 with
 |some x=>x
 |none=>0
theorem Agw(l:List Int)(hl:l.length≤2^30):Af Tryz.prog 97 [.sl 1 (Ak l)] [] (I (orF l)) []:=by
 refine acN 18 0 Tryz.func97 fun C hN hk=>?_
 refine Ah [0] ?_
 refine Ah [0,3] ?_
 refine Ah [3,6,7,8] ?_
 refine lpF hk 0 (fun i:Nat=>⟨[(3,I 0),(6,.sl 1 (Ak l)),(7,I l.length),(8,I i)],[]⟩) (fun i=>i≤l.length∧ ∀ x∈l.take i,(x !=0)=false) (fun i=>l.length-i) 0 (Eb [] []) ?_
 rintro i ⟨h1,h2⟩
 by_cases hi:i<l.length
 · have hx:=List.getElem?_eq_getElem hi
   rcases dqB (l[i] !=0)with e|e
   · have hg:orF l=l[i]:=by unfold orF;rw[UK hi h2 e]
     rw[hg]
     generalize l[i]=x at*
     have F:=And.intro hx e;refine A5 [3,6,7,8,9] ?_;clear F;refine cT ?_;have F:=And.intro hx e;refine AB [3,5,6,7,8] ?_;clear F
     have F:=And.intro hx e;refine A5 [3,5,6,7,8,14] ?_;clear F;refine cT ?_;have F:=And.intro hx e;refine AB [2] ?_;clear F
     refine AW.ret (DX [] [])
   · have h3: ∀ x∈l.take (i+1),(x !=0)=false:=by
       rw[List.take_add_one,hx]
       intro x hx
       rcases List.mem_append.1 hx with hx|hx
       · exact h2 x hx
       · simp at hx;rw[hx];exact e
     generalize l[i]=x at*
     have F:=And.intro hx e;refine A5 [3,6,7,8,9] ?_;clear F;refine cT ?_;have F:=And.intro hx e;refine AB [3,5,6,7,8] ?_;clear F
     have F:=And.intro hx e;refine A5 [3,5,6,7,8,14] ?_;clear F;refine cF ?_;have F:=And.intro hx e;refine A5 [3,6,7,8] ?_;clear F
     refine eE (i+1) (Eb [] [])
 · have:i=l.length:=by omega
   subst this
   rw[List.take_length]at h2
   have hg:orF l=0:=by
     unfold orF
     rw[List.find?_eq_none.2 (fun x hx=>by simp[h2 x hx])]
   rw[hg]
   refine AU [3,6,7,8,9] ?_;refine cF ?_;refine Ah [2] ?_
   refine AW.ret (DX [] [])
theorem MA{x y:Int}(h:x<y):EM x y= -1:=by simp[EM,h]
theorem MM{x y:Int}(h:y<x):EM x y=1:=by unfold EM;rw[if_neg (by omega),if_pos h]
theorem Mz(x:Int):EM x x=0:=by simp[EM]
theorem AbC(a b:Ev):decide (orF [EM a.time b.time,EM a.host b.host,EM a.file b.file,EM a.frm b.frm]<0)=B8 a b:=by
 unfold orF B8
 rcases Int.lt_trichotomy a.time b.time with h1|h1|h1
 · rw[MA h1,if_pos (by omega)];simp[h1]
 · rw[h1,Mz,if_neg (by simp)]
   rcases Int.lt_trichotomy a.host b.host with h2|h2|h2
   · rw[MA h2,if_pos (by omega)];simp[h2]
   · rw[h2,Mz,if_neg (by simp)]
     rcases Int.lt_trichotomy a.file b.file with h3|h3|h3
     · rw[MA h3,if_pos (by omega)];simp[h3]
     · rw[h3,Mz,if_neg (by simp)]
       rcases Int.lt_trichotomy a.frm b.frm with h4|h4|h4
       · rw[MA h4];simp[h4]
       · rw[h4,Mz];simp
       · rw[MM h4];simp;omega
     · rw[MM h3,if_pos (by omega)];simp;omega
   · rw[MM h2,if_pos (by omega)];simp;omega
 · rw[MM h1,if_pos (by omega)];simp;omega
theorem PQ(a b:Ev):Af Tryz.prog 51 [.agg (evC a),.agg (evC b)] [] (B (B8 a b)) []:=by
 refine acN 28 0 Tryz.func51 fun C hN hk=>?_
 have q1:=K5 a.time b.time
 have q2:=K5 a.host b.host
 have q3:=K5 a.file b.file
 have q4:=K5 a.frm b.frm
 have q5:=Agw [EM a.time b.time,EM a.host b.host,EM a.file b.file,EM a.frm b.frm] (by simp)
 have he:=AbC a b
 generalize orF _=r at*
 generalize EM a.time b.time=c1 at*
 generalize EM a.host b.host=c2 at*
 generalize EM a.file b.file=c3 at*
 generalize EM a.frm b.frm=c4 at*
 rw[← he]
 refine Ah [2,3] ?_
 refine rD hN hk (onc 4 (pcq q1) (onc 9 (pcq q2) (onc 14 (pcq q3) (onc 19 (pcq q4) (onc 21 (bcq [162] q5) noc))))) [] [4] fun K tok htok hK=>?_
 simp only[go_sem,seval]
 try simp (disch:=omega) only[au]
 refine⟨htok _ (by decide+kernel),?_⟩
 refine obK (hK _ _ ?_);clear hK K htok tok
 refine nx ?_
 refine AW.ret (DX [] [])
def fnV(g:Nat):AV:= .val (.func (.func g) #[] #[])
attribute [go_sem] fnV
def Jn(a b:List Ev):List Ev:=CI a b []
theorem S4: ∀ (n:Nat) (a b out:List Ev),a.length+b.length≤n→(CI a b out).length≤out.length+a.length+b.length:=by
 intro n
 induction n with
 |zero=>
   intro a b out h
   have ha:a=[]:=List.length_eq_zero_iff.1 (by omega)
   have hb:b=[]:=List.length_eq_zero_iff.1 (by omega)
   subst ha hb
   simp[CI]
 |succ n ih=>
   intro a b out h
   match a,b with
   | [],b=>simp[CI]
   |x::a,[]=>simp[CI]
   |x::a,y::b=>
     rw[CI]
     split
     · have:=ih a (y::b) (out++[x]) (by simp at h ⊢;omega)
       simp at*;omega
     · split
       · have:=ih (x::a) b (out++[y]) (by simp at h ⊢;omega)
         simp at*;omega
       · have:=ih a b (out++[x]) (by simp at h ⊢;omega)
         simp at*;omega
theorem ZU(a b:List Ev):(Jn a b).length≤a.length+b.length:=by
 have:=S4 _ a b [] (Nat.le_refl _)
 simpa [Jn] using this
theorem ZG(a b:List Ev)(ha:a.length≤2^30)(hb:b.length≤2^30):Af Tryz.prog 50 [.sl 10 (evE a),.sl 10 (evE b),fnV 51] [] (.osl 0 (Jn a b).length 10) [some ⟨56,10,evE (Jn a b)⟩]:=by
 refine acN 65 0 Tryz.func50 fun C hN hk=>?_
 unfold Jn
 refine Ah [0,1,2] ?_
 refine Ah [0,1,2,7] ?_
 refine lpF hk 1 (fun s:List Ev×List Ev×List Ev=>⟨[(0,.sl 10 (evE s.1)),(1,.sl 10 (evE s.2.1)),(2,fnV 51),(7,.osl 0 s.2.2.length 10)],[(0,some ⟨56,10,evE s.2.2⟩)]⟩) (fun s=>s.1.length+s.2.1.length+s.2.2.length≤a.length+b.length∧CI s.1 s.2.1 s.2.2=CI a b []) (fun s=>s.1.length+s.2.1.length) (a,b,[]) (C9 fnV.eq_1 [none] []) ?_
 rintro⟨a',b',out⟩ ⟨h1,h2⟩
 simp only at h1 h2
 match a',b' with
 | [],b'=>
   have d0:decide (((([]:List Ev).length:Nat):Int)>0)=false:=by simp
   rw[CI]at h2
   simp only[List.length_nil]at h1
   refine nx ?_;refine rG hN hk noc [] [0,1,2,7,15] fun K hK=>?_;simp only[go_sem,seval,d0]
   try simp (disch:=omega) only[au]
   try simp only[go_sem,seval,d0]
   (first|with_reducible refine hK _ _ ?_|refine obK (hK _ _ ?_));clear hK K;refine nx ?_
   refine cF ?_;refine Ah [6] ?_
   rw[← h2]
   refine AW.ret (DX [some 0] [])
 |x::a',[]=>
   have d0:decide (((a'.length+1:Nat):Int)>0)=true:=by simp
   have d1:decide ((0:Int)>0)=false:=by simp
   rw[CI]at h2
   simp only[List.length_nil,List.length_cons]at h1
   refine nx ?_;refine rG hN hk noc [] [0,1,2,7,15] fun K hK=>?_;simp only[go_sem,seval,d0,Pv,List.length_nil]
   try simp (disch:=omega) only[au]
   try simp only[go_sem,seval,d0,Pv,List.length_nil]
   (first|with_reducible refine hK _ _ ?_|refine obK (hK _ _ ?_));clear hK K;refine nx ?_
   refine cF ?_;have F:=Pv;refine AB [6] ?_;clear F
   rw[← h2]
   refine AW.ret (DX [some 0] [])
 |x::a',y::b'=>
   have d0:decide (((a'.length+1:Nat):Int)>0)=true:=by simp
   have d1:decide (((b'.length+1:Nat):Int)>0)=true:=by simp
   have q1:=PQ x y
   have q2:=PQ y x
   rw[CI]at h2
   simp only[List.length_cons]at h1
   cases hl:B8 x y with
   |true=>
     rw[hl]at q1
     rw[if_pos hl]at h2
     refine nx ?_;refine rG hN hk noc [] [0,1,2,7,15] fun K hK=>?_;simp only[go_sem,seval,d0,d1]
     try simp (disch:=omega) only[au]
     try simp only[go_sem,seval,d0,d1]
     (first|with_reducible refine hK _ _ ?_|refine obK (hK _ _ ?_));clear hK K;refine nx ?_
     refine cT ?_;refine IC [0,1,2,7,26] ?_ (onc 7 (pcq q1) noc)
     refine nx ?_;refine cT ?_;refine nx ?_
     refine rD hN hk noc [] [0,1,2,7] fun K tok htok hK=>?_
     simp only[go_sem,seval,List.take_length]
     refine⟨htok _ (by decide+kernel),?_⟩
     (first|with_reducible refine hK _ _ ?_|refine obK (hK _ _ ?_));clear hK K htok tok
     refine nx ?_
     refine eE ((a',y::b',out++[x])) (C9 fnV.eq_1 [some 0] [])
   |false=>
     rw[hl]at q1
     rw[if_neg (by simp[hl])]at h2
     cases hl2:B8 y x with
     |true=>
       rw[hl2]at q2
       rw[if_pos hl2]at h2
       refine nx ?_;refine rG hN hk noc [] [0,1,2,7,15] fun K hK=>?_;simp only[go_sem,seval,d0,d1]
       try simp (disch:=omega) only[au]
       try simp only[go_sem,seval,d0,d1]
       (first|with_reducible refine hK _ _ ?_|refine obK (hK _ _ ?_));clear hK K;refine nx ?_
       refine cT ?_;refine IC [0,1,2,7,26] ?_ (onc 7 (pcq q1) noc)
       refine nx ?_;refine cF ?_;refine IC [0,1,2,7,43] ?_ (onc 7 (pcq q2) noc)
       refine nx ?_;refine cT ?_;refine nx ?_
       refine rD hN hk noc [] [0,1,2,7] fun K tok htok hK=>?_
       simp only[go_sem,seval,List.take_length]
       refine⟨htok _ (by decide+kernel),?_⟩
       (first|with_reducible refine hK _ _ ?_|refine obK (hK _ _ ?_));clear hK K htok tok
       refine nx ?_
       refine eE ((x::a',b',out++[y])) (C9 fnV.eq_1 [some 0] [])
     |false=>
       rw[hl2]at q2
       rw[if_neg (by simp[hl2])]at h2
       refine nx ?_;refine rG hN hk noc [] [0,1,2,7,15] fun K hK=>?_;simp only[go_sem,seval,d0,d1]
       try simp (disch:=omega) only[au]
       try simp only[go_sem,seval,d0,d1]
       (first|with_reducible refine hK _ _ ?_|refine obK (hK _ _ ?_));clear hK K;refine nx ?_
       refine cT ?_;refine IC [0,1,2,7,26] ?_ (onc 7 (pcq q1) noc)
       refine nx ?_;refine cF ?_;refine IC [0,1,2,7,43] ?_ (onc 7 (pcq q2) noc)
       refine nx ?_;refine cF ?_;refine nx ?_
       refine rD hN hk noc [] [0,1,2,7] fun K tok htok hK=>?_
       simp only[go_sem,seval,List.take_length]
       refine⟨htok _ (by decide+kernel),?_⟩
       (first|with_reducible refine hK _ _ ?_|refine obK (hK _ _ ?_));clear hK K htok tok
       refine nx ?_
       refine eE ((a',b',out++[x])) (C9 fnV.eq_1 [some 0] [])
def GD(ls:List (List Ev))(i:Nat):List Ev:=(ls.take i).foldl Jn []
theorem XY(ls:List (List Ev))(i:Nat)(h:i<ls.length):GD ls (i+1)=Jn (GD ls i) ls[i]:=by
 unfold GD
 rw[List.take_add_one,List.getElem?_eq_getElem h,List.foldl_append]
 rfl
theorem Rw(ls:List (List Ev))(h: ∀ l∈ls,l.length≤4096): ∀ i,i≤ls.length→(GD ls i).length≤i*4096
 |0,_=>by simp[GD]
 |i+1,hi=>by
   have:=Rw ls h i (by omega)
   have:=h ls[i] (List.getElem_mem _)
   have:=ZU (GD ls i) ls[i]
   rw[XY ls i (by omega)];omega
theorem Xz(ls:List (List Ev))(hn:ls.length≤4096)(hl: ∀ l∈ls,l.length≤4096):Af Tryz.prog 16 [.sl 1 (elE ls)] [] (.sl 10 (evE (GD ls ls.length))) []:=by
 refine acN 17 0 Tryz.func16 fun C hN hk=>?_
 have hml:=Rw ls hl
 refine Ah [0] ?_
 refine Ah [0,3] ?_
 refine Ah [3,6,7,8] ?_
 refine lpF hk 0 (fun i:Nat=>⟨[(3,.sl 10 (evE (GD ls i))),(6,.sl 1 (elE ls)),(7,I ls.length),(8,I i)],[]⟩) (fun i=>i≤ls.length) (fun i=>ls.length-i) 0 (C9 GD.eq_1 [] []) ?_
 intro i h1
 have hmi:=hml i h1
 by_cases hi:i<ls.length
 · have hx:=List.getElem?_eq_getElem hi
   have h2:=hl _ (List.getElem_mem hi)
   have hs:=XY ls i hi
   have q:=ZG (GD ls i) ls[i] (by omega) (by omega)
   generalize Jn (GD ls i) ls[i]=r at*
   generalize GD ls i=m at*
   generalize ls[i]=l at*
   have F:=hx;refine A5 [3,6,7,8,9] ?_;clear F;refine cT ?_;refine Dw [3,5,6,7,8] ?_
   refine Dw [3,6,7,8] ?_ (onc 2 (pcq q) noc)
   have F:=hx;refine A5 [3,6,7,8] ?_;clear F
   refine eE (i+1) (Ol [] [0])
 · have:i=ls.length:=by omega
   subst this
   generalize GD ls ls.length=m at*
   refine AU [3,6,7,8,9] ?_;refine cF ?_;refine Ah [2] ?_
   refine AW.ret (DX [] [])
theorem V8(l:List Ev)(h:Asc l): ∀ (ps:List (Nat→Bool)) (q:Nat→Bool),(ps.map (CD l)).foldl Jn (CD l q)=CD l (fun i=>q i||ps.any fun p=>p i)
 | [],q=>by simp
 |p::ps,q=>by
   have e:Jn (CD l q) (CD l p)=CD l (fun i=>q i||p i):=by
     unfold Jn;rw[M4 l q p [] h];rfl
   simp only[List.map_cons,List.foldl_cons,e]
   rw[V8 l h ps]
   congr 1;funext i;simp[Bool.or_assoc]
theorem Aep(l:List Ev)(h:Asc l)(ps:List (Nat→Bool))(hall: ∀ i,i<l.length→ps.any (fun p=>p i)=true):GD (ps.map (CD l)) (ps.map (CD l)).length=l:=by
 unfold GD
 rw[List.take_length]
 have e:([]:List Ev)=CD l (fun _=>false):=(PY l _ (fun _ _=>rfl)).symm
 rw[e,V8 l h ps]
 exact RY l _ (fun i hi=>by simp[hall i hi])
end Go.Proofs.YtpkhodjlnodagaaGreatDoor
