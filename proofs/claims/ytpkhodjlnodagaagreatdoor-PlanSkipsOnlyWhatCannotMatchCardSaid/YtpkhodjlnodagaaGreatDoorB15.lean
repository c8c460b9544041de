/- Part 15 of the proof of PlanSkipsOnlyWhatCannotMatch. -/
import Derived.Test.YtpkhodjlnodagaaGreatDoorB14
set_option linter.unusedSimpArgs false
set_option linter.unusedVariables false
set_option linter.unusedSectionVars false
namespace Go.Av
section
variable {P : Program} {C : Ctx} {Q : Exit → Nat → AS → Prop} {n k : Nat} {s : AS} {ops : Array Oper} {w : World}
theorem XL{t:TypeId}{e:TypeId}(hu:P.underlying t=some (.slice e))(a:Option Addr)(len cap:Nat):(Op.equal t (.slice a len cap) (.slice none 0 0)).run P w= .ok a.isNone w:=by
 show(Op.equalIn (9999+1) t _ _).run P w=_
 rw[Op.equalIn,run_bind,At hu]
 cases a<;>rfl
theorem OW.nil{o:Oper}{d t:Nat}{xt yt e:TypeId}{sz:Nat}{es:List (List AV)}(hT:B4 P (Ao P))(ho:ops[k]? =some o)(hop:o.op= .binOp .eql xt (.tmp t) (.const (.slice none 0 0)) yt)(hgd:BM ops (lk s.env) o=some true)(hd:o.dst=some d)(hdN:d<C.N)
   (ht:lk s.env t= .sl sz es) (hx:Bl (Ao P) xt=some (.slice e)) (h: ∀ b,(b=true→es=[])→OW P C ops Q (k+1) n ⟨(d,.val (.bool b))::s.env,s.hp⟩):OW P C ops Q k n s:=by
 intro a w hI
 have hk:k<ops.size:=Bp ho
 obtain⟨β,hS,hn⟩:=hI
 rw[show ops.size-k=(ops.size- (k+1))+1 by omega,List.range'_succ,wpOpsIn_cons]
 unfold wpOpIn
 simp only[ho]
 have hw:Region.wanted o (yielded ops a.tmps)=true:=J7 hS hgd
 rw[if_pos hw]
 unfold Oper.wpIn
 refine⟨fun _ _=>trivial,?_⟩
 rw[Oper.semAt_eq _ _ _ (by intro c hc;rw[hop]at hc;cases hc)]
 have hu:=Bq hT hx
 have hv:Rep w β (Own C.X β (lkh s.hp)) (.sl sz es) (a.eval (.tmp t)):=by
   have:=DB hS.env (.tmp t)
   have e1:evA s.st.env (.tmp t)= .sl sz es:=ht
   rwa [e1]at this
 obtain⟨ad,len,cap,hv1,hv2⟩: ∃ ad len cap,a.eval (.tmp t)= .slice ad len cap∧(ad.isNone=true→es=[]):=by
   simp only[Rep]at hv
   rcases hv with ⟨h1,h2⟩|⟨b,off,cap,vs,h1,_⟩
   · exact⟨none,0,0,h1,fun _=>h2⟩
   · exact⟨_,_,_,h1,fun hh=>by simp at hh⟩
 have hrun:(execOp a.eval o).run P w= .ok (.value (.bool ad.isNone)) w:=by
   simp only[execOp,hop]
   refine Dv ?_
   show(do eqGuard .eql xt _ _ (a.eval (.tmp t)) (.slice none 0 0);Go.binOp .eql xt (a.eval (.tmp t)) (.slice none 0 0):Sem Value).run P w=_
   rw[hv1]
   simp only[eqGuard,Bool.not_true,Bool.false_eq_true,if_false,run_bind,run_pure,binOp,XL hu]
 rw[hrun]
 show wpOpsIn C.F 0 P ops _ _ (a.put o.dst _) w
 refine h ad.isNone hv2 _ _ ⟨β,⟨hS.good,fun u=>?_,by simp[Act.put,hd,hS.size],by rw[hd];exact hS.defers,hS.frm,hS.keepX,hS.ext⟩,hn⟩
 rw[hd]
 have hlt:d<a.tmps.size:=by rw[hS.size];exact hdN
 simp only[AS.st,Act.put,K0 hlt,lk]
 by_cases he:d=u
 · subst he;simp[Rep]
 · simp only[if_neg he];exact hS.env u
end
end Go.Av
namespace Go.Av
def ksN(hp:List (Nat×Option Ent)):List Nat→List Nat→List Nat
 | [],acc=>acc
 |i::r,acc=>ksN hp r (GY acc (match lkh hp i with
   |some e=>HI e.es
   |none=>[]))
def G6(ks keep:List Nat)(s:AS):List Nat:=Ir s.hp (EB s.env keep) (ksN s.hp ks ks)
def KH(ks keep:List Nat)(s:AS):AS:=⟨PM (G6 ks keep s) (EB s.env keep),hpC s.hp (G6 ks keep s) 0 (G6 ks keep s)⟩
theorem W5{hp:List (Nat×Option Ent)}: ∀ (r l:List Nat),l.Nodup→(ksN hp r l).Nodup∧ ∃ x,ksN hp r l=l++x
 | [],l,h=>⟨h,[],by simp[ksN]⟩
 |i::r,l,h=>by
   simp only[ksN]
   obtain⟨h1,x,h2⟩:=Iw (match lkh hp i with
     |some e=>HI e.es
     |none=>[]) l h
   obtain⟨h3,x',h4⟩:=W5 r _ h1
   exact⟨h3,x++x',by rw[h4,h2];simp⟩
theorem NA{s:AS}{k:Nat}{ks keep:List Nat}(hks:ks=List.range k):Wk k s (G6 ks keep s).length (KH ks keep s):=by
 obtain⟨h0,x,hx⟩:=W5 (hp:=s.hp) ks ks (by rw[hks];exact List.nodup_range)
 obtain⟨hnd,r,hr⟩:=L1 (hp:=s.hp) (EB s.env keep) (ksN s.hp ks ks) h0
 refine⟨(G6 ks keep s).map some,[],⟨N7 _ 0 sP hnd,sP,?_⟩,sP,I0 _ (fun t a h=>JZ h),OF _ 0 sP⟩
 have:G6 ks keep s=List.range k++(x++r):=by rw[← hks,← List.append_assoc,← hx];exact hr
 rw[this,List.map_append,List.take_left' sP]
attribute [go_sem] ksN G6 KH
section
variable [Yl] {P : Program} {N kk n : Nat} {R : Res → Prop} {rv : List ResultVar} {st : List Fr} {s : AS} {s0 : AS} {k : Nat} {ts : List Touch} {l : List Oper}
theorem A7(keep:List Nat){id:Nat}{draw:Bool}{n':Nat}{s':AS}{c':Hd}{st':List Fr}(h:XH P N kk R rv c' st' n' s')
   (hs:((G6 (List.range kk) keep s).length,KH (List.range kk) keep s)=(n',s'):=by(try simp only[go_sem,seval]);rfl) (hn:CU 60 .n st=(c',st'):=by rfl) (ht:(!draw||BS (CA l []) ts)=true:=by first|rfl|decide+kernel) (hok:Ct N l.toArray draw=true:=by decide+kernel) (hk:l.length=k:=by rfl) (hm:P.follows .mixedOrders=true:=by exact Bh):
   XO P n l.toArray s0 (XH P N kk R rv (.c (.region id l.toArray draw)) st n s0) k [] s ts:=by
 rintro _ ⟨orc,p,s1,hr,hp,hse,hsh⟩
 have hst:s1.st=s.st:=by simp only[AS.st,hse,hsh]
 have hall:l.toArray.toList.take k=l.toArray.toList:=List.take_of_length_le sO
 rw[hall]at hr
 have hq:XH P N kk R rv .n st n' s':=DQ (by rw[hn];exact h)
 simp only[Prod.mk.injEq]at hs
 obtain⟨rfl,rfl⟩:=hs
 refine EX.step (fun x C hN hkk hq=>?_) (show XQ P N kk R rv .normal st _ _ from hq)
 intro a w hI
 refine E3 (BU P) hm hr hp (hN ▸ hok) (fun hd=>by subst hd;simpa using ht) hI ?_
 intro a' w' hI'
 rw[hst]at hI'
 exact⟨_,_,hq,hI'.weak (hkk ▸ NA rfl)⟩
end
end Go.Av
namespace Go.Av
section
variable {P : Program} {C : Ctx} {Q : Exit → Nat → AS → Prop} {n k : Nat} {s : AS} {ops : Array Oper}
theorem Aec{N k0:Nat}(hN:C.N=N)(hk:C.k=k0)(ks keep:List Nat)(hks:ks=List.range k0)(m:Nat)(hm:k+m≤ops.size)(hok:FZ N ops.toList=true){s':AS}{ts:List Touch}{p:Prop}(hrun:Bv P (Ao P) noc n ops ((ops.toList.drop k).take m) k s [] True=some (s',ts,p))(hp:p)
   (h:OW P C ops Q (k+m) (G6 ks keep s').length (KH ks keep s')):OW P C ops Q k n s:=by
 intro a w hI
 have hlen:((ops.toList.drop k).take m).length=m:=by simp;omega
 refine MU (k0:=k) hN hok hp _ k s [] True a w ?_ hrun (Nat.le_refl _) ?_ ?_
 · intro j o hj
   rw[List.getElem?_take]at hj
   split at hj
   · rw[List.getElem?_drop]at hj;simpa using hj
   · simp at hj
 · obtain⟨β,hS,hn⟩:=hI.start
   exact⟨β,hS,fun j hj=>by rcases hn j hj with h|⟨x,hx,_⟩;exact .inl h;simp at hx⟩
 · intro a' w' hI'
   rw[hlen]at hI' ⊢
   have hI2:Dt C (n+8*(k+m)) s'.st a' w':=hI'.done (fun i hi=>by simp at hi;omega)
   exact h a' w' (hI2.weak (hk ▸ NA (hk ▸ hks)))
end
section
variable [Yl] {P : Program} {N kk : Nat} {R : Res → Prop} {rv : List ResultVar} {st : List Fr} {n k : Nat} {s : AS} {l : List Oper}
theorem Gs(m:Nat)(keep:List Nat){n':Nat}{s' s1:AS}{ts1:List Touch}{p:Prop}(h:XOW P N kk R rv l st (k+m) n' s')
   (hr:Bv P (Ao P) noc n l.toArray ((l.drop k).take m) k s [] True=some (s1,ts1,p):=by(try simp only[go_sem,seval]);(iterate 3 (first|(simp only[hx];try simp only[go_sem,seval])|skip);(first|(simp only[hx2];try simp only[go_sem,seval])|skip);(try(simp (disch:=omega) only[au];try simp only[go_sem,seval])));rfl) (hp:p:=by(repeat' (with_reducible refine And.intro ?_ ?_))<;>first|with_reducible exact True.intro|omega|exact CE _|with_reducible assumption|decide|(simp;done)|(simp;omega)|(simp[*];done)|(simp[*];omega))
   (hs:((G6 (List.range kk) keep s1).length,KH (List.range kk) keep s1)=(n',s'):=by(try simp only[go_sem,seval]);rfl) (hm:k+m≤l.length:=by decide) (hok:FZ N l=true:=by decide+kernel):XOW P N kk R rv l st k n s:=by
 refine EX.step (fun x C hN hkk h=>?_) h
 simp only[Prod.mk.injEq]at hs
 obtain⟨rfl,rfl⟩:=hs
 refine Aec hN hkk (List.range kk) keep rfl m (by simpa using hm) (by simpa using hok) (s':=s1) (ts:=ts1) (p:=p) ?_ hp h
 simpa using hr
end
end Go.Av
namespace Go.Av
section
variable {P : Program} {T : Tab} {nb : Nat} {env : Env} {hp : Hp} {w : World} {β : Gm} {O : Nat → Prop}
theorem Sr{env:Env}{a:Act}(henv:DH w β O env a.tmps){x:Operand}{k:IntKind}{n:Nat}(h:evA env x= .val (.int k (n:Int))){y:Nat}(hle:n≤y)(code:BoundsCode):(Instr.sliceBound (a.eval x) y code).run P w= .ok n w:=by
 have:=Kd (P:=P) henv (d:=0) (l:=n) (p:=0≤(n:Int)) (lo:=some x) (by simp[Dn,h]) oM hle code
 simpa using this
theorem Uw(hT:B4 P T){t e:TypeId}{te:TI}{x lo hi mx:Operand}{sz l h m:Nat}{k1 k2 k3:IntKind}{es:List (List AV)}(hd:Bl T t=some (.slice e))(hte:T e=some te)(hsz:te.size=sz)
   (hx:evA env x= .sl sz es) (h1:evA env lo= .val (.int k1 (l:Int))) (h2:evA env hi= .val (.int k2 (h:Int))) (h3:evA env mx= .val (.int k3 (m:Int))) (hl:l≤h) (hh:h≤m) (hm:m≤es.length):
   EM P nb env hp (.slice t x (some lo) (some hi) (some mx)) ⟨.sl sz ((es.take h).drop l),[],[],True⟩:=by
 intro env' hp' hev _ X w β a o ho hg hfresh henv
 have hx':evA env' x= .sl sz es:=by rw[← hev x (by simp[Op.operands])];exact hx
 have h1':evA env' lo=_:=(hev lo (by simp[Op.operands])).symm.trans h1
 have h2':evA env' hi=_:=(hev hi (by simp[Op.operands])).symm.trans h2
 have h3':evA env' mx=_:=(hev mx (by simp[Op.operands])).symm.trans h3
 have hr:=DB henv x
 rw[hx']at hr
 have hu:=Bq hT hd
 obtain⟨ti,z0,hti,hs,_⟩:=tab hT hte
 have hb: ∀ cap,m≤cap→ ∀ len,(Instr.sliceBounds true len cap (some (a.eval lo)) (some (a.eval hi)) (some (a.eval mx))).run P w= .ok (l,h,m) w:=by
   intro cap hc len
   unfold Instr.sliceBounds
   simp only[run_bind,if_true,Sr henv h3' hc,Sr henv h2' hh,Option.isSome_some,Sr henv h1' hl,run_pure]
 simp only[Rep]at hr
 rcases hr with ⟨hv,hes⟩|⟨b,off,cap,vs,hv,g1,g2,g3,g4,g5⟩
 · subst hes
   have hm0:m=0:=by simpa using hm
   subst hm0
   refine⟨.slice none 0 0,w,β,?_,Dh hg rfl (by simp[Rep])⟩
   simp only[execOp,ho]
   refine Dv ?_
   show(Instr.sliceAt t (a.eval x) (some (a.eval lo)) (some (a.eval hi)) (some (a.eval mx))).run P w=_
   rw[hv]
   have:h=0:=by omega
   have:l=0:=by omega
   subst_vars
   simp only[Instr.sliceAt,run_bind,At hu,Instr.slice,hb 0 (Nat.le_refl _) 0,Cc hti,run_pure]
   rfl
 · obtain⟨v1,cu,v2,rfl,hv1,hcu⟩:=g5.cut hl (show h≤es.length by omega)
   have hlen2:((es.take h).drop l).length=h-l:=by simp;omega
   refine⟨.slice (if m=l then some ⟨b,off,none⟩else some ⟨b,off+l*sz,none⟩) (h-l) (m-l),w,β,?_,Dh hg rfl ?_⟩
   · simp only[execOp,ho]
     refine Dv ?_
     show(Instr.sliceAt t (a.eval x) (some (a.eval lo)) (some (a.eval hi)) (some (a.eval mx))).run P w=_
     rw[hv]
     simp only[Instr.sliceAt,run_bind,At hu,Instr.slice,hb cap oM es.length,Cc hti,run_pure,Option.map_some,Eh]
     rw[hs,hsz]
   · simp only[Rep]
     right
     by_cases hc:m=l
     · rw[if_pos hc]
       have:((es.take h).drop l)=[]:=List.eq_nil_of_length_eq_zero oM
       refine⟨b,off,m-l,[],by rw[hlen2],oM,g2,g3,by intro j v hv;simp at hv,by rw[this];simp[AI]⟩
     · rw[if_neg hc]
       refine⟨b,off+l*sz,m-l,cu,by rw[hlen2],oM,g2,g3,?_,hcu⟩
       have:=g4.mid
       rw[hv1]at this;exact this
end
section
variable {P : Program} {C : Ctx} {Q : Exit → Nat → AS → Prop} {n k : Nat} {s : AS} {ops : Array Oper}
theorem OW.raw{N k0:Nat}(hN:C.N=N)(hk:C.k=k0)(ks keep:List Nat)(hks:ks=List.range k0){v:AV}{o:Oper}(ho:ops[k]? =some o)(hgd:BM ops (lk s.env) o=some true)(hok:FZ N ops.toList=true)(hraw:EM P (n+8*k) (lk s.env) (lkh s.hp) o.op ⟨v,[],[],True⟩)
   (h:OW P C ops Q (k+1) (G6 ks keep ⟨BV o.dst v s.env,s.hp⟩).length (KH ks keep ⟨BV o.dst v s.env,s.hp⟩)):OW P C ops Q k n s:=by
 have hk1:k<ops.size:=Bp ho
 have hd:(ops.toList.drop k).take 1=[o]:=by
   have h1:ops.toList[k]? =some o:=by simpa using ho
   rw[List.drop_eq_getElem_cons (by simpa using hk1)]
   have:=(List.getElem?_eq_some_iff.1 h1).2
   simp only[List.take_succ_cons,List.take_zero,this]
 intro a w hI
 refine MU (n:=n) (k0:=k) hN hok (orc:=fun _=>some ⟨[],[],[],.any,[],[],some ⟨v,[],[],True⟩⟩) (p':=True∧True∧EM P (n+8*k) (lk s.env) (lkh s.hp) o.op ⟨v,[],[],True⟩) (s':=⟨BV o.dst v s.env,s.hp⟩) (ts':=[]) ⟨trivial,trivial,hraw⟩ [o] k s [] True a w ?_ ?_ (Nat.le_refl _) ?_ ?_
 · intro j o' hj
   cases j with
   |zero=>simp at hj;subst hj;simpa using ho
   |succ j=>simp at hj
 · simp only[Bv,hgd,CG,FH,DG,List.reverse_nil,List.nil_append]
 · obtain⟨β,hS,hn⟩:=hI.start
   exact⟨β,hS,fun j hj=>by rcases hn j hj with h|⟨x,hx,_⟩;exact .inl h;simp at hx⟩
 · intro a' w' hI'
   have hI2:Dt C (n+8*(k+1)) (⟨BV o.dst v s.env,s.hp⟩:AS).st a' w':=hI'.done (fun i hi=>by simp at hi;omega)
   exact h a' w' (hI2.weak (hk ▸ NA (hk ▸ hks)))
end
section
variable [Yl] {P : Program} {N kk : Nat} {R : Res → Prop} {rv : List ResultVar} {st : List Fr} {n k : Nat} {s : AS} {l : List Oper}
theorem XOW.raw(keep:List Nat){v:AV}{o:Oper}{op:Op}{n':Nat}{s':AS}(hraw:EM P (n+8*k) (lk s.env) (lkh s.hp) op ⟨v,[],[],True⟩)(h:XOW P N kk R rv l st (k+1) n' s')
   (ho:l.toArray[k]? =some o:=by rfl) (hs:((G6 (List.range kk) keep ⟨BV o.dst v s.env,s.hp⟩).length,KH (List.range kk) keep ⟨BV o.dst v s.env,s.hp⟩)=(n',s'):=by(try simp only[go_sem,seval]);rfl) (hgd:BM l.toArray (lk s.env) o=some true:=by rfl) (hok:FZ N l=true:=by decide+kernel) (hop:o.op=op:=by rfl):XOW P N kk R rv l st k n s:=by
 subst hop
 refine EX.step (fun x C hN hkk h=>?_) h
 simp only[Prod.mk.injEq]at hs
 obtain⟨rfl,rfl⟩:=hs
 exact OW.raw hN hkk (List.range kk) keep rfl ho hgd (by simpa using hok) hraw h
end
section
variable {P : Program} {T : Tab} {nb : Nat} {env : Env} {hp : Hp}
theorem OS{w:World}{β:Gm}{O:Nat→Prop}: ∀ vs us:List Value,AJ w β O (vs.map .val) us→us=vs
 | [],us,h=>by simpa [AJ] using h
 |v::r,us,h=>by
   simp only[List.map_cons,AJ]at h
   obtain⟨v',r',rfl,h1,h2⟩:=h
   simp only[Rep]at h1
   rw[h1,OS r r' h2]
theorem YD{t:TypeId}{parts:Array (Nat×Operand)}{pv:Array (Nat×Value)}{vs:List Value}(hpv: ∀ a:Act,(parts.map fun(i,x)=>(i,a.eval x))=pv)(hb:P.built t pv.toList=some vs.toArray):
   EM P nb env hp (.build t parts) ⟨.agg (vs.map .val),[],[],True⟩:=by
 intro env' hp' hev _ X w β a o ho hg hfresh henv
 refine⟨.agg vs.toArray,w,β,?_,Dh hg rfl ?_⟩
 · simp only[execOp,ho]
   refine Dv ?_
   rw[hpv a]
   exact run_build w t pv vs.toArray hb
 · simp only[Rep]
   exact⟨vs,rfl,Gg vs⟩
theorem Ip(hT:B4 P T){t e:TypeId}{len:Nat}{x i:Operand}{k:IntKind}{j:Nat}{vs:List Value}{v:Value}{te:TI}(hd:Bl T t=some (.array len e))(hte:T e=some te)(hsz:te.size=1)(hag:Dw te.desc=false)
   (hx:evA env x= .agg (vs.map .val)) (hi:evA env i= .val (.int k (j:Int))) (hj:j<len) (hv:vs[j]? =some v):
   EM P nb env hp (.index t x i) ⟨.val v,[],[],True⟩:=by
 intro env' hp' hev _ X w β a o ho hg hfresh henv
 have hx':evA env' x=_:=(hev x (by simp[Op.operands])).symm.trans hx
 have hi':evA env' i=_:=(hev i (by simp[Op.operands])).symm.trans hi
 have hrx:=DB henv x
 rw[hx']at hrx
 have hri:=DB henv i
 rw[hi']at hri
 have hu:=Bq hT hd
 obtain⟨ti,z0,hti,hs,_,_,_,hud,_⟩:=tab hT hte
 simp only[Rep]at hri hrx
 obtain⟨us,hxe,hus⟩:=hrx
 have hus':us=vs:=OS vs us hus
 subst hus'
 refine⟨v,w,β,?_,Dh hg rfl (by simp[Rep])⟩
 simp only[execOp,ho]
 refine Dv ?_
 rw[hxe,hri]
 have hb:(0:Int)≤(j:Int)∧(j:Int)<(len:Int):=by omega
 simp only[Instr.index,run_bind,asIntOf,run_pure,At hu,if_pos hb,Cc hti,hs,hsz,part,Kb hud,hag,Int.toNat_natCast,Nat.mul_one,List.getElem?_toArray,hv]
 rfl
end
section
variable [Yl] {P : Program} {N kk n : Nat} {R : Res → Prop} {rv : List ResultVar} {st : List Fr} {s : AS} {ops : Array Oper} {s0 : AS} {G : Prop} {k : Nat} {ts : List Touch} {rem : List Oper}
theorem XO.raw{o:Oper}{v:AV}{op:Op}(q:EM P (n+8*k) (lk s.env) (lkh s.hp) op ⟨v,[],[],True⟩)(h:XO P n ops s0 G (k+1) rem ⟨BV o.dst v s.env,s.hp⟩ ts)
   (hgd:BM ops (lk s.env) o=some true:=by rfl) (hop:o.op=op:=by rfl):XO P n ops s0 G k (o::rem) s ts:=by
 subst hop
 refine C0 (orc:=fun _=>some ⟨[],[],[],.any,[],[],some ⟨v,[],[],True⟩⟩) 1 sP (rem':=rem) rfl (s':=⟨BV o.dst v s.env,s.hp⟩) (ts':=ts) (p:=True∧True∧EM P (n+8*k) (lk s.env) (lkh s.hp) o.op ⟨v,[],[],True⟩) ?_ ⟨trivial,trivial,q⟩ h
 simp only[List.take_succ_cons,List.take_zero,Bv,hgd,CG,FH]
 rfl
theorem AbH(ids:List Nat){o:Oper}{g:FuncId}{xa:List AV}{hs:List Ent}{r:AV}{hs':List (Option Ent)}(q:Ad P g xa (hs.map some) r hs'){az:List AV}(hcl:oCl o (lk s.env)=some (g,az))(hgd:BM ops (lk s.env) o=some true)
   (hv:Fo (lkh s.hp) [] az (BK (Bu ids (n+8*k)) xa)) (hnd:ids.Nodup) (hent:Md (lkh s.hp) (Bu ids (n+8*k)) ids.length ids hs) (hl:hs.length≤hs'.length) (hl8:hs'.length≤hs.length+8) (hid:AF ids.length xa=true) (hne:ids≠[])
   (h:XO P n ops s0 G (k+1) rem ⟨BV o.dst (ren (Bu ids (n+8*k)) r) s.env,(DK (Bu ids (n+8*k)) 0 hs').reverse++s.hp⟩ ((k,ids,(DK (Bu ids (n+8*k)) 0 hs').map (·.1))::ts)):XO P n ops s0 G k (o::rem) s ts:=by
 have hρ:(⟨ids,hs,xa,r,hs',[],none⟩:Orc).ρ (n+8*k)=Bu ids (n+8*k):=rfl
 have hx:CG P (Ao P) (some ⟨ids,hs,xa,r,hs',[],none⟩) (n+8*k) (lk s.env) (lkh s.hp) o.op=some (Bd P g az (lkh s.hp) (n+8*k) ⟨ids,hs,xa,r,hs',[],none⟩):=X3 rfl hcl
 have hob:(Bd P g az (lkh s.hp) (n+8*k) ⟨ids,hs,xa,r,hs',[],none⟩).ob:=
   DS ⟨q,by rw[hρ];exact hv,hnd,by rw[hρ];exact hent,hl,hl8,trivial,trivial,hid⟩
 refine C0 (orc:=fun _=>some ⟨ids,hs,xa,r,hs',[],none⟩) 1 sP (rem':=rem) rfl (p:=True∧_) ?_ ⟨trivial,hob⟩ h
 simp only[List.take_succ_cons,List.take_zero,Bv,hgd,hx]
 have e1:(Bd P g az (lkh s.hp) (n+8*k) ⟨ids,hs,xa,r,hs',[],none⟩).v=ren (Bu ids (n+8*k)) r:=by rw[Ho,hρ]
 have e2:(Bd P g az (lkh s.hp) (n+8*k) ⟨ids,hs,xa,r,hs',[],none⟩).hw=DK (Bu ids (n+8*k)) 0 hs':=by rw[HW,hρ]
 have e3:(Bd P g az (lkh s.hp) (n+8*k) ⟨ids,hs,xa,r,hs',[],none⟩).hr=ids:=by rw[Jl];simp
 rw[e1,e2]
 simp only[DG,e2,e3]
 cases ids with
 |nil=>exact absurd rfl hne
 |cons a l=>rfl
end
section
variable [Yl] {P : Program} {N kk n : Nat} {R : Res → Prop} {rv : List ResultVar} {st : List Fr} {s : AS} {ops : Array Oper} {s0 : AS} {G : Prop} {k : Nat} {ts : List Touch} {rem : List Oper}
theorem AhG(i:Nat){g:FuncId}{sz m sz2:Nat}{xs:List AV}{e e' e2:Ent}{o:Oper}(q:Ad P g (.ptr 0 sz 0 0::xs) [some e] (.osl 1 m sz2) [some e',some e2])(h:XO P n ops s0 G (k+1) rem ⟨BV o.dst (.osl (n+8*k) m sz2) s.env,[(n+8*k,some e2),(i,some e')]++s.hp⟩ ((k,[i],[i,n+8*k])::ts))
   (hcal:FB o=some g:=by rfl) (hgd:BM ops (lk s.env) o=some true:=by rfl) (ha:BX o (lk s.env)= .ptr i sz 0 0::xs:=by rfl) (h1:lkh s.hp i=some e:=by rfl) (qa:AF 0 xs=true:=by rfl) (he:AB 0 e.es=true:=by first|rfl|simp) (he':AB 0 e'.es=true:=by first|rfl|simp) (he2:AB 0 e2.es=true:=by first|rfl|simp):XO P n ops s0 G k (o::rem) s ts:=by
 have e0:Bu [i] (n+8*k) 0=i:=rfl
 have e1:Bu [i] (n+8*k) 1=n+8*k:=rfl
 refine VL [i] (xa:= .ptr 0 sz 0 0::xs) (hs:=[e]) q hcal hgd ?_ sP ⟨?_,K4 _ he,trivial⟩ sP sP ?_ sP ?_
 · rw[ha]
   simp only[BK,ren,e0]
   rw[CJ _ _ qa]
   exact Cq _ _
 · rw[h1,Cr _ he]
 · simp only[AF,AN,Bool.and_eq_true]
   exact⟨sP,EK _ _ qa⟩
 · have hw:DK (Bu [i] (n+8*k)) 0 [some e',some e2]=[(i,some e'),(n+8*k,some e2)]:=by
     simp only[DK,Option.map_some,Cr _ he',Cr _ he2,e0,Nat.zero_add,e1]
   rw[hw]
   simp only[ren,e1]
   exact h
theorem Oi(i:Nat){g:FuncId}{sz m sz2:Nat}{xs:List AV}{e e' e2:Ent}{o:Oper}(q:Ad P g (.ptr 0 sz 0 0::xs) [some e] (.osl 1 m sz2) [some e',some e2])(h:XO P n ops s0 G (k+1) rem ⟨BV o.dst (.osl (n+8*k) m sz2) s.env,[(n+8*k,some e2),(i,some e')]++s.hp⟩ ((k,[i],[i,n+8*k])::ts))
   {az:List AV} (hcl:oCl o (lk s.env)=some (g,az):=by rfl) (hgd:BM ops (lk s.env) o=some true:=by rfl) (ha:az= .ptr i sz 0 0::xs:=by rfl) (h1:lkh s.hp i=some e:=by rfl) (qa:AF 0 xs=true:=by rfl) (he:AB 0 e.es=true:=by first|rfl|simp) (he':AB 0 e'.es=true:=by first|rfl|simp) (he2:AB 0 e2.es=true:=by first|rfl|simp):XO P n ops s0 G k (o::rem) s ts:=by
 have e0:Bu [i] (n+8*k) 0=i:=rfl
 have e1:Bu [i] (n+8*k) 1=n+8*k:=rfl
 refine AbH [i] (xa:= .ptr 0 sz 0 0::xs) (hs:=[e]) q hcl hgd ?_ sP ⟨?_,K4 _ he,trivial⟩ sP sP ?_ sP ?_
 · rw[ha]
   simp only[BK,ren,e0]
   rw[CJ _ _ qa]
   exact Cq _ _
 · rw[h1,Cr _ he]
 · simp only[AF,AN,Bool.and_eq_true]
   exact⟨sP,EK _ _ qa⟩
 · have hw:DK (Bu [i] (n+8*k)) 0 [some e',some e2]=[(i,some e'),(n+8*k,some e2)]:=by
     simp only[DK,Option.map_some,Cr _ he',Cr _ he2,e0,Nat.zero_add,e1]
   rw[hw]
   simp only[ren,e1]
   exact h
end
section
variable [Yl] {P : Program} {N kk n : Nat} {R : Res → Prop} {rv : List ResultVar} {st : List Fr} {s : AS}
theorem Xe{x:Operand}{a b:Code}{c':Hd}{st':List Fr}(h:XH P N kk R rv c' st' n s)(hc:evA (lk s.env) x= .val (.bool false):=by rfl)(hn:CU 60 (.c b) st=(c',st'):=by rfl):XH P N kk R rv (.c (.cond x a b)) st n s:=NO hc (DQ (h:= .c b) (by rw[hn];exact h))
end
section
variable {P : Program} {T : Tab} {nb : Nat} {env : Env} {hp : Hp}
def CpS(P:Program)(hp:Hp)(sz n:Nat)(y:AV)(es:List (List AV))(rs:List Nat):Prop:=
 ∀ (hp':Hp),(∀ i∈rs,hp i=hp' i)→ ∀ (X:Nat→Prop) (w:World) (β:Gm) (v:Value),Good X w β hp'→Rep w β (Own X β hp') y v→
   ∃ vs L,AI w β (Own X β hp') sz es vs∧(Builtin.lenOf v).run P w= .ok L w∧Nat.min L n=es.length∧(Builtin.firstCells sz es.length v).run P w= .ok vs.toArray w
theorem Af6{sz n:Nat}{y:AV}{es:List (List AV)}{rs:List Nat}{p:Prop}(h:Ig hp sz y=some (es,rs,p))(hpp:p)(hl:es.length≤n):CpS P hp sz n y es rs:=by
 intro hp' hh X w β v hg hy
 obtain⟨vs,h1,h2,h3⟩:=Iq (P:=P) hg (Ij h hh) hpp hy
 exact⟨vs,_,h1,h2 w,Nat.min_eq_left hl,h3 w rfl⟩
theorem Aet{sz n i k m:Nat}{E:Ent}(he:hp i=some E)(hs:E.sz=sz)(hk:k≤E.es.length)(hl:m=min k n):CpS P hp sz n (.osv i 0 k sz) (E.es.take m) [i]:=by
 intro hp' hh X w β v hg hy
 have he':hp' i=some E:=by rw[← hh i sP];exact he
 have hlen:(E.es.take m).length=m:=by simp;omega
 have hso:Ig hp' sz (.osv i 0 m sz)=some (E.es.take m,[i],0+m≤E.es.length∧sz=sz∧E.sz=sz):=by simp only[Ig,he',List.drop_zero]
 simp only[Rep]at hy
 rcases hy with ⟨hb,rfl,rfl⟩|⟨b,off,cap,T',m',hb,rfl,h1,h5,h2,h3⟩
 · obtain rfl:m=0:=by omega
   exact⟨[],0,by simp[AI],rfl,sP,by simp;rfl⟩
 · obtain⟨vs,q1,_,q3⟩:=Iq (P:=P) (v:= .slice (some ⟨b,off,none⟩) m cap) hg hso ⟨oM,rfl,hs⟩ (by
     simp only[Rep]
     refine .inr ⟨b,off,cap,T',m',hb,rfl,oM,?_,h2,h3⟩
     rcases h5 with h5|h5
     · exact .inl h5
     · exact .inr ⟨oM,h5.2⟩)
   refine⟨vs,k,q1,rfl,by rw[hlen];exact hl.symm,?_⟩
   exact q3 w rfl
theorem Aau(hT:B4 P T){d y:Operand}{dT sT e:TypeId}{te:TI}{i lo n sz:Nat}{E:Ent}{es:List (List AV)}{rs:List Nat}(hd:Bl T dT=some (.slice e))(hte:T e=some te)(hsz:te.size=sz)
   (hx: ∀ w β O v,Rep w β O (evA env d) v→Rep w β O (.osv i lo n sz) v) (he:hp i=some E) (hes:E.sz=sz) (hl:lo+n≤E.es.length) (hn:0<es.length) (hst:es.all (fun c=>c.all CC)=true) (hs:CpS P hp sz n (evA env y) es rs):
   EM P nb env hp (.call {callee:= .builtin .copy,args:= #[d,y],argTypes:= #[dT,sT]}) ⟨.val (.int .i64 es.length),[(i,some {E with es:=E.es.take lo++(es++E.es.drop (lo+es.length))})],i::rs,True⟩:=by
 intro env' hp' hev hh X w β a o ho hg hfresh henv
 have hu:=Bq hT hd
 obtain⟨ti,z,hi,hisz,_⟩:=tab hT hte
 have he':hp' i=some E:=by rw[← hh i sP];exact he
 have rd:Rep w β (Own X β hp') (.osv i lo n sz) (a.eval d):=hx _ _ _ _ (by rw[hev d (by simp[Op.operands,Call.operands])];exact DB henv d)
 have ry:Rep w β (Own X β hp') (evA env y) (a.eval y):=by rw[hev y (by simp[Op.operands,Call.operands])];exact DB henv y
 obtain⟨vs,L,h1,h2,h3,h4⟩:=hs hp' (fun j hj=>hh j (by simp[hj])) X w β _ hg ry
 have hm:es.length≤n:=by rw[← h3];exact Nat.min_le_right _ _
 simp only[Rep]at rd
 rcases rd with ⟨_,_,h0⟩|⟨b,off,cap,T',m,hb,hdv,c1,c2,c3,c4⟩
 · omega
 · have ho':off=lo*sz:=by
     rcases c2 with h|⟨h,_⟩
     · exact h
     · omega
   rcases hg.ent i E he' with ⟨hb',_⟩|⟨b',c,fr,old,rest,hb',hheap,hfr,hc,hr⟩
   · rw[hb]at hb';simp at hb'
   · obtain rfl:b=b':=by rw[hb]at hb';simpa using hb'
     rw[hes]at hr
     have hvl:vs.length=es.length*sz:=h1.length
     obtain⟨v1,cu,v2,rfl,hv1,hcu⟩:=hr.cut (l:=lo) (k:=lo+es.length) oM oM
     have hcul:cu.length=es.length*sz:=by rw[hcu.length];simp;congr 1;omega
     have hol:(v1++cu++v2).length=E.es.length*sz:=hr.length
     have hsize:c.size=v1.length+cu.length+v2.length+rest.length:=by rw[← Array.length_toList,hc];simp;omega
     have hroom:off+0+vs.length≤c.size:=by rw[hsize,ho',hv1,hvl,hcul];omega
     have hput:=EI (P:=P) (b:=b) (off:=off) vs 0 w c hheap hroom hfr (I1 hst h1)
     have hrun:(Builtin.copy_ #[dT,sT] o.type #[a.eval d,a.eval y]).run P w= .ok (goInt es.length) (CO w b (.cells (Ey c (off+0) vs) E.ty fr)):=by
       unfold Builtin.copy_
       simp only[List.getElem?_toArray,List.getElem?_cons_zero,List.getElem?_cons_succ,run_bind,At hu,run_pure,hdv,h2,h3,Cc hi,hisz,hsz,h4,hput]
     refine⟨goInt es.length,CO w b (.cells (Ey c (off+0) vs) E.ty fr),β,?_,HE (c':=Ey c (off+0) vs) (e':={E with es:=E.es.take lo++(es++E.es.drop (lo+es.length))}) (vs:=v1++(vs++v2)) (rest:=rest) hg he' hb hheap hfr rfl (Fs _ _ _) ?_ ?_ rfl (fun _ _=>by simp[Rep,goInt])⟩
     · simp only[execOp,ho,resolve,run_bind,run_pure,invoke,builtin]
       simp only[List.map_toArray,List.map_cons,List.map_nil,hrun]
     · rw[Ft _ _ _ oM,hc]
       have e1:off+0=v1.length:=by rw[hv1,ho'];rfl
       rw[e1,hvl,← hcul]
       simp
     · show AI w β (Own X β hp') E.sz _ _
       rw[hes]
       have e3:E.es=E.es.take lo++(((E.es.take (lo+es.length)).drop lo)++E.es.drop (lo+es.length)):=by
         have h8:(E.es.take (lo+es.length)).drop lo=(E.es.drop lo).take es.length:=by rw[List.drop_take];congr 1;omega
         rw[h8,← List.drop_drop,List.take_append_drop,List.take_append_drop]
       rw[e3]at hr
       obtain⟨u1,u2,hu12,g1,g2⟩:=hr.split
       obtain⟨u3,u4,rfl,g3,g4⟩:=g2.split
       have l1:u1.length=v1.length:=by rw[g1.length,hv1];simp;congr 1;omega
       have l3:u3.length=cu.length:=by rw[g3.length,hcu.length]
       rw[List.append_assoc]at hu12
       have k1:=(List.append_inj hu12 l1.symm)
       have k2:=List.append_inj k1.2 l3.symm
       rw[k1.1,k2.2]
       exact g1.append (h1.append g4)
theorem XV(hT:B4 P T){x:Operand}{t e:TypeId}{te:TI}{i lo n sz:Nat}{E:Ent}(hd:Bl T t=some (.slice e))(hte:T e=some te)(hsz:te.size=sz)(h0:0<sz)(hn:0<n)
   (hx: ∀ w β O v,Rep w β O (evA env x) v→Rep w β O (.osv i lo n sz) v) (he:hp i=some E) (hes:E.sz=sz) (hl:lo+n≤E.es.length) (hz:te.zero.all Gf=true):
   EM P nb env hp (.call {callee:= .builtin .clear,args:= #[x],argTypes:= #[t]}) ⟨.tup [],[(i,some {E with es:=E.es.take lo++(List.replicate n (te.zero.map .val)++E.es.drop (lo+n))})],[i],True⟩:=by
 intro env' hp' hev hh X w β a o ho hg hfresh henv
 have hu:=Bq hT hd
 obtain⟨ti,z,hi,hisz,_,hzr,hzc,_,hzl⟩:=tab hT hte
 have he':hp' i=some E:=by rw[← hh i sP];exact he
 have rd:Rep w β (Own X β hp') (.osv i lo n sz) (a.eval x):=hx _ _ _ _ (by rw[hev x (by simp[Op.operands,Call.operands])];exact DB henv x)
 have hzsz:z.cells.size=sz:=by rw[← Array.length_toList,hzc,hzl,hsz]
 simp only[Rep]at rd
 rcases rd with ⟨_,_,h0'⟩|⟨b,off,cap,T',m,hb,hdv,c1,c2,c3,c4⟩
 · omega
 · have ho':off=lo*sz:=by
     rcases c2 with h|⟨h,_⟩
     · exact h
     · omega
   rcases hg.ent i E he' with ⟨hb',_⟩|⟨b',c,fr,old,rest,hb',hheap,hfr,hc,hr⟩
   · rw[hb]at hb';simp at hb'
   · obtain rfl:b=b':=by rw[hb]at hb';simpa using hb'
     rw[hes]at hr
     have h1:AI w β (Own X β hp') sz (List.replicate n (te.zero.map .val)) (List.replicate n te.zero).flatten:=L8 (by rw[hzl,hsz]) n
     have hvl:(List.replicate n te.zero).flatten.length=n*sz:=by rw[h1.length];simp
     have hzp: ∀ v∈(List.replicate n te.zero).flatten,Gf v=true:=by
       intro v hv
       obtain⟨l,hl1,hl2⟩:=List.mem_flatten.1 hv
       rw[(List.mem_replicate.1 hl1).2]at hl2
       exact List.all_eq_true.1 hz v hl2
     have hzz:(Builtin.zeroCells z.cells n).toList=(List.replicate n te.zero).flatten:=by
       rw[← hzc];exact Nb z.cells oM n
     generalize (List.replicate n te.zero).flatten=vs at*
     obtain⟨v1,cu,v2,rfl,hv1,hcu⟩:=hr.cut (l:=lo) (k:=lo+n) oM oM
     have hcul:cu.length=n*sz:=by rw[hcu.length];simp;congr 1;omega
     have hol:(v1++cu++v2).length=E.es.length*sz:=hr.length
     have hsize:c.size=v1.length+cu.length+v2.length+rest.length:=by rw[← Array.length_toList,hc];simp;omega
     have hroom:off+0+vs.length≤c.size:=by rw[hsize,ho',hv1,hvl,hcul];omega
     have hput:=EI (P:=P) (b:=b) (off:=off) vs 0 w c hheap hroom hfr hzp
     have hrun:(Builtin.clear_ #[t] o.type #[a.eval x]).run P w= .ok (.tuple #[]) (CO w b (.cells (Ey c (off+0) vs) E.ty fr)):=by
       obtain⟨n,rfl⟩: ∃ k,n=k+1:=⟨n-1,oM⟩
       unfold Builtin.clear_
       simp only[List.getElem?_toArray,List.getElem?_cons_zero,List.getElem?_cons_succ,run_bind,At hu,run_pure,hdv,Gq hi hzr,hzz,hput]
     refine⟨.tuple #[],CO w b (.cells (Ey c (off+0) vs) E.ty fr),β,?_,HE (c':=Ey c (off+0) vs) (e':={E with es:=E.es.take lo++(List.replicate n (te.zero.map .val)++E.es.drop (lo+n))}) (vs:=v1++(vs++v2)) (rest:=rest) hg he' hb hheap hfr rfl (Fs _ _ _) ?_ ?_ rfl (fun _ _=>by simp[Rep,AJ])⟩
     · simp only[execOp,ho,resolve,run_bind,run_pure,invoke,builtin]
       simp only[List.map_toArray,List.map_cons,List.map_nil,hrun]
     · rw[Ft _ _ _ oM,hc]
       have e1:off+0=v1.length:=by rw[hv1,ho'];rfl
       rw[e1,hvl,← hcul]
       simp
     · show AI w β (Own X β hp') E.sz _ _
       rw[hes]
       have e3:E.es=E.es.take lo++(((E.es.take (lo+n)).drop lo)++E.es.drop (lo+n)):=by
         have h8:(E.es.take (lo+n)).drop lo=(E.es.drop lo).take n:=by rw[List.drop_take];congr 1;omega
         rw[h8,← List.drop_drop,List.take_append_drop,List.take_append_drop]
       rw[e3]at hr
       obtain⟨u1,u2,hu12,g1,g2⟩:=hr.split
       obtain⟨u3,u4,rfl,g3,g4⟩:=g2.split
       have l1:u1.length=v1.length:=by rw[g1.length,hv1];simp;congr 1;omega
       have l3:u3.length=cu.length:=by rw[g3.length,hcu.length]
       rw[List.append_assoc]at hu12
       have k1:=(List.append_inj hu12 l1.symm)
       have k2:=List.append_inj k1.2 l3.symm
       rw[k1.1,k2.2]
       exact g1.append (h1.append g4)
end
section
variable [Yl] {P : Program} {n : Nat} {s : AS} {ops : Array Oper} {s0 : AS} {G : Prop} {k : Nat} {ts : List Touch} {rem : List Oper}
theorem UH{o:Oper}{v:AV}{op:Op}{i:Nat}{e:Ent}{hr:List Nat}(q:EM P (n+8*k) (lk s.env) (lkh s.hp) op ⟨v,[(i,some e)],hr,True⟩)(h:XO P n ops s0 G (k+1) rem ⟨BV o.dst v s.env,(i,some e)::s.hp⟩ (DG k ⟨v,[(i,some e)],hr,True⟩ ts))
   (hop:o.op=op:=by rfl) (hgd:BM ops (lk s.env) o=some true:=by rfl):XO P n ops s0 G k (o::rem) s ts:=by
 subst hop
 refine C0 (orc:=fun _=>some ⟨[],[],[],.any,[],[],some ⟨v,[(i,some e)],hr,True⟩⟩) 1 sP (rem':=rem) rfl (s':=⟨BV o.dst v s.env,(i,some e)::s.hp⟩) (ts':=DG k ⟨v,[(i,some e)],hr,True⟩ ts) (p:=True∧True∧EM P (n+8*k) (lk s.env) (lkh s.hp) o.op ⟨v,[(i,some e)],hr,True⟩) ?_ ⟨trivial,trivial,q⟩ h
 simp only[List.take_succ_cons,List.take_zero,Bv,hgd,CG,FH]
 rfl
end
section
variable [Yl] {P : Program} {n : Nat} {s : AS} {ops : Array Oper} {s0 : AS} {G : Prop} {k : Nat} {ts : List Touch} {rem : List Oper}
def asV(a:AV):AV:=match a with
 | .osl i n sz=> .osv i 0 n sz
 |a=>a
theorem Vn{w:World}{β:Gm}{O:Nat→Prop}{a:AV}{v:Value}(h:Rep w β O a v):Rep w β O (asV a) v:=by
 cases a with
 |osl i n sz=>
   simp only[asV,Rep]at h ⊢
   rcases h with h|⟨b,cap,T,m,h1,h2,h3,h4,h5⟩
   · exact .inl h
   · exact .inr ⟨b,0,cap,T,m,h1,h2,h3,.inl sP,h4,oM⟩
 |_=>exact h
theorem Abt(es:List (List AV))(es':List (List AV)){rs:List Nat}{o:Oper}{d y:Operand}{dT sT e:TypeId}{te:TI}{i lo m sz nn:Nat}{E:Ent}(hs:CpS P (lkh s.hp) sz nn (evA (lk s.env) y) es rs)(hm:es.length=m)(h1:0<m)(hst:es.all (fun c=>c.all CC)=true)
   (hes':E.es.take lo++(es++E.es.drop (lo+m))=es') (hlo:lo+nn≤E.es.length)
   (h:XO P n ops s0 G (k+1) rem ⟨BV o.dst (.val (.int .i64 m)) s.env,(i,some ⟨E.ty,E.sz,es'⟩)::s.hp⟩ (DG k ⟨.val (.int .i64 m),[(i,some ⟨E.ty,E.sz,es'⟩)],i::rs,True⟩ ts))
   (hd:Bl (Ao P) dT=some (.slice e):=by simp only[go_sem]) (hte:(Ao P) e=some te:=by simp only[go_sem]) (hsz:te.size=sz:=by rfl) (hx:asV (evA (lk s.env) d)= .osv i lo nn sz:=by rfl) (he:lkh s.hp i=some E:=by rfl) (hE:E.sz=sz:=by rfl)
   (hop:o.op= .call {callee:= .builtin .copy,args:= #[d,y],argTypes:= #[dT,sT]}:=by rfl) (hgd:BM ops (lk s.env) o=some true:=by rfl):XO P n ops s0 G k (o::rem) s ts:=by
 subst hm;subst hes'
 exact UH (Aau (BU P) hd hte hsz (fun w β O v h=>by rw[← hx];exact Vn h) he hE hlo h1 hst hs) h hop hgd
theorem Ya(es':List (List AV)){o:Oper}{x:Operand}{t e:TypeId}{te:TI}{i lo m sz:Nat}{E:Ent}(h1:0<m)(hlo:lo+m≤E.es.length)(hes':E.es.take lo++(List.replicate m (te.zero.map .val)++E.es.drop (lo+m))=es')
   (h:XO P n ops s0 G (k+1) rem ⟨BV o.dst (.tup []) s.env,(i,some ⟨E.ty,E.sz,es'⟩)::s.hp⟩ (DG k ⟨.tup [],[(i,some ⟨E.ty,E.sz,es'⟩)],[i],True⟩ ts))
   (hd:Bl (Ao P) t=some (.slice e):=by simp only[go_sem]) (hte:(Ao P) e=some te:=by simp only[go_sem]) (hsz:te.size=sz:=by rfl) (h0:0<sz:=by decide) (hx:asV (evA (lk s.env) x)= .osv i lo m sz:=by rfl) (he:lkh s.hp i=some E:=by rfl) (hE:E.sz=sz:=by rfl) (hz:te.zero.all Gf=true:=by rfl)
   (hop:o.op= .call {callee:= .builtin .clear,args:= #[x],argTypes:= #[t]}:=by rfl) (hgd:BM ops (lk s.env) o=some true:=by rfl):XO P n ops s0 G k (o::rem) s ts:=by
 subst hes'
 exact UH (XV (BU P) hd hte hsz h0 h1 (fun w β O v h=>by rw[← hx];exact Vn h) he hE hlo hz) h hop hgd
theorem AhS(bor:List Nat)(xa:List AV){o:Oper}{g:FuncId}{r r':AV}{e:Ent}(q:Ad P g xa [] r [some e])
   (h':XO P n ops s0 G (k+1) rem ⟨BV o.dst r' s.env,(n+8*k,some e)::s.hp⟩ ((k,bor,[n+8*k])::ts)) (hv:Fo (lkh s.hp) bor (BX o (lk s.env)) xa) (hb:DY (lkh s.hp) [] bor) (hr:ren (Bu [] (n+8*k)) r=r':=by(simp only[ren,BK,Bu,List.length_nil,Nat.not_lt_zero,if_false,Nat.sub_zero,go_sem,seval];rfl)) (hei:AB 0 e.es=true:=by first|rfl|simp) (hns:EC e.es=true:=by simp) (hnr:ER r=true:=by rfl) (hcal:FB o=some g:=by rfl) (hgd:BM ops (lk s.env) o=some true:=by rfl)
   (hid:AF 0 xa=true:=by rfl):XO P n ops s0 G k (o::rem) s ts:=by
 have h:XO P n ops s0 G (k+1) rem ⟨BV o.dst (ren (Bu [] (n+8*k)) r) s.env,(n+8*k,some (Cy (Bu [] (n+8*k)) e))::s.hp⟩ ((k,bor,[n+8*k])::ts):=by rw[hr,Cr _ hei];exact h'
 have hx:CG P (Ao P) (some ⟨[],[],xa,r,[some e],bor,none⟩) (n+8*k) (lk s.env) (lkh s.hp) o.op=some (Bd P g (BX o (lk s.env)) (lkh s.hp) (n+8*k) ⟨[],[],xa,r,[some e],bor,none⟩):=by
   unfold FB at hcal
   split at hcal
   · rename_i c hop
     split at hcal
     · rename_i g' hcl
       simp only[Option.some.injEq]at hcal
       subst hcal
       simp only[CG,FH,Bj,hop,hcl,evA,BX]
     · simp at hcal
   · simp at hcal
 have hρ:(⟨[],[],xa,r,[some e],bor,none⟩:Orc).ρ (n+8*k)=Bu [] (n+8*k):=rfl
 have hob:(Bd P g (BX o (lk s.env)) (lkh s.hp) (n+8*k) ⟨[],[],xa,r,[some e],bor,none⟩).ob:=by
   refine DS ⟨q,by rw[hρ,CJ _ _ hid];exact hv,sP,trivial,sP,sP,?_,hb,hid⟩
   unfold N0
   split
   · trivial
   · exact⟨hnr,fun e' he'=>by simp at he';subst he';exact hns⟩
 refine C0 (orc:=fun _=>some ⟨[],[],xa,r,[some e],bor,none⟩) 1 sP (rem':=rem) rfl (s':=⟨BV o.dst (ren (Bu [] (n+8*k)) r) s.env,(n+8*k,some (Cy (Bu [] (n+8*k)) e))::s.hp⟩) (ts':=(k,bor,[n+8*k])::ts) (p:=True∧_) ?_ ⟨trivial,hob⟩ h
 simp only[List.take_succ_cons,List.take_zero,Bv,hgd,hx]
 have e1:(Bd P g (BX o (lk s.env)) (lkh s.hp) (n+8*k) ⟨[],[],xa,r,[some e],bor,none⟩).v=ren (Bu [] (n+8*k)) r:=by rw[Ho,hρ]
 have e0:Bu [] (n+8*k) 0=n+8*k:=by simp[Bu]
 have e2:(Bd P g (BX o (lk s.env)) (lkh s.hp) (n+8*k) ⟨[],[],xa,r,[some e],bor,none⟩).hw=[(n+8*k,some (Cy (Bu [] (n+8*k)) e))]:=by rw[HW,hρ];simp only[DK,Option.map_some,e0]
 have e3:(Bd P g (BX o (lk s.env)) (lkh s.hp) (n+8*k) ⟨[],[],xa,r,[some e],bor,none⟩).hr=bor:=by simp[Bd]
 rw[e1,e2]
 simp only[DG,e2,e3]
 cases bor<;>rfl
end
end Go.Av
