/- Part 15 of the proof of PlanCandidates. -/
import Derived.Test.YtpkhodjlnodagaaGreatDoorA14
set_option linter.unusedSimpArgs false
set_option linter.unusedVariables false
set_option linter.unusedSectionVars false
namespace Go.Av
section
variable {P : Program} {C : Ctx} {Q : Exit → Nat → AS → Prop} {n k : Nat} {s : AS} {ops : Array Oper} {w : World}
theorem XC{t:TypeId}{e:TypeId}(hu:P.underlying t=some (.slice e))(a:Option Addr)(len cap:Nat):(Op.equal t (.slice a len cap) (.slice none 0 0)).run P w= .ok a.isNone w:=by
 show(Op.equalIn (9999+1) t _ _).run P w=_
 rw[Op.equalIn,run_bind,At hu]
 cases a<;>rfl
theorem OW.nil{o:Oper}{d t:Nat}{xt yt e:TypeId}{sz:Nat}{es:List (List AV)}(hT:BZ P (Ao P))(ho:ops[k]? =some o)(hop:o.op= .binOp .eql xt (.tmp t) (.const (.slice none 0 0)) yt)(hgd:BI ops (lk s.env) o=some true)(hd:o.dst=some d)(hdN:d<C.N)
   (ht:lk s.env t= .sl sz es) (hx:Bm (Ao P) xt=some (.slice e)) (h: ∀ b,(b=true→es=[])→OW P C ops Q (k+1) n ⟨(d,.val (.bool b))::s.env,s.hp⟩):OW P C ops Q k n s:=by
 intro a w hI
 have hk:k<ops.size:=Bn ho
 obtain⟨β,hS,hn⟩:=hI
 rw[show ops.size-k=(ops.size- (k+1))+1 by omega,List.range'_succ,wpOpsIn_cons]
 unfold wpOpIn
 simp only[ho]
 have hw:Region.wanted o (yielded ops a.tmps)=true:=JU hS hgd
 rw[if_pos hw]
 unfold Oper.wpIn
 refine⟨fun _ _=>trivial,?_⟩
 rw[Oper.semAt_eq _ _ _ (by intro c hc;rw[hop]at hc;cases hc)]
 have hu:=Bo hT hx
 have hv:Rep w β (Own C.X β (lkh s.hp)) (.sl sz es) (a.eval (.tmp t)):=by
   have:=DC hS.env (.tmp t)
   have e1:evA s.st.env (.tmp t)= .sl sz es:=ht
   rwa [e1]at this
 obtain⟨ad,len,cap,hv1,hv2⟩: ∃ ad len cap,a.eval (.tmp t)= .slice ad len cap∧(ad.isNone=true→es=[]):=by
   simp only[Rep]at hv
   rcases hv with ⟨h1,h2⟩|⟨b,off,cap,vs,h1,_⟩
   · exact⟨none,0,0,h1,fun _=>h2⟩
   · exact⟨_,_,_,h1,fun hh=>by simp at hh⟩
 have hrun:(execOp a.eval o).run P w= .ok (.value (.bool ad.isNone)) w:=by
   simp only[execOp,hop]
   refine Dt ?_
   show(do eqGuard .eql xt _ _ (a.eval (.tmp t)) (.slice none 0 0);Go.binOp .eql xt (a.eval (.tmp t)) (.slice none 0 0):Sem Value).run P w=_
   rw[hv1]
   simp only[eqGuard,Bool.not_true,Bool.false_eq_true,if_false,run_bind,run_pure,binOp,XC hu]
 rw[hrun]
 show wpOpsIn C.F 0 P ops _ _ (a.put o.dst _) w
 refine h ad.isNone hv2 _ _ ⟨β,⟨hS.good,fun u=>?_,by simp[Act.put,hd,hS.size],by rw[hd];exact hS.defers,hS.frm,hS.keepX,hS.ext⟩,hn⟩
 rw[hd]
 have hlt:d<a.tmps.size:=by rw[hS.size];exact hdN
 simp only[AS.st,Act.put,KY hlt,lk]
 by_cases he:d=u
 · subst he;simp[Rep]
 · simp only[if_neg he];exact hS.env u
end
end Go.Av
namespace Go.Av
def ksN(hp:List (Nat×Option Ent)):List Nat→List Nat→List Nat
 | [],acc=>acc
 |i::r,acc=>ksN hp r (GJ acc (match lkh hp i with
   |some e=>Ht e.es
   |none=>[]))
def GV(ks keep:List Nat)(s:AS):List Nat:=Ik s.hp (Es s.env keep) (ksN s.hp ks ks)
def KA(ks keep:List Nat)(s:AS):AS:=⟨PB (GV ks keep s) (Es s.env keep),hpC s.hp (GV ks keep s) 0 (GV ks keep s)⟩
theorem Ws{hp:List (Nat×Option Ent)}: ∀ (r l:List Nat),l.Nodup→(ksN hp r l).Nodup∧ ∃ x,ksN hp r l=l++x
 | [],l,h=>⟨h,[],by simp[ksN]⟩
 |i::r,l,h=>by
   simp only[ksN]
   obtain⟨h1,x,h2⟩:=Iv (match lkh hp i with
     |some e=>Ht e.es
     |none=>[]) l h
   obtain⟨h3,x',h4⟩:=Ws r _ h1
   exact⟨h3,x++x',by rw[h4,h2];simp⟩
theorem Na{s:AS}{k:Nat}{ks keep:List Nat}(hks:ks=List.range k):Wk k s (GV ks keep s).length (KA ks keep s):=by
 obtain⟨h0,x,hx⟩:=Ws (hp:=s.hp) ks ks (by rw[hks];exact List.nodup_range)
 obtain⟨hnd,r,hr⟩:=LN (hp:=s.hp) (Es s.env keep) (ksN s.hp ks ks) h0
 refine⟨(GV ks keep s).map some,[],⟨NU _ 0 (by simp) hnd,by simp,?_⟩,by simp,IJ _ (fun t a h=>JD h),NV _ 0 (by simp)⟩
 have:GV ks keep s=List.range k++(x++r):=by rw[← hks,← List.append_assoc,← hx];exact hr
 rw[this,List.map_append,List.take_left' (by simp)]
attribute [go_sem] ksN GV KA
section
variable [Yl] {P : Program} {N kk n : Nat} {R : Res → Prop} {rv : List ResultVar} {st : List Fr} {s : AS} {s0 : AS} {k : Nat} {ts : List Touch} {l : List Oper}
theorem A4(keep:List Nat){id:Nat}{draw:Bool}{n':Nat}{s':AS}{c':Hd}{st':List Fr}(h:XH P N kk R rv c' st' n' s')
   (hs:((GV (List.range kk) keep s).length,KA (List.range kk) keep s)=(n',s'):=by(try simp only[go_sem,seval]);rfl) (hn:CS 60 .n st=(c',st'):=by rfl) (ht:(!draw||BO (Cu l []) ts)=true:=by first|rfl|decide+kernel) (hok:Cp N l.toArray draw=true:=by decide+kernel) (hk:l.length=k:=by rfl) (hm:P.follows .mixedOrders=true:=by exact AZ):
   XO P n l.toArray s0 (XH P N kk R rv (.c (.region id l.toArray draw)) st n s0) k [] s ts:=by
 rintro _ ⟨orc,p,s1,hr,hp,hse,hsh⟩
 have hst:s1.st=s.st:=by simp only[AS.st,hse,hsh]
 have hall:l.toArray.toList.take k=l.toArray.toList:=List.take_of_length_le (by simp;omega)
 rw[hall]at hr
 have hq:XH P N kk R rv .n st n' s':=DO (by rw[hn];exact h)
 simp only[Prod.mk.injEq]at hs
 obtain⟨rfl,rfl⟩:=hs
 refine EX.step (fun x C hN hkk hq=>?_) (show XQ P N kk R rv .normal st _ _ from hq)
 intro a w hI
 refine EZ (BQ P) hm hr hp (hN ▸ hok) (fun hd=>by subst hd;simpa using ht) hI ?_
 intro a' w' hI'
 rw[hst]at hI'
 exact⟨_,_,hq,hI'.weak (hkk ▸ Na rfl)⟩
end
end Go.Av
namespace Go.Av
section
variable {P : Program} {C : Ctx} {Q : Exit → Nat → AS → Prop} {n k : Nat} {s : AS} {ops : Array Oper}
theorem Aa0{N k0:Nat}(hN:C.N=N)(hk:C.k=k0)(ks keep:List Nat)(hks:ks=List.range k0)(m:Nat)(hm:k+m≤ops.size)(hok:FN N ops.toList=true){s':AS}{ts:List Touch}{p:Prop}(hrun:Bt P (Ao P) noc n ops ((ops.toList.drop k).take m) k s [] True=some (s',ts,p))(hp:p)
   (h:OW P C ops Q (k+m) (GV ks keep s').length (KA ks keep s')):OW P C ops Q k n s:=by
 intro a w hI
 have hlen:((ops.toList.drop k).take m).length=m:=by simp;omega
 refine Mj (k0:=k) hN hok hp _ k s [] True a w ?_ hrun (Nat.le_refl _) ?_ ?_
 · intro j o hj
   rw[List.getElem?_take]at hj
   split at hj
   · rw[List.getElem?_drop]at hj;simpa using hj
   · simp at hj
 · obtain⟨β,hS,hn⟩:=hI.start
   exact⟨β,hS,fun j hj=>by rcases hn j hj with h|⟨x,hx,_⟩;exact .inl h;simp at hx⟩
 · intro a' w' hI'
   rw[hlen]at hI' ⊢
   have hI2:Dr C (n+8*(k+m)) s'.st a' w':=hI'.done (fun i hi=>by simp at hi;omega)
   exact h a' w' (hI2.weak (hk ▸ Na (hk ▸ hks)))
end
section
variable [Yl] {P : Program} {N kk : Nat} {R : Res → Prop} {rv : List ResultVar} {st : List Fr} {n k : Nat} {s : AS} {l : List Oper}
theorem Gh(m:Nat)(keep:List Nat){n':Nat}{s' s1:AS}{ts1:List Touch}{p:Prop}(h:XOW P N kk R rv l st (k+m) n' s')
   (hr:Bt P (Ao P) noc n l.toArray ((l.drop k).take m) k s [] True=some (s1,ts1,p):=by(try simp only[go_sem,seval]);(iterate 3 (first|(simp only[hx];try simp only[go_sem,seval])|skip);(first|(simp only[hx2];try simp only[go_sem,seval])|skip);(try(simp (disch:=omega) only[au];try simp only[go_sem,seval])));rfl) (hp:p:=by(repeat' (with_reducible refine And.intro ?_ ?_))<;>first|with_reducible exact True.intro|omega|exact CB _|with_reducible assumption|decide|(simp;done)|(simp;omega)|(simp[*];done)|(simp[*];omega))
   (hs:((GV (List.range kk) keep s1).length,KA (List.range kk) keep s1)=(n',s'):=by(try simp only[go_sem,seval]);rfl) (hm:k+m≤l.length:=by decide) (hok:FN N l=true:=by decide+kernel):XOW P N kk R rv l st k n s:=by
 refine EX.step (fun x C hN hkk h=>?_) h
 simp only[Prod.mk.injEq]at hs
 obtain⟨rfl,rfl⟩:=hs
 refine Aa0 hN hkk (List.range kk) keep rfl m (by simpa using hm) (by simpa using hok) (s':=s1) (ts:=ts1) (p:=p) ?_ hp h
 simpa using hr
end
end Go.Av
namespace Go.Av
section
variable {P : Program} {T : Tab} {nb : Nat} {env : Env} {hp : Hp} {w : World} {β : Gm} {O : Nat → Prop}
theorem RS{env:Env}{a:Act}(henv:DE w β O env a.tmps){x:Operand}{k:IntKind}{n:Nat}(h:evA env x= .val (.int k (n:Int))){y:Nat}(hle:n≤y)(code:BoundsCode):(Instr.sliceBound (a.eval x) y code).run P w= .ok n w:=by
 have:=J8 (P:=P) henv (d:=0) (l:=n) (p:=0≤(n:Int)) (lo:=some x) (by simp[Dl,h]) (by omega) hle code
 simpa using this
theorem Uw(hT:BZ P T){t e:TypeId}{te:TI}{x lo hi mx:Operand}{sz l h m:Nat}{k1 k2 k3:IntKind}{es:List (List AV)}(hd:Bm T t=some (.slice e))(hte:T e=some te)(hsz:te.size=sz)
   (hx:evA env x= .sl sz es) (h1:evA env lo= .val (.int k1 (l:Int))) (h2:evA env hi= .val (.int k2 (h:Int))) (h3:evA env mx= .val (.int k3 (m:Int))) (hl:l≤h) (hh:h≤m) (hm:m≤es.length):
   EI P nb env hp (.slice t x (some lo) (some hi) (some mx)) ⟨.sl sz ((es.take h).drop l),[],[],True⟩:=by
 intro env' hp' hev _ X w β a o ho hg hfresh henv
 have hx':evA env' x= .sl sz es:=by rw[← hev x (by simp[Op.operands])];exact hx
 have h1':evA env' lo=_:=(hev lo (by simp[Op.operands])).symm.trans h1
 have h2':evA env' hi=_:=(hev hi (by simp[Op.operands])).symm.trans h2
 have h3':evA env' mx=_:=(hev mx (by simp[Op.operands])).symm.trans h3
 have hr:=DC henv x
 rw[hx']at hr
 have hu:=Bo hT hd
 obtain⟨ti,z0,hti,hs,_⟩:=tab hT hte
 have hb: ∀ cap,m≤cap→ ∀ len,(Instr.sliceBounds true len cap (some (a.eval lo)) (some (a.eval hi)) (some (a.eval mx))).run P w= .ok (l,h,m) w:=by
   intro cap hc len
   unfold Instr.sliceBounds
   simp only[run_bind,if_true,RS henv h3' hc,RS henv h2' hh,Option.isSome_some,RS henv h1' hl,run_pure]
 simp only[Rep]at hr
 rcases hr with ⟨hv,hes⟩|⟨b,off,cap,vs,hv,g1,g2,g3,g4,g5⟩
 · subst hes
   have hm0:m=0:=by simpa using hm
   subst hm0
   refine⟨.slice none 0 0,w,β,?_,Dk hg rfl (by simp[Rep])⟩
   simp only[execOp,ho]
   refine Dt ?_
   show(Instr.sliceAt t (a.eval x) (some (a.eval lo)) (some (a.eval hi)) (some (a.eval mx))).run P w=_
   rw[hv]
   have:h=0:=by omega
   have:l=0:=by omega
   subst_vars
   simp only[Instr.sliceAt,run_bind,At hu,Instr.slice,hb 0 (Nat.le_refl _) 0,B5 hti,run_pure]
   rfl
 · obtain⟨v1,cu,v2,rfl,hv1,hcu⟩:=g5.cut hl (show h≤es.length by omega)
   have hlen2:((es.take h).drop l).length=h-l:=by simp;omega
   refine⟨.slice (if m=l then some ⟨b,off,none⟩else some ⟨b,off+l*sz,none⟩) (h-l) (m-l),w,β,?_,Dk hg rfl ?_⟩
   · simp only[execOp,ho]
     refine Dt ?_
     show(Instr.sliceAt t (a.eval x) (some (a.eval lo)) (some (a.eval hi)) (some (a.eval mx))).run P w=_
     rw[hv]
     simp only[Instr.sliceAt,run_bind,At hu,Instr.slice,hb cap (by omega) es.length,B5 hti,run_pure,Option.map_some,Ec]
     rw[hs,hsz]
   · simp only[Rep]
     right
     by_cases hc:m=l
     · rw[if_pos hc]
       have:((es.take h).drop l)=[]:=List.eq_nil_of_length_eq_zero (by omega)
       refine⟨b,off,m-l,[],by rw[hlen2],by omega,g2,g3,by intro j v hv;simp at hv,by rw[this];simp[AL]⟩
     · rw[if_neg hc]
       refine⟨b,off+l*sz,m-l,cu,by rw[hlen2],by omega,g2,g3,?_,hcu⟩
       have:=g4.mid
       rw[hv1]at this;exact this
end
section
variable {P : Program} {C : Ctx} {Q : Exit → Nat → AS → Prop} {n k : Nat} {s : AS} {ops : Array Oper}
theorem OW.raw{N k0:Nat}(hN:C.N=N)(hk:C.k=k0)(ks keep:List Nat)(hks:ks=List.range k0){v:AV}{o:Oper}(ho:ops[k]? =some o)(hgd:BI ops (lk s.env) o=some true)(hok:FN N ops.toList=true)(hraw:EI P (n+8*k) (lk s.env) (lkh s.hp) o.op ⟨v,[],[],True⟩)
   (h:OW P C ops Q (k+1) (GV ks keep ⟨BR o.dst v s.env,s.hp⟩).length (KA ks keep ⟨BR o.dst v s.env,s.hp⟩)):OW P C ops Q k n s:=by
 have hk1:k<ops.size:=Bn ho
 have hd:(ops.toList.drop k).take 1=[o]:=by
   have h1:ops.toList[k]? =some o:=by simpa using ho
   rw[List.drop_eq_getElem_cons (by simpa using hk1)]
   have:=(List.getElem?_eq_some_iff.1 h1).2
   simp only[List.take_succ_cons,List.take_zero,this]
 intro a w hI
 refine Mj (n:=n) (k0:=k) hN hok (orc:=fun _=>some ⟨[],[],[],.any,[],[],some ⟨v,[],[],True⟩⟩) (p':=True∧True∧EI P (n+8*k) (lk s.env) (lkh s.hp) o.op ⟨v,[],[],True⟩) (s':=⟨BR o.dst v s.env,s.hp⟩) (ts':=[]) ⟨trivial,trivial,hraw⟩ [o] k s [] True a w ?_ ?_ (Nat.le_refl _) ?_ ?_
 · intro j o' hj
   cases j with
   |zero=>simp at hj;subst hj;simpa using ho
   |succ j=>simp at hj
 · simp only[Bt,hgd,CA,FM,DF,List.reverse_nil,List.nil_append]
 · obtain⟨β,hS,hn⟩:=hI.start
   exact⟨β,hS,fun j hj=>by rcases hn j hj with h|⟨x,hx,_⟩;exact .inl h;simp at hx⟩
 · intro a' w' hI'
   have hI2:Dr C (n+8*(k+1)) (⟨BR o.dst v s.env,s.hp⟩:AS).st a' w':=hI'.done (fun i hi=>by simp at hi;omega)
   exact h a' w' (hI2.weak (hk ▸ Na (hk ▸ hks)))
end
section
variable [Yl] {P : Program} {N kk : Nat} {R : Res → Prop} {rv : List ResultVar} {st : List Fr} {n k : Nat} {s : AS} {l : List Oper}
theorem XOW.raw(keep:List Nat){v:AV}{o:Oper}{op:Op}{n':Nat}{s':AS}(hraw:EI P (n+8*k) (lk s.env) (lkh s.hp) op ⟨v,[],[],True⟩)(h:XOW P N kk R rv l st (k+1) n' s')
   (ho:l.toArray[k]? =some o:=by rfl) (hs:((GV (List.range kk) keep ⟨BR o.dst v s.env,s.hp⟩).length,KA (List.range kk) keep ⟨BR o.dst v s.env,s.hp⟩)=(n',s'):=by(try simp only[go_sem,seval]);rfl) (hgd:BI l.toArray (lk s.env) o=some true:=by rfl) (hok:FN N l=true:=by decide+kernel) (hop:o.op=op:=by rfl):XOW P N kk R rv l st k n s:=by
 subst hop
 refine EX.step (fun x C hN hkk h=>?_) h
 simp only[Prod.mk.injEq]at hs
 obtain⟨rfl,rfl⟩:=hs
 exact OW.raw hN hkk (List.range kk) keep rfl ho hgd (by simpa using hok) hraw h
end
section
variable {P : Program} {T : Tab} {nb : Nat} {env : Env} {hp : Hp}
theorem Ou{w:World}{β:Gm}{O:Nat→Prop}: ∀ vs us:List Value,AK w β O (vs.map .val) us→us=vs
 | [],us,h=>by simpa [AK] using h
 |v::r,us,h=>by
   simp only[List.map_cons,AK]at h
   obtain⟨v',r',rfl,h1,h2⟩:=h
   simp only[Rep]at h1
   rw[h1,Ou r r' h2]
theorem V6{t:TypeId}{parts:Array (Nat×Operand)}{pv:Array (Nat×Value)}{vs:List Value}(hpv: ∀ a:Act,(parts.map fun(i,x)=>(i,a.eval x))=pv)(hb:P.built t pv.toList=some vs.toArray):
   EI P nb env hp (.build t parts) ⟨.agg (vs.map .val),[],[],True⟩:=by
 intro env' hp' hev _ X w β a o ho hg hfresh henv
 refine⟨.agg vs.toArray,w,β,?_,Dk hg rfl ?_⟩
 · simp only[execOp,ho]
   refine Dt ?_
   rw[hpv a]
   exact run_build w t pv vs.toArray hb
 · simp only[Rep]
   exact⟨vs,rfl,Gf vs⟩
theorem Ir(hT:BZ P T){t e:TypeId}{len:Nat}{x i:Operand}{k:IntKind}{j:Nat}{vs:List Value}{v:Value}{te:TI}(hd:Bm T t=some (.array len e))(hte:T e=some te)(hsz:te.size=1)(hag:Dv te.desc=false)
   (hx:evA env x= .agg (vs.map .val)) (hi:evA env i= .val (.int k (j:Int))) (hj:j<len) (hv:vs[j]? =some v):
   EI P nb env hp (.index t x i) ⟨.val v,[],[],True⟩:=by
 intro env' hp' hev _ X w β a o ho hg hfresh henv
 have hx':evA env' x=_:=(hev x (by simp[Op.operands])).symm.trans hx
 have hi':evA env' i=_:=(hev i (by simp[Op.operands])).symm.trans hi
 have hrx:=DC henv x
 rw[hx']at hrx
 have hri:=DC henv i
 rw[hi']at hri
 have hu:=Bo hT hd
 obtain⟨ti,z0,hti,hs,_,_,_,hud,_⟩:=tab hT hte
 simp only[Rep]at hri hrx
 obtain⟨us,hxe,hus⟩:=hrx
 have hus':us=vs:=Ou vs us hus
 subst hus'
 refine⟨v,w,β,?_,Dk hg rfl (by simp[Rep])⟩
 simp only[execOp,ho]
 refine Dt ?_
 rw[hxe,hri]
 have hb:(0:Int)≤(j:Int)∧(j:Int)<(len:Int):=by omega
 simp only[Instr.index,run_bind,asIntOf,run_pure,At hu,if_pos hb,B5 hti,hs,hsz,part,Js hud,hag,Int.toNat_natCast,Nat.mul_one,List.getElem?_toArray,hv]
 rfl
end
section
variable [Yl] {P : Program} {N kk n : Nat} {R : Res → Prop} {rv : List ResultVar} {st : List Fr} {s : AS} {ops : Array Oper} {s0 : AS} {G : Prop} {k : Nat} {ts : List Touch} {rem : List Oper}
theorem XO.raw{o:Oper}{v:AV}{op:Op}(q:EI P (n+8*k) (lk s.env) (lkh s.hp) op ⟨v,[],[],True⟩)(h:XO P n ops s0 G (k+1) rem ⟨BR o.dst v s.env,s.hp⟩ ts)
   (hgd:BI ops (lk s.env) o=some true:=by rfl) (hop:o.op=op:=by rfl):XO P n ops s0 G k (o::rem) s ts:=by
 subst hop
 refine CU (orc:=fun _=>some ⟨[],[],[],.any,[],[],some ⟨v,[],[],True⟩⟩) 1 (by simp) (rem':=rem) rfl (s':=⟨BR o.dst v s.env,s.hp⟩) (ts':=ts) (p:=True∧True∧EI P (n+8*k) (lk s.env) (lkh s.hp) o.op ⟨v,[],[],True⟩) ?_ ⟨trivial,trivial,q⟩ h
 simp only[List.take_succ_cons,List.take_zero,Bt,hgd,CA,FM]
 rfl
theorem AaD(ids:List Nat){o:Oper}{g:FuncId}{xa:List AV}{hs:List Ent}{r:AV}{hs':List (Option Ent)}(q:Af P g xa (hs.map some) r hs'){az:List AV}(hcl:oCl o (lk s.env)=some (g,az))(hgd:BI ops (lk s.env) o=some true)
   (hv:Fh (lkh s.hp) [] az (BJ (Bs ids (n+8*k)) xa)) (hnd:ids.Nodup) (hent:LQ (lkh s.hp) (Bs ids (n+8*k)) ids.length ids hs) (hl:hs.length≤hs'.length) (hl8:hs'.length≤hs.length+8) (hid:AE ids.length xa=true) (hne:ids≠[])
   (h:XO P n ops s0 G (k+1) rem ⟨BR o.dst (ren (Bs ids (n+8*k)) r) s.env,(DM (Bs ids (n+8*k)) 0 hs').reverse++s.hp⟩ ((k,ids,(DM (Bs ids (n+8*k)) 0 hs').map (·.1))::ts)):XO P n ops s0 G k (o::rem) s ts:=by
 have hρ:(⟨ids,hs,xa,r,hs',[],none⟩:Orc).ρ (n+8*k)=Bs ids (n+8*k):=rfl
 have hx:CA P (Ao P) (some ⟨ids,hs,xa,r,hs',[],none⟩) (n+8*k) (lk s.env) (lkh s.hp) o.op=some (Bf P g az (lkh s.hp) (n+8*k) ⟨ids,hs,xa,r,hs',[],none⟩):=WV rfl hcl
 have hob:(Bf P g az (lkh s.hp) (n+8*k) ⟨ids,hs,xa,r,hs',[],none⟩).ob:=
   DR ⟨q,by rw[hρ];exact hv,hnd,by rw[hρ];exact hent,hl,hl8,trivial,trivial,hid⟩
 refine CU (orc:=fun _=>some ⟨ids,hs,xa,r,hs',[],none⟩) 1 (by simp) (rem':=rem) rfl (p:=True∧_) ?_ ⟨trivial,hob⟩ h
 simp only[List.take_succ_cons,List.take_zero,Bt,hgd,hx]
 have e1:(Bf P g az (lkh s.hp) (n+8*k) ⟨ids,hs,xa,r,hs',[],none⟩).v=ren (Bs ids (n+8*k)) r:=by rw[Hg,hρ]
 have e2:(Bf P g az (lkh s.hp) (n+8*k) ⟨ids,hs,xa,r,hs',[],none⟩).hw=DM (Bs ids (n+8*k)) 0 hs':=by rw[H0,hρ]
 have e3:(Bf P g az (lkh s.hp) (n+8*k) ⟨ids,hs,xa,r,hs',[],none⟩).hr=ids:=by rw[Jd];simp
 rw[e1,e2]
 simp only[DF,e2,e3]
 cases ids with
 |nil=>exact absurd rfl hne
 |cons a l=>rfl
end
section
variable [Yl] {P : Program} {N kk n : Nat} {R : Res → Prop} {rv : List ResultVar} {st : List Fr} {s : AS} {ops : Array Oper} {s0 : AS} {G : Prop} {k : Nat} {ts : List Touch} {rem : List Oper}
theorem Afl(i:Nat){g:FuncId}{sz m sz2:Nat}{xs:List AV}{e e' e2:Ent}{o:Oper}(q:Af P g (.ptr 0 sz 0 0::xs) [some e] (.osl 1 m sz2) [some e',some e2])(h:XO P n ops s0 G (k+1) rem ⟨BR o.dst (.osl (n+8*k) m sz2) s.env,[(n+8*k,some e2),(i,some e')]++s.hp⟩ ((k,[i],[i,n+8*k])::ts))
   (hcal:FI o=some g:=by rfl) (hgd:BI ops (lk s.env) o=some true:=by rfl) (ha:BU o (lk s.env)= .ptr i sz 0 0::xs:=by rfl) (h1:lkh s.hp i=some e:=by rfl) (qa:AE 0 xs=true:=by rfl) (he:AA 0 e.es=true:=by first|rfl|simp) (he':AA 0 e'.es=true:=by first|rfl|simp) (he2:AA 0 e2.es=true:=by first|rfl|simp):XO P n ops s0 G k (o::rem) s ts:=by
 have e0:Bs [i] (n+8*k) 0=i:=rfl
 have e1:Bs [i] (n+8*k) 1=n+8*k:=rfl
 refine VA [i] (xa:= .ptr 0 sz 0 0::xs) (hs:=[e]) q hcal hgd ?_ (by simp) ⟨?_,Ld _ he,trivial⟩ (by simp) (by simp) ?_ (by simp) ?_
 · rw[ha]
   simp only[BJ,ren,e0]
   rw[CE _ _ qa]
   exact Cn _ _
 · rw[h1,Cm _ he]
 · simp only[AE,AO,Bool.and_eq_true]
   exact⟨by simp,EH _ _ qa⟩
 · have hw:DM (Bs [i] (n+8*k)) 0 [some e',some e2]=[(i,some e'),(n+8*k,some e2)]:=by
     simp only[DM,Option.map_some,Cm _ he',Cm _ he2,e0,Nat.zero_add,e1]
   rw[hw]
   simp only[ren,e1]
   exact h
theorem Ow(i:Nat){g:FuncId}{sz m sz2:Nat}{xs:List AV}{e e' e2:Ent}{o:Oper}(q:Af P g (.ptr 0 sz 0 0::xs) [some e] (.osl 1 m sz2) [some e',some e2])(h:XO P n ops s0 G (k+1) rem ⟨BR o.dst (.osl (n+8*k) m sz2) s.env,[(n+8*k,some e2),(i,some e')]++s.hp⟩ ((k,[i],[i,n+8*k])::ts))
   {az:List AV} (hcl:oCl o (lk s.env)=some (g,az):=by rfl) (hgd:BI ops (lk s.env) o=some true:=by rfl) (ha:az= .ptr i sz 0 0::xs:=by rfl) (h1:lkh s.hp i=some e:=by rfl) (qa:AE 0 xs=true:=by rfl) (he:AA 0 e.es=true:=by first|rfl|simp) (he':AA 0 e'.es=true:=by first|rfl|simp) (he2:AA 0 e2.es=true:=by first|rfl|simp):XO P n ops s0 G k (o::rem) s ts:=by
 have e0:Bs [i] (n+8*k) 0=i:=rfl
 have e1:Bs [i] (n+8*k) 1=n+8*k:=rfl
 refine AaD [i] (xa:= .ptr 0 sz 0 0::xs) (hs:=[e]) q hcl hgd ?_ (by simp) ⟨?_,Ld _ he,trivial⟩ (by simp) (by simp) ?_ (by simp) ?_
 · rw[ha]
   simp only[BJ,ren,e0]
   rw[CE _ _ qa]
   exact Cn _ _
 · rw[h1,Cm _ he]
 · simp only[AE,AO,Bool.and_eq_true]
   exact⟨by simp,EH _ _ qa⟩
 · have hw:DM (Bs [i] (n+8*k)) 0 [some e',some e2]=[(i,some e'),(n+8*k,some e2)]:=by
     simp only[DM,Option.map_some,Cm _ he',Cm _ he2,e0,Nat.zero_add,e1]
   rw[hw]
   simp only[ren,e1]
   exact h
end
section
variable [Yl] {P : Program} {N kk n : Nat} {R : Res → Prop} {rv : List ResultVar} {st : List Fr} {s : AS}
theorem Wf{x:Operand}{a b:Code}{c':Hd}{st':List Fr}(h:XH P N kk R rv c' st' n s)(hc:evA (lk s.env) x= .val (.bool false):=by rfl)(hn:CS 60 (.c b) st=(c',st'):=by rfl):XH P N kk R rv (.c (.cond x a b)) st n s:=NF hc (DO (h:= .c b) (by rw[hn];exact h))
end
section
variable {P : Program} {T : Tab} {nb : Nat} {env : Env} {hp : Hp}
def CpS(P:Program)(hp:Hp)(sz n:Nat)(y:AV)(es:List (List AV))(rs:List Nat):Prop:=
 ∀ (hp':Hp),(∀ i∈rs,hp i=hp' i)→ ∀ (X:Nat→Prop) (w:World) (β:Gm) (v:Value),Good X w β hp'→Rep w β (Own X β hp') y v→
   ∃ vs L,AL w β (Own X β hp') sz es vs∧(Builtin.lenOf v).run P w= .ok L w∧Nat.min L n=es.length∧(Builtin.firstCells sz es.length v).run P w= .ok vs.toArray w
theorem Adm{sz n:Nat}{y:AV}{es:List (List AV)}{rs:List Nat}{p:Prop}(h:H8 hp sz y=some (es,rs,p))(hpp:p)(hl:es.length≤n):CpS P hp sz n y es rs:=by
 intro hp' hh X w β v hg hy
 obtain⟨vs,h1,h2,h3⟩:=Im (P:=P) hg (Ia h hh) hpp hy
 exact⟨vs,_,h1,h2 w,Nat.min_eq_left hl,h3 w rfl⟩
theorem Ady{sz n i k m:Nat}{E:Ent}(he:hp i=some E)(hs:E.sz=sz)(hk:k≤E.es.length)(hl:m=min k n):CpS P hp sz n (.osv i 0 k sz) (E.es.take m) [i]:=by
 intro hp' hh X w β v hg hy
 have he':hp' i=some E:=by rw[← hh i (by simp)];exact he
 have hlen:(E.es.take m).length=m:=by simp;omega
 have hso:H8 hp' sz (.osv i 0 m sz)=some (E.es.take m,[i],0+m≤E.es.length∧sz=sz∧E.sz=sz):=by simp only[H8,he',List.drop_zero]
 simp only[Rep]at hy
 rcases hy with ⟨hb,rfl,rfl⟩|⟨b,off,cap,T',m',hb,rfl,h1,h5,h2,h3⟩
 · obtain rfl:m=0:=by omega
   exact⟨[],0,by simp[AL],rfl,by simp,by simp;rfl⟩
 · obtain⟨vs,q1,_,q3⟩:=Im (P:=P) (v:= .slice (some ⟨b,off,none⟩) m cap) hg hso ⟨by omega,rfl,hs⟩ (by
     simp only[Rep]
     refine .inr ⟨b,off,cap,T',m',hb,rfl,by omega,?_,h2,h3⟩
     rcases h5 with h5|h5
     · exact .inl h5
     · exact .inr ⟨by omega,h5.2⟩)
   refine⟨vs,k,q1,rfl,by rw[hlen];exact hl.symm,?_⟩
   exact q3 w rfl
theorem ZX(hT:BZ P T){d y:Operand}{dT sT e:TypeId}{te:TI}{i lo n sz:Nat}{E:Ent}{es:List (List AV)}{rs:List Nat}(hd:Bm T dT=some (.slice e))(hte:T e=some te)(hsz:te.size=sz)
   (hx: ∀ w β O v,Rep w β O (evA env d) v→Rep w β O (.osv i lo n sz) v) (he:hp i=some E) (hes:E.sz=sz) (hl:lo+n≤E.es.length) (hn:0<es.length) (hst:es.all (fun c=>c.all Cx)=true) (hs:CpS P hp sz n (evA env y) es rs):
   EI P nb env hp (.call {callee:= .builtin .copy,args:= #[d,y],argTypes:= #[dT,sT]}) ⟨.val (.int .i64 es.length),[(i,some {E with es:=E.es.take lo++(es++E.es.drop (lo+es.length))})],i::rs,True⟩:=by
 intro env' hp' hev hh X w β a o ho hg hfresh henv
 have hu:=Bo hT hd
 obtain⟨ti,z,hi,hisz,_⟩:=tab hT hte
 have he':hp' i=some E:=by rw[← hh i (by simp)];exact he
 have rd:Rep w β (Own X β hp') (.osv i lo n sz) (a.eval d):=hx _ _ _ _ (by rw[hev d (by simp[Op.operands,Call.operands])];exact DC henv d)
 have ry:Rep w β (Own X β hp') (evA env y) (a.eval y):=by rw[hev y (by simp[Op.operands,Call.operands])];exact DC henv y
 obtain⟨vs,L,h1,h2,h3,h4⟩:=hs hp' (fun j hj=>hh j (by simp[hj])) X w β _ hg ry
 have hm:es.length≤n:=by rw[← h3];exact Nat.min_le_right _ _
 simp only[Rep]at rd
 rcases rd with ⟨_,_,h0⟩|⟨b,off,cap,T',m,hb,hdv,c1,c2,c3,c4⟩
 · omega
 · have ho':off=lo*sz:=by
     rcases c2 with h|⟨h,_⟩
     · exact h
     · omega
   rcases hg.ent i E he' with ⟨hb',_⟩|⟨b',c,fr,old,rest,hb',hheap,hfr,hc,hr⟩
   · rw[hb]at hb';simp at hb'
   · obtain rfl:b=b':=by rw[hb]at hb';simpa using hb'
     rw[hes]at hr
     have hvl:vs.length=es.length*sz:=h1.length
     obtain⟨v1,cu,v2,rfl,hv1,hcu⟩:=hr.cut (l:=lo) (k:=lo+es.length) (by omega) (by omega)
     have hcul:cu.length=es.length*sz:=by rw[hcu.length];simp;congr 1;omega
     have hol:(v1++cu++v2).length=E.es.length*sz:=hr.length
     have hsize:c.size=v1.length+cu.length+v2.length+rest.length:=by rw[← Array.length_toList,hc];simp;omega
     have hroom:off+0+vs.length≤c.size:=by rw[hsize,ho',hv1,hvl,hcul];omega
     have hput:=EC (P:=P) (b:=b) (off:=off) vs 0 w c hheap hroom hfr (IT hst h1)
     have hrun:(Builtin.copy_ #[dT,sT] o.type #[a.eval d,a.eval y]).run P w= .ok (goInt es.length) (CH w b (.cells (Ew c (off+0) vs) E.ty fr)):=by
       unfold Builtin.copy_
       simp only[List.getElem?_toArray,List.getElem?_cons_zero,List.getElem?_cons_succ,run_bind,At hu,run_pure,hdv,h2,h3,B5 hi,hisz,hsz,h4,hput]
     refine⟨goInt es.length,CH w b (.cells (Ew c (off+0) vs) E.ty fr),β,?_,Hq (c':=Ew c (off+0) vs) (e':={E with es:=E.es.take lo++(es++E.es.drop (lo+es.length))}) (vs:=v1++(vs++v2)) (rest:=rest) hg he' hb hheap hfr rfl (Fj _ _ _) ?_ ?_ rfl (fun _ _=>by simp[Rep,goInt])⟩
     · simp only[execOp,ho,resolve,run_bind,run_pure,invoke,builtin]
       simp only[List.map_toArray,List.map_cons,List.map_nil,hrun]
     · rw[Fi _ _ _ (by omega),hc]
       have e1:off+0=v1.length:=by rw[hv1,ho'];rfl
       rw[e1,hvl,← hcul]
       simp
     · show AL w β (Own X β hp') E.sz _ _
       rw[hes]
       have e3:E.es=E.es.take lo++(((E.es.take (lo+es.length)).drop lo)++E.es.drop (lo+es.length)):=by
         have h8:(E.es.take (lo+es.length)).drop lo=(E.es.drop lo).take es.length:=by rw[List.drop_take];congr 1;omega
         rw[h8,← List.drop_drop,List.take_append_drop,List.take_append_drop]
       rw[e3]at hr
       obtain⟨u1,u2,hu12,g1,g2⟩:=hr.split
       obtain⟨u3,u4,rfl,g3,g4⟩:=g2.split
       have l1:u1.length=v1.length:=by rw[g1.length,hv1];simp;congr 1;omega
       have l3:u3.length=cu.length:=by rw[g3.length,hcu.length]
       rw[List.append_assoc]at hu12
       have k1:=(List.append_inj hu12 l1.symm)
       have k2:=List.append_inj k1.2 l3.symm
       rw[k1.1,k2.2]
       exact g1.append (h1.append g4)
theorem XA(hT:BZ P T){x:Operand}{t e:TypeId}{te:TI}{i lo n sz:Nat}{E:Ent}(hd:Bm T t=some (.slice e))(hte:T e=some te)(hsz:te.size=sz)(h0:0<sz)(hn:0<n)
   (hx: ∀ w β O v,Rep w β O (evA env x) v→Rep w β O (.osv i lo n sz) v) (he:hp i=some E) (hes:E.sz=sz) (hl:lo+n≤E.es.length) (hz:te.zero.all Gc=true):
   EI P nb env hp (.call {callee:= .builtin .clear,args:= #[x],argTypes:= #[t]}) ⟨.tup [],[(i,some {E with es:=E.es.take lo++(List.replicate n (te.zero.map .val)++E.es.drop (lo+n))})],[i],True⟩:=by
 intro env' hp' hev hh X w β a o ho hg hfresh henv
 have hu:=Bo hT hd
 obtain⟨ti,z,hi,hisz,_,hzr,hzc,_,hzl⟩:=tab hT hte
 have he':hp' i=some E:=by rw[← hh i (by simp)];exact he
 have rd:Rep w β (Own X β hp') (.osv i lo n sz) (a.eval x):=hx _ _ _ _ (by rw[hev x (by simp[Op.operands,Call.operands])];exact DC henv x)
 have hzsz:z.cells.size=sz:=by rw[← Array.length_toList,hzc,hzl,hsz]
 simp only[Rep]at rd
 rcases rd with ⟨_,_,h0'⟩|⟨b,off,cap,T',m,hb,hdv,c1,c2,c3,c4⟩
 · omega
 · have ho':off=lo*sz:=by
     rcases c2 with h|⟨h,_⟩
     · exact h
     · omega
   rcases hg.ent i E he' with ⟨hb',_⟩|⟨b',c,fr,old,rest,hb',hheap,hfr,hc,hr⟩
   · rw[hb]at hb';simp at hb'
   · obtain rfl:b=b':=by rw[hb]at hb';simpa using hb'
     rw[hes]at hr
     have h1:AL w β (Own X β hp') sz (List.replicate n (te.zero.map .val)) (List.replicate n te.zero).flatten:=Md (by rw[hzl,hsz]) n
     have hvl:(List.replicate n te.zero).flatten.length=n*sz:=by rw[h1.length];simp
     have hzp: ∀ v∈(List.replicate n te.zero).flatten,Gc v=true:=by
       intro v hv
       obtain⟨l,hl1,hl2⟩:=List.mem_flatten.1 hv
       rw[(List.mem_replicate.1 hl1).2]at hl2
       exact List.all_eq_true.1 hz v hl2
     have hzz:(Builtin.zeroCells z.cells n).toList=(List.replicate n te.zero).flatten:=by
       rw[← hzc];exact MW z.cells (by omega) n
     generalize (List.replicate n te.zero).flatten=vs at*
     obtain⟨v1,cu,v2,rfl,hv1,hcu⟩:=hr.cut (l:=lo) (k:=lo+n) (by omega) (by omega)
     have hcul:cu.length=n*sz:=by rw[hcu.length];simp;congr 1;omega
     have hol:(v1++cu++v2).length=E.es.length*sz:=hr.length
     have hsize:c.size=v1.length+cu.length+v2.length+rest.length:=by rw[← Array.length_toList,hc];simp;omega
     have hroom:off+0+vs.length≤c.size:=by rw[hsize,ho',hv1,hvl,hcul];omega
     have hput:=EC (P:=P) (b:=b) (off:=off) vs 0 w c hheap hroom hfr hzp
     have hrun:(Builtin.clear_ #[t] o.type #[a.eval x]).run P w= .ok (.tuple #[]) (CH w b (.cells (Ew c (off+0) vs) E.ty fr)):=by
       obtain⟨n,rfl⟩: ∃ k,n=k+1:=⟨n-1,by omega⟩
       unfold Builtin.clear_
       simp only[List.getElem?_toArray,List.getElem?_cons_zero,List.getElem?_cons_succ,run_bind,At hu,run_pure,hdv,F9 hi hzr,hzz,hput]
     refine⟨.tuple #[],CH w b (.cells (Ew c (off+0) vs) E.ty fr),β,?_,Hq (c':=Ew c (off+0) vs) (e':={E with es:=E.es.take lo++(List.replicate n (te.zero.map .val)++E.es.drop (lo+n))}) (vs:=v1++(vs++v2)) (rest:=rest) hg he' hb hheap hfr rfl (Fj _ _ _) ?_ ?_ rfl (fun _ _=>by simp[Rep,AK])⟩
     · simp only[execOp,ho,resolve,run_bind,run_pure,invoke,builtin]
       simp only[List.map_toArray,List.map_cons,List.map_nil,hrun]
     · rw[Fi _ _ _ (by omega),hc]
       have e1:off+0=v1.length:=by rw[hv1,ho'];rfl
       rw[e1,hvl,← hcul]
       simp
     · show AL w β (Own X β hp') E.sz _ _
       rw[hes]
       have e3:E.es=E.es.take lo++(((E.es.take (lo+n)).drop lo)++E.es.drop (lo+n)):=by
         have h8:(E.es.take (lo+n)).drop lo=(E.es.drop lo).take n:=by rw[List.drop_take];congr 1;omega
         rw[h8,← List.drop_drop,List.take_append_drop,List.take_append_drop]
       rw[e3]at hr
       obtain⟨u1,u2,hu12,g1,g2⟩:=hr.split
       obtain⟨u3,u4,rfl,g3,g4⟩:=g2.split
       have l1:u1.length=v1.length:=by rw[g1.length,hv1];simp;congr 1;omega
       have l3:u3.length=cu.length:=by rw[g3.length,hcu.length]
       rw[List.append_assoc]at hu12
       have k1:=(List.append_inj hu12 l1.symm)
       have k2:=List.append_inj k1.2 l3.symm
       rw[k1.1,k2.2]
       exact g1.append (h1.append g4)
end
section
variable [Yl] {P : Program} {n : Nat} {s : AS} {ops : Array Oper} {s0 : AS} {G : Prop} {k : Nat} {ts : List Touch} {rem : List Oper}
theorem Uk{o:Oper}{v:AV}{op:Op}{i:Nat}{e:Ent}{hr:List Nat}(q:EI P (n+8*k) (lk s.env) (lkh s.hp) op ⟨v,[(i,some e)],hr,True⟩)(h:XO P n ops s0 G (k+1) rem ⟨BR o.dst v s.env,(i,some e)::s.hp⟩ (DF k ⟨v,[(i,some e)],hr,True⟩ ts))
   (hop:o.op=op:=by rfl) (hgd:BI ops (lk s.env) o=some true:=by rfl):XO P n ops s0 G k (o::rem) s ts:=by
 subst hop
 refine CU (orc:=fun _=>some ⟨[],[],[],.any,[],[],some ⟨v,[(i,some e)],hr,True⟩⟩) 1 (by simp) (rem':=rem) rfl (s':=⟨BR o.dst v s.env,(i,some e)::s.hp⟩) (ts':=DF k ⟨v,[(i,some e)],hr,True⟩ ts) (p:=True∧True∧EI P (n+8*k) (lk s.env) (lkh s.hp) o.op ⟨v,[(i,some e)],hr,True⟩) ?_ ⟨trivial,trivial,q⟩ h
 simp only[List.take_succ_cons,List.take_zero,Bt,hgd,CA,FM]
 rfl
end
section
variable [Yl] {P : Program} {n : Nat} {s : AS} {ops : Array Oper} {s0 : AS} {G : Prop} {k : Nat} {ts : List Touch} {rem : List Oper}
def asV(a:AV):AV:=match a with
 | .osl i n sz=> .osv i 0 n sz
 |a=>a
theorem TF{w:World}{β:Gm}{O:Nat→Prop}{a:AV}{v:Value}(h:Rep w β O a v):Rep w β O (asV a) v:=by
 cases a with
 |osl i n sz=>
   simp only[asV,Rep]at h ⊢
   rcases h with h|⟨b,cap,T,m,h1,h2,h3,h4,h5⟩
   · exact .inl h
   · exact .inr ⟨b,0,cap,T,m,h1,h2,h3,.inl (by simp),h4,by omega⟩
 |_=>exact h
theorem AaO(es:List (List AV))(es':List (List AV)){rs:List Nat}{o:Oper}{d y:Operand}{dT sT e:TypeId}{te:TI}{i lo m sz nn:Nat}{E:Ent}(hs:CpS P (lkh s.hp) sz nn (evA (lk s.env) y) es rs)(hm:es.length=m)(h1:0<m)(hst:es.all (fun c=>c.all Cx)=true)
   (hes':E.es.take lo++(es++E.es.drop (lo+m))=es') (hlo:lo+nn≤E.es.length)
   (h:XO P n ops s0 G (k+1) rem ⟨BR o.dst (.val (.int .i64 m)) s.env,(i,some ⟨E.ty,E.sz,es'⟩)::s.hp⟩ (DF k ⟨.val (.int .i64 m),[(i,some ⟨E.ty,E.sz,es'⟩)],i::rs,True⟩ ts))
   (hd:Bm (Ao P) dT=some (.slice e):=by simp only[go_sem]) (hte:(Ao P) e=some te:=by simp only[go_sem]) (hsz:te.size=sz:=by rfl) (hx:asV (evA (lk s.env) d)= .osv i lo nn sz:=by rfl) (he:lkh s.hp i=some E:=by rfl) (hE:E.sz=sz:=by rfl)
   (hop:o.op= .call {callee:= .builtin .copy,args:= #[d,y],argTypes:= #[dT,sT]}:=by rfl) (hgd:BI ops (lk s.env) o=some true:=by rfl):XO P n ops s0 G k (o::rem) s ts:=by
 subst hm;subst hes'
 exact Uk (ZX (BQ P) hd hte hsz (fun w β O v h=>by rw[← hx];exact TF h) he hE hlo h1 hst hs) h hop hgd
theorem Wt(es':List (List AV)){o:Oper}{x:Operand}{t e:TypeId}{te:TI}{i lo m sz:Nat}{E:Ent}(h1:0<m)(hlo:lo+m≤E.es.length)(hes':E.es.take lo++(List.replicate m (te.zero.map .val)++E.es.drop (lo+m))=es')
   (h:XO P n ops s0 G (k+1) rem ⟨BR o.dst (.tup []) s.env,(i,some ⟨E.ty,E.sz,es'⟩)::s.hp⟩ (DF k ⟨.tup [],[(i,some ⟨E.ty,E.sz,es'⟩)],[i],True⟩ ts))
   (hd:Bm (Ao P) t=some (.slice e):=by simp only[go_sem]) (hte:(Ao P) e=some te:=by simp only[go_sem]) (hsz:te.size=sz:=by rfl) (h0:0<sz:=by decide) (hx:asV (evA (lk s.env) x)= .osv i lo m sz:=by rfl) (he:lkh s.hp i=some E:=by rfl) (hE:E.sz=sz:=by rfl) (hz:te.zero.all Gc=true:=by rfl)
   (hop:o.op= .call {callee:= .builtin .clear,args:= #[x],argTypes:= #[t]}:=by rfl) (hgd:BI ops (lk s.env) o=some true:=by rfl):XO P n ops s0 G k (o::rem) s ts:=by
 subst hes'
 exact Uk (XA (BQ P) hd hte hsz h0 h1 (fun w β O v h=>by rw[← hx];exact TF h) he hE hlo hz) h hop hgd
theorem AaM(bor:List Nat)(xa:List AV){o:Oper}{g:FuncId}{r r':AV}{e:Ent}(q:Af P g xa [] r [some e])
   (h':XO P n ops s0 G (k+1) rem ⟨BR o.dst r' s.env,(n+8*k,some e)::s.hp⟩ ((k,bor,[n+8*k])::ts)) (hv:Fh (lkh s.hp) bor (BU o (lk s.env)) xa) (hb:DI (lkh s.hp) [] bor) (hr:ren (Bs [] (n+8*k)) r=r':=by(simp only[ren,BJ,Bs,List.length_nil,Nat.not_lt_zero,if_false,Nat.sub_zero,go_sem,seval];rfl)) (hei:AA 0 e.es=true:=by first|rfl|simp) (hns:Ex e.es=true:=by simp) (hnr:EN r=true:=by rfl) (hcal:FI o=some g:=by rfl) (hgd:BI ops (lk s.env) o=some true:=by rfl)
   (hid:AE 0 xa=true:=by rfl):XO P n ops s0 G k (o::rem) s ts:=by
 have h:XO P n ops s0 G (k+1) rem ⟨BR o.dst (ren (Bs [] (n+8*k)) r) s.env,(n+8*k,some (Cv (Bs [] (n+8*k)) e))::s.hp⟩ ((k,bor,[n+8*k])::ts):=by rw[hr,Cm _ hei];exact h'
 have hx:CA P (Ao P) (some ⟨[],[],xa,r,[some e],bor,none⟩) (n+8*k) (lk s.env) (lkh s.hp) o.op=some (Bf P g (BU o (lk s.env)) (lkh s.hp) (n+8*k) ⟨[],[],xa,r,[some e],bor,none⟩):=by
   unfold FI at hcal
   split at hcal
   · rename_i c hop
     split at hcal
     · rename_i g' hcl
       simp only[Option.some.injEq]at hcal
       subst hcal
       simp only[CA,FM,Bj,hop,hcl,evA,BU]
     · simp at hcal
   · simp at hcal
 have hρ:(⟨[],[],xa,r,[some e],bor,none⟩:Orc).ρ (n+8*k)=Bs [] (n+8*k):=rfl
 have hob:(Bf P g (BU o (lk s.env)) (lkh s.hp) (n+8*k) ⟨[],[],xa,r,[some e],bor,none⟩).ob:=by
   refine DR ⟨q,by rw[hρ,CE _ _ hid];exact hv,by simp,trivial,by simp,by simp,?_,hb,hid⟩
   unfold Nv
   split
   · trivial
   · exact⟨hnr,fun e' he'=>by simp at he';subst he';exact hns⟩
 refine CU (orc:=fun _=>some ⟨[],[],xa,r,[some e],bor,none⟩) 1 (by simp) (rem':=rem) rfl (s':=⟨BR o.dst (ren (Bs [] (n+8*k)) r) s.env,(n+8*k,some (Cv (Bs [] (n+8*k)) e))::s.hp⟩) (ts':=(k,bor,[n+8*k])::ts) (p:=True∧_) ?_ ⟨trivial,hob⟩ h
 simp only[List.take_succ_cons,List.take_zero,Bt,hgd,hx]
 have e1:(Bf P g (BU o (lk s.env)) (lkh s.hp) (n+8*k) ⟨[],[],xa,r,[some e],bor,none⟩).v=ren (Bs [] (n+8*k)) r:=by rw[Hg,hρ]
 have e0:Bs [] (n+8*k) 0=n+8*k:=by simp[Bs]
 have e2:(Bf P g (BU o (lk s.env)) (lkh s.hp) (n+8*k) ⟨[],[],xa,r,[some e],bor,none⟩).hw=[(n+8*k,some (Cv (Bs [] (n+8*k)) e))]:=by rw[H0,hρ];simp only[DM,Option.map_some,e0]
 have e3:(Bf P g (BU o (lk s.env)) (lkh s.hp) (n+8*k) ⟨[],[],xa,r,[some e],bor,none⟩).hr=bor:=by simp[Bf]
 rw[e1,e2]
 simp only[DF,e2,e3]
 cases bor<;>rfl
end
end Go.Av
