/- Part 9 of the proof of PlanSkipsOnlyWhatCannotMatch. -/
import Derived.Test.YtpkhodjlnodagaaGreatDoorB08
set_option linter.unusedSimpArgs false
set_option linter.unusedVariables false
set_option linter.unusedSectionVars false
namespace Go.Av
def Rx(b:Nat)(ty:TypeId)(sz:Nat):List (List (List AV))→List (Nat×Option Ent)
 | []=>[]
 |L::r=>(b,some ⟨ty,sz,L⟩)::Rx (b+1) ty sz r
theorem I5(ty:TypeId)(sz:Nat): ∀ (Ls:List (List (List AV))) (b i:Nat),lkh (Rx b ty sz Ls) i=if b≤i then(Ls[i-b]?).map fun L=>⟨ty,sz,L⟩else none
 | [],b,i=>by simp[Rx,lkh]
 |L::r,b,i=>by
   simp only[Rx,lkh,I5 ty sz r (b+1) i]
   by_cases h:b=i
   · subst h;simp
   · rw[if_neg h]
     by_cases h2:b≤i
     · rw[if_pos h2,if_pos oM,show i-b=(i- (b+1))+1 by omega];rfl
     · rw[if_neg h2,if_neg oM]
def Ow(o:Nat)(hp:List (Nat×Option Ent)):Bool:=hp.all fun x=>decide (x.1<o)
def Kz(k:Nat)(hp:List (Nat×Option Ent)):Bool:=hp.all fun x=>match x.2 with|some e=>AB k e.es|none=>true
def K8(k:Nat)(env:List (Nat×AV)):Bool:=env.all fun x=>AN k x.2
theorem Hz{o:Nat}{b:List (Nat×Option Ent)}: ∀ {a:List (Nat×Option Ent)},Ow o a=true→ ∀ {i},o≤i→lkh (a++b) i=lkh b i
 | [],_,i,_=>rfl
 |(k,e)::a,h,i,hi=>by
   simp only[Ow,List.all_cons,Bool.and_eq_true,decide_eq_true_eq]at h
   simp only[List.cons_append,lkh]
   rw[if_neg oM,Hz (a:=a) (by simpa [Ow] using h.2) hi]
theorem Q7{b b':List (Nat×Option Ent)}{i:Nat}(hb:lkh b i=lkh b' i): ∀ {a:List (Nat×Option Ent)},lkh (a++b) i=lkh (a++b') i
 | []=>hb
 |(k,e)::a=>by simp only[List.cons_append,lkh,Q7 hb (a:=a)]
theorem K6{k:Nat}{b:List (Nat×Option Ent)}{i:Nat}{e:Ent}(hb:lkh b i=none): ∀ {a:List (Nat×Option Ent)},Kz k a=true→lkh (a++b) i=some e→AB k e.es=true
 | [],_,h=>by simp only[List.nil_append]at h;rw[hb]at h;simp at h
 |(j,x)::a,hl,h=>by
   simp only[Kz,List.all_cons,Bool.and_eq_true]at hl
   simp only[List.cons_append,lkh]at h
   split at h
   · subst h;exact hl.1
   · exact K6 hb (a:=a) (by simpa [Kz] using hl.2) h
theorem LR{k:Nat}: ∀ {env:List (Nat×AV)},K8 k env=true→ ∀ t,AN k (lk env t)=true
 | [],_,t=>by simp[lk,AN]
 |(u,a)::r,h,t=>by
   simp only[K8,List.all_cons,Bool.and_eq_true]at h
   simp only[lk]
   split
   · exact h.1
   · exact LR (env:=r) (by simpa [K8] using h.2) t
def SO(env:List (Nat×AV))(hp:List (Nat×Option Ent))(o sz:Nat)(ty oty:TypeId)(Ls:List (List (List AV))):AS:=
 ⟨env,hp++((o,some ⟨oty,1,He (o+1) sz Ls⟩)::Rx (o+1) ty sz Ls)⟩
def CK(o sz:Nat):Option (List (List AV))→List AV
 |some L=>[.osl (o+1) L.length sz]
 |none=>[]
def ST(env:List (Nat×AV))(hp:List (Nat×Option Ent))(o sz:Nat)(ty oty:TypeId)(vs:List Value)(p:Nat)(oL:Option (List (List AV))):AS:=
 ⟨env,hp++[(o,some ⟨oty,1,Eo vs p (CK o sz oL)⟩),(o+1,oL.map fun L=>⟨ty,sz,L⟩)]⟩
structure FamC(o:Nat)(env:List (Nat×AV))(hp:List (Nat×Option Ent)):Prop where
 keys:Ow o hp=true
 ents:Kz (o+1) hp=true
 env:K8 (o+1) env=true
theorem ML{env:List (Nat×AV)}{hp:List (Nat×Option Ent)}{o sz:Nat}{ty oty:TypeId}{Ls:List (List (List AV))}(h:FamC o env hp)(hp0: ∀ L∈Ls,AB 0 L=true):
   FamO o sz ty oty Ls (lk (SO env hp o sz ty oty Ls).env) (lkh (SO env hp o sz ty oty Ls).hp):=by
 refine⟨?_,?_,?_,LR h.env,?_,hp0⟩
 · simp only[SO,Hz h.keys (Nat.le_refl o),lkh,if_true]
 · intro j L hj
   simp only[SO,Hz h.keys (show o≤o+1+j by omega),lkh]
   rw[if_neg oM,I5,if_pos oM,show o+1+j- (o+1)=j by omega,hj];rfl
 · intro i hi
   simp only[SO,Hz h.keys (show o≤i by omega),lkh]
   rw[if_neg oM,I5,if_pos oM,List.getElem?_eq_none oM];rfl
 · intro i e hi he
   refine K6 ?_ h.ents he
   simp only[lkh]
   rw[if_neg oM,I5,if_neg oM]
theorem AbJ{env:List (Nat×AV)}{hp:List (Nat×Option Ent)}{o sz:Nat}{ty oty:TypeId}{vs:List Value}{p:Nat}{oL:Option (List (List AV))}(h:FamC o env hp)(hp0: ∀ L,oL=some L→AB 0 L=true):
   FamT o sz ty oty vs p oL (lk (ST env hp o sz ty oty vs p oL).env) (lkh (ST env hp o sz ty oty vs p oL).hp):=by
 refine⟨?_,?_,?_,LR h.env,?_,hp0⟩
 · simp only[ST,Hz h.keys (Nat.le_refl o),lkh,if_true,CK]
   cases oL<;>rfl
 · simp only[ST,Hz h.keys (show o≤o+1 by omega),lkh]
   rw[if_neg oM];simp
 · intro i hi
   simp only[ST,Hz h.keys (show o≤i by omega),lkh]
   rw[if_neg oM,if_neg oM]
 · intro i e hi he
   refine K6 ?_ h.ents he
   simp only[lkh]
   rw[if_neg oM,if_neg oM]
theorem AbX{env:List (Nat×AV)}{hp:List (Nat×Option Ent)}{o sz:Nat}{ty oty:TypeId}{Ls:List (List (List AV))}{vs:List Value}{p:Nat}{oL:Option (List (List AV))}{i:Nat}(hi:i<o):
   lkh (SO env hp o sz ty oty Ls).hp i=lkh (ST env hp o sz ty oty vs p oL).hp i:=by
 simp only[SO,ST]
 apply Q7
 simp only[lkh]
 rw[if_neg oM,if_neg oM,if_neg oM,I5,if_neg oM]
section
variable {P : Program} {C : Ctx} {c : Code} {Q : Exit → Nat → AS → Prop}
theorem Agu{o sz:Nat}{ty oty:TypeId}{Ls:List (List (List AV))}{env:List (Nat×AV)}{hp:List (Nat×Option Ent)}{k N:Nat}(hN:C.N=N)(hk:C.k=k)(p:Nat)(hko:k≤o)(hc:FamC o env hp)(hpl: ∀ L∈Ls,AB 0 L=true)
   (h: ∀ (C':Ctx) (vs:List Value),C'.N=N→C'.k=k→vs.length=Ls.length→AW P C' c (fun e n' s'=> ∃ env' hp' o' oL,Wk k s' (o'+2) (ST env' hp' o' sz ty oty vs p oL)∧FamC o' env' hp'∧k≤o'∧(∀ L,oL=some L→AB 0 L=true)∧(oL.isSome=true↔p<Ls.length)∧
     Q e (o'+1+Ls.length) (SO env' hp' o' sz ty oty (BC Ls p oL))) (o+2) (ST env hp o sz ty oty vs p Ls[p]?)):
   AW P C c Q (o+1+Ls.length) (SO env hp o sz ty oty Ls):=by
 subst hN hk
 rintro a w ⟨β,hS,hn⟩
 obtain⟨C',vs,β',hL,hfr,hT⟩:=Yh p hS (ML hc hpl) hko hn
 have h1:=h C' vs hL.N hL.k hL.len a w ⟨β',hT _ (fun i hi=>(AbX hi).symm) (AbJ hc (fun L hL'=>hpl L (List.mem_of_getElem? hL'))),hfr⟩
 have hF:C'.F=C.F:=by show rdF C'.rd=rdF C.rd;rw[hL.rd]
 rw[hF]at h1
 refine wpIn_mono h1 ?_
 rintro e a' w' ⟨n',s',⟨env',hp',o',oL,hwk,hc',hko',hpl',hsome,hQ⟩,hI⟩
 obtain⟨β2,hS2,hn2⟩:=hI.weak (by rw[hL.k];exact hwk)
 have hpl2: ∀ L∈BC Ls p oL,AB 0 L=true:=by
   intro L hL'
   cases oL with
   |none=>exact hpl L hL'
   |some L0=>
     rcases List.mem_or_eq_of_mem_set hL' with h|h
     · exact hpl L h
     · rw[h];exact hpl' L0 rfl
 obtain⟨β3,hS3,hn3⟩:=AaU hL hS2 (AbJ hc' hpl') hsome hko' (ML hc' hpl2) (fun i hi=>AbX hi)
 exact⟨_,_,hQ,β3,hS3,hn3⟩
theorem Wk.le{k k' n':Nat}{s s':AS}(hk:k≤k')(h:Wk k' s n' s'):Wk k s n' s':=by
 obtain⟨ids,D,hi,h1,h2,h3⟩:=h
 refine⟨ids,D,⟨hi.nd,hi.dis,?_⟩,h1,h2,h3⟩
 have:=congrArg (List.take k) hi.fst
 rw[List.take_take,Nat.min_eq_left hk,← List.map_take,List.take_range,Nat.min_eq_left hk]at this
 exact this
variable {n : Nat} {s : AS}
theorem B8(hm:P.follows .mixedOrders=true){N k:Nat}(hN:C.N=N)(hk:C.k=k)(orc:Nat→Option Orc)(ks keep:List Nat)(k':Nat)(hkk:k≤k')(hks:ks=List.range k'){id:Nat}{ops:Array Oper}(hok:Ct N ops false=true)
   (h: ∀ K:Nat→AS→Prop,(∀ n s,Q .normal n s→K n s)→Ha P orc ks n ops keep K s):AW P C (.region id ops false) Q n s:=by
 have hh:=h (fun n s=>Q .normal n s) (fun _ _ h=>h)
 unfold Ha at hh
 split at hh
 · rename_i s' ts p hrun
   intro a w hI
   refine E3 (BU P) hm hrun hh.1 (hN ▸ hok) (fun h=>by simp at h) hI ?_
   intro a' w' hI'
   exact⟨_,_,hh.2,hI'.weak (hk ▸ (HV hks).le hkk)⟩
 · exact hh.elim
theorem Pi(hm:P.follows .mixedOrders=true){N k:Nat}(hN:C.N=N)(hk:C.k=k)(orc:Nat→Option Orc)(ks keep:List Nat)(k':Nat)(hkk:k≤k')(hks:ks=List.range k'){id:Nat}{ops:Array Oper}(hok:Ct N ops true=true)
   (h: ∀ (K:Nat→AS→Prop) (tok:List Touch→Prop),(∀ ts,BS (CA ops.toList []) ts=true→tok ts)→(∀ n s,Q .normal n s→K n s)→G0 P orc ks n ops keep tok K s):AW P C (.region id ops true) Q n s:=by
 have hh:=h (fun n s=>Q .normal n s) (fun ts=>BS (CA ops.toList []) ts=true) (fun _ h=>h) (fun _ _ h=>h)
 unfold G0 at hh
 split at hh
 · rename_i s' ts p hrun
   intro a w hI
   refine E3 (BU P) hm hrun hh.2.1 (hN ▸ hok) (fun _=>hh.1) hI ?_
   intro a' w' hI'
   exact⟨_,_,hh.2.2,hI'.weak (hk ▸ (HV hks).le hkk)⟩
 · exact hh.elim
theorem LW{o sz m:Nat}{ty oty:TypeId}{env:List (Nat×AV)}{hp:List (Nat×Option Ent)}{k:Nat}(hk:C.k=k)(hko:k≤o)(hc:FamC o env hp)
   (h:AW P C c Q (o+1+m) (SO env hp o sz ty oty (List.replicate m []))):AW P C c Q (o+1) ⟨env,hp++[(o,some ⟨oty,1,List.replicate m [AV.val (.slice none 0 0)]⟩)]⟩:=by
 subst hk
 rintro a w ⟨β,hS,hn⟩
 refine h a w ⟨fun i=>if i≤o then β i else if i<o+1+m then some none else none,?_,fun j hj=>by(try simp only[]);rw[if_neg oM,if_neg oM]⟩
 have hF:=ML (sz:=sz) (ty:=ty) (oty:=oty) (Ls:=List.replicate m []) hc (by intro L hL;rw[List.eq_of_mem_replicate hL];rfl)
 have hlow: ∀ i,i<o+1→(if i≤o then β i else if i<o+1+m then some none else none)=β i:=fun i hi=>by rw[if_pos oM]
 have hi: ∀ i,i<o→lkh (SO env hp o sz ty oty (List.replicate m [])).hp i=lkh (hp++[(o,some ⟨oty,1,List.replicate m [AV.val (.slice none 0 0)]⟩)]) i:=by
   intro i hi
   simp only[SO]
   apply Q7
   simp only[lkh]
   rw[if_neg oM,if_neg oM,I5,if_neg oM]
 have ho:lkh (hp++[(o,some ⟨oty,1,List.replicate m [AV.val (.slice none 0 0)]⟩)]) o=some ⟨oty,1,List.replicate m [AV.val (.slice none 0 0)]⟩:=by
   rw[Hz hc.keys (Nat.le_refl o)];simp[lkh]
 have hbig: ∀ i,o<i→lkh (hp++[(o,some ⟨oty,1,List.replicate m [AV.val (.slice none 0 0)]⟩)]) i=none:=by
   intro i hi'
   rw[Hz hc.keys oM];simp only[lkh];rw[if_neg oM]
 have hlive: ∀ i e b,lkh (SO env hp o sz ty oty (List.replicate m [])).hp i=some e→(if i≤o then β i else if i<o+1+m then some none else none)=some (some b)→i≤o∧β i=some (some b)∧ ∃ e',lkh (hp++[(o,some ⟨oty,1,List.replicate m [AV.val (.slice none 0 0)]⟩)]) i=some e':=by
   intro i e b he hb
   by_cases h1:i<o
   · rw[if_pos oM]at hb;exact⟨oM,hb,e,by rw[← hi i h1];exact he⟩
   · by_cases h2:i=o
     · subst h2;rw[if_pos oM]at hb;exact⟨oM,hb,_,ho⟩
     · rw[if_neg oM]at hb
       split at hb<;>simp at hb
 have hOO:Own C.X (fun i=>if i≤o then β i else if i<o+1+m then some none else none) (lkh (SO env hp o sz ty oty (List.replicate m [])).hp)=Own C.X β (lkh (hp++[(o,some ⟨oty,1,List.replicate m [AV.val (.slice none 0 0)]⟩)])):=by
   funext b
   apply propext
   constructor
   · rintro(h|⟨i,e,he,hb⟩)
     · exact .inl h
     · obtain⟨_,h2,e',h3⟩:=hlive i e b he hb;exact .inr ⟨i,e',h3,h2⟩
   · rintro(h|⟨i,e,he,hb⟩)
     · exact .inl h
     · by_cases h1:i<o
       · exact .inr ⟨i,e,by rw[hi i h1];exact he,by(try simp only[]);rw[if_pos oM];exact hb⟩
       · by_cases h2:i=o
         · subst h2;exact .inr ⟨i,_,hF.out,by(try simp only[]);rw[if_pos oM];exact hb⟩
         · rw[hbig i oM]at he;simp at he
 refine⟨⟨?_,?_,?_,hS.good.xlt,hS.good.laid.1,fun b hb=>⟨(hS.good.laid.2 b hb).1,fun h=>(hS.good.laid.2 b hb).2 (Eq.mp (congrFun hOO b) h)⟩⟩,?_,hS.size,(Eq.mpr (congrArg (fun O=>EN C.m w O a.defers) hOO) hS.defers),?_,hS.keepX,?_⟩
 · intro i j e e' b he he' hb hb'
   obtain⟨_,h2,_,h3⟩:=hlive i e b he hb
   obtain⟨_,g2,_,g3⟩:=hlive j e' b he' hb'
   exact hS.good.inj i j _ _ b h3 g3 h2 g2
 · intro i e he
   show G7 w _ (Own C.X (fun i=>if i≤o then β i else if i<o+1+m then some none else none) (lkh (SO env hp o sz ty oty (List.replicate m [])).hp)) _ e
   rw[hOO]
   have he:lkh (SO env hp o sz ty oty (List.replicate m [])).hp i=some e:=he
   by_cases h1:i<o
   · (try simp only[]);rw[if_pos oM]
     exact HH hlow (hF.ent i e h1 he) (hS.good.ent i e (by show lkh _ i=_;rw[← hi i h1];exact he))
   · by_cases h2:i=o
     · subst h2
       rw[hF.out]at he
       simp only[Option.some.injEq]at he
       subst he
       (try simp only[]);rw[if_pos (Nat.le_refl i)]
       rcases hS.good.ent i _ ho with ⟨g1,g2⟩|⟨b,c',fr,vals,rest,g1,g2,g3,g4,g5⟩
       · refine .inl ⟨g1,?_⟩
         have hm:m=0:=by have:=congrArg List.length g2;simpa using this
         subst hm;rfl
       · obtain⟨r1,r2⟩:=J5.1 g5
         simp only[List.length_replicate]at r1
         refine .inr ⟨b,c',fr,vals,rest,g1,g2,g3,g4,J5.2 ⟨by simp[JA,r1],fun j c2 v hj hv=>?_⟩⟩
         simp only[Lq]at hj
         have hjm:j<m:=by
           rcases Nat.lt_or_ge j m with h|h
           · exact h
           · rw[List.getElem?_eq_none (by simpa using h)]at hj;simp at hj
         obtain⟨x,hx,hr⟩:=r2 j [AV.val (.slice none 0 0)] v (by simp[hjm]) hv
         simp only[List.cons.injEq,and_true]at hx
         subst hx
         simp only[Rep]at hr
         simp only[List.getElem?_replicate,hjm,if_true,Option.map_some,Option.some.injEq]at hj
         refine⟨_,hj.symm,?_⟩
         simp only[Rep]
         exact .inl ⟨by rw[if_neg oM,if_pos oM],hr,rfl⟩
     · have h3:i<o+1+m:=by
         rcases Nat.lt_or_ge i (o+1+m)with h|h
         · exact h
         · rw[hF.non i (by simpa using h)]at he;simp at he
       obtain⟨j,rfl⟩: ∃ j,i=o+1+j:=⟨i- (o+1),oM⟩
       rw[hF.inn j [] (by rw[List.getElem?_replicate,if_pos oM])]at he
       simp only[Option.some.injEq]at he
       subst he
       exact .inl ⟨by(try simp only[]);rw[if_neg oM,if_pos oM],rfl⟩
 · intro i e b he hb
   obtain⟨_,h2,_,h3⟩:=hlive i e b he hb
   exact hS.good.xdis i _ b h3 h2
 · intro t
   show Rep w _ (Own C.X (fun i=>if i≤o then β i else if i<o+1+m then some none else none) (lkh (SO env hp o sz ty oty (List.replicate m [])).hp)) _ _
   rw[hOO]
   exact NH hlow (hF.env t) (hS.env t)
 · show Frm C.w0 C.O0 w (Own C.X (fun i=>if i≤o then β i else if i<o+1+m then some none else none) (lkh (SO env hp o sz ty oty (List.replicate m [])).hp))
   rw[hOO];exact hS.frm
 · intro i q hq
   have hik:i<C.k:=by
     rcases Nat.lt_or_ge i C.k with h|h
     · exact h
     · rw[C.hk i h]at hq;simp at hq
   (try simp only[]);rw[if_pos oM]
   exact hS.ext i q hq
end
end Go.Av
