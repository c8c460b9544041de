/- Part 7 of the proof of PlanSkipsOnlyWhatCannotMatch. -/
import Derived.Test.YtpkhodjlnodagaaGreatDoorB06
set_option linter.unusedSimpArgs false
set_option linter.unusedVariables false
set_option linter.unusedSectionVars false
namespace Go.Av
theorem J5{w:World}{β:Gm}{O:Nat→Prop}: ∀ {es:List (List AV)} {vals:List Value},AI w β O 1 es vals↔es.length=vals.length∧ ∀ (j:Nat) (c:List AV) (v:Value),es[j]? =some c→vals[j]? =some v→ ∃ a,c=[a]∧Rep w β O a v
 | [],vals=>by
   simp only[AI]
   constructor
   · rintro rfl;simp
   · intro h;exact List.length_eq_zero_iff.1 h.1.symm
 |c::es,vals=>by
   simp only[AI]
   constructor
   · rintro⟨v,r,rfl,hc,hL,hr⟩
     obtain⟨h1,h2⟩:=J5.1 hr
     match c,hc,hL with
     | [a],_,hL=>
       simp only[AJ]at hL
       obtain⟨u,r',rfl,hu,rfl⟩:=hL
       refine⟨by simp[h1],fun j c' v' hj hv=>?_⟩
       cases j with
       |zero=>simp at hj hv;subst hj hv;exact⟨a,rfl,hu⟩
       |succ j=>exact h2 j c' v' (by simpa using hj) (by simpa using hv)
   · rintro⟨h1,h2⟩
     cases vals with
     |nil=>simp at h1
     |cons v r=>
       obtain⟨a,rfl,ha⟩:=h2 0 c v rfl rfl
       refine⟨[v],r,rfl,rfl,?_,J5.2 ⟨by simpa using h1,fun j c' v' hj hv=>h2 (j+1) c' v' (by simpa using hj) (by simpa using hv)⟩⟩
       simp only[AJ]
       exact⟨v,[],rfl,ha,rfl⟩
def He(b sz:Nat):List (List (List AV))→List (List AV)
 | []=>[]
 |L::r=>[.osl b L.length sz]::He (b+1) sz r
theorem Lq(sz:Nat): ∀ (Ls:List (List (List AV))) (b j:Nat),(He b sz Ls)[j]? =(Ls[j]?).map fun L=>[AV.osl (b+j) L.length sz]
 | [],b,j=>by simp[He]
 |L::r,b,0=>by simp[He]
 |L::r,b,j+1=>by
   simp only[He,List.getElem?_cons_succ,Lq sz r (b+1) j]
   rw[show b+1+j=b+(j+1) by omega]
theorem JA(sz:Nat): ∀ (Ls:List (List (List AV))) (b:Nat),(He b sz Ls).length=Ls.length
 | [],b=>rfl
 |L::r,b=>by simp[He,JA sz r]
def Eo(vs:List Value)(p:Nat)(c:List AV):List (List AV):=(vs.map fun v=>[AV.val v]).set p c
theorem NH{w:World}{β β':Gm}{O:Nat→Prop}{k:Nat}(h: ∀ i,i<k→β' i=β i){a:AV}{v:Value}(hk:AN k a=true)(hr:Rep w β O a v):Rep w β' O a v:=
 LM (ρ:=fun i=>i) h a v hk (by rw[WJ];exact hr)
theorem XK{w:World}{β β':Gm}{O:Nat→Prop}{k:Nat}(h: ∀ i,i<k→β' i=β i){sz:Nat}{a:List (List AV)}{v:List Value}(hk:AB k a=true)(hr:AI w β O sz a v):AI w β' O sz a v:=
 IQ (ρ:=fun i=>i) h a v hk (by rw[show a.map (BK fun i=>i)=a from(List.map_congr_left fun c _=>I6 c).trans (List.map_id a)];exact hr)
theorem HH{w:World}{β β':Gm}{O:Nat→Prop}{k:Nat}(h: ∀ i,i<k→β' i=β i){p:Option (Option Nat)}{e:Ent}(hk:AB k e.es=true)(hr:G7 w β O p e):G7 w β' O p e:=by
 rcases hr with hr|⟨b,c,fr,vs,rest,h1,h2,h3,h4,h5⟩
 · exact .inl hr
 · exact .inr ⟨b,c,fr,vs,rest,h1,h2,h3,h4,XK h hk h5⟩
structure FamO(o sz:Nat)(ty oty:TypeId)(Ls:List (List (List AV)))(env:Env)(hp:Hp):Prop where
 out:hp o=some ⟨oty,1,He (o+1) sz Ls⟩
 inn: ∀ (j:Nat) (L:List (List AV)),Ls[j]? =some L→hp (o+1+j)=some ⟨ty,sz,L⟩
 non: ∀ i,o+1+Ls.length≤i→hp i=none
 env: ∀ t,AN (o+1) (env t)=true
 ent: ∀ i e,i<o→hp i=some e→AB (o+1) e.es=true
 plain: ∀ L∈Ls,AB 0 L=true
structure FamT(o sz:Nat)(ty oty:TypeId)(vs:List Value)(p:Nat)(oL:Option (List (List AV)))(env:Env)(hp:Hp):Prop where
 out:hp o=some ⟨oty,1,Eo vs p (match oL with|some L=>[.osl (o+1) L.length sz]|none=>[])⟩
 inn:hp (o+1)=oL.map fun L=>⟨ty,sz,L⟩
 non: ∀ i,o+2≤i→hp i=none
 env: ∀ t,AN (o+1) (env t)=true
 ent: ∀ i e,i<o→hp i=some e→AB (o+1) e.es=true
 plain: ∀ L,oL=some L→AB 0 L=true
structure FamLink(C C':Ctx)(o sz:Nat)(ty oty:TypeId)(Ls:List (List (List AV)))(p:Nat)(vs:List Value)(β:Gm)(w:World)(O:Nat→Prop):Prop where
 N:C'.N=C.N
 k:C'.k=C.k
 w0:C'.w0=w
 O0:C'.O0=O
 βi:C'.βi=C.βi
 rd:C'.rd=C.rd
 m:C'.m=C.m
 X: ∀ b,C'.X b↔C.X b∨ ∃ j,j<Ls.length∧j≠p∧β (o+1+j)=some (some b)
 frm:Frm C.w0 C.O0 w O
 keep: ∀ b,C.X b→w.heap[b]? =C.w0.heap[b]?
 len:vs.length=Ls.length
 rep: ∀ (j:Nat) (L:List (List AV)) (v:Value),Ls[j]? =some L→vs[j]? =some v→Rep w β O (.osl (o+1+j) L.length sz) v
 entO: ∀ (j:Nat) (L:List (List AV)),Ls[j]? =some L→G7 w β O (β (o+1+j)) ⟨ty,sz,L⟩
 inj: ∀ i j b,i<Ls.length→j<Ls.length→β (o+1+i)=some (some b)→β (o+1+j)=some (some b)→i=j
 notX: ∀ j b,j<Ls.length→β (o+1+j)=some (some b)→ ¬ C.X b∧b<w.heap.size
 own: ∀ j b,j<Ls.length→β (o+1+j)=some (some b)→O b
 plain: ∀ L∈Ls,AB 0 L=true
 dom: ∀ j,j<Ls.length→β (o+1+j)≠none
theorem Lr(vs:List Value)(p j:Nat)(c:List AV):(Eo vs p c)[j]? =if p=j∧j<vs.length then some c else(vs[j]?).map fun v=>[AV.val v]:=by
 unfold Eo
 rw[List.getElem?_set]
 by_cases h:p=j
 · subst h
   by_cases h2:p<vs.length
   · simp[h2]
   · simp[h2,List.getElem?_eq_none (Nat.le_of_not_lt h2)]
 · simp[h]
theorem KW(vs:List Value)(p:Nat)(c:List AV):(Eo vs p c).length=vs.length:=by simp[Eo]
theorem Yh{C:Ctx}{β:Gm}{env:Env}{hp:Hp}{a:Act}{w:World}{o sz:Nat}{ty oty:TypeId}{Ls:List (List (List AV))}(p:Nat)(hS:InvS C β ⟨env,hp⟩ a w)(hf:FamO o sz ty oty Ls env hp)
   (hk:C.k≤o) (hn: ∀ j,o+1+Ls.length≤j→β j=none):
   ∃ C' vs β',FamLink C C' o sz ty oty Ls p vs β w (Own C.X β hp)∧(∀ j,o+2≤j→β' j=none)∧
     ∀ hpT,(∀ i,i<o→hpT i=hp i)→FamT o sz ty oty vs p (Ls[p]?) env hpT→InvS C' β' ⟨env,hpT⟩ a w:=by
 have hent:=fun j L h=>hS.good.ent (o+1+j) ⟨ty,sz,L⟩ (hf.inn j L h)
 have hget: ∀ j,j<Ls.length→Ls[j]? =some Ls[j]! :=by intro j hj;simp[hj]
 obtain⟨vs,hlen,hrep,hout⟩: ∃ vs:List Value,vs.length=Ls.length∧(∀ (j:Nat) (L:List (List AV)) (v:Value),Ls[j]? =some L→vs[j]? =some v→Rep w β (Own C.X β hp) (.osl (o+1+j) L.length sz) v)∧
     ((β o=some none∧vs=[])∨ ∃ b c fr rest,β o=some (some b)∧w.heap[b]? =some (.cells c oty fr)∧(∀ x,x<c.size→fr.1=fr.2∨x<fr.1)∧c.toList=vs++rest):=by
   rcases hS.good.ent o _ hf.out with ⟨h1,h2⟩|⟨b,c,fr,vals,rest,h1,h2,h3,h4,h5⟩
   · have:Ls.length=0:=by rw[← JA sz Ls (o+1)];simp only at h2;rw[h2];rfl
     have:Ls=[]:=List.length_eq_zero_iff.1 this
     subst this
     exact⟨[],sP,sP,.inl ⟨h1,sP⟩⟩
   · obtain⟨g1,g2⟩:=J5.1 h5
     simp only[JA]at g1
     refine⟨vals,g1.symm,fun j L v hj hv=>?_,.inr ⟨b,c,fr,rest,h1,h2,h3,h4⟩⟩
     obtain⟨x,hx,hr⟩:=g2 j [.osl (o+1+j) L.length sz] v (by simp only[Lq,hj];rfl) hv
     simp only[List.cons.injEq,and_true]at hx
     rw[hx];exact hr
 have hdom: ∀ j,j<Ls.length→β (o+1+j)≠none:=by
   intro j hj
   rcases hent j _ (hget j hj)with ⟨h,_⟩|⟨b,_,_,_,_,h,_⟩<;>rw[h]<;>simp
 let X':Nat→Prop:=fun b=>C.X b∨ ∃ j,j<Ls.length∧j≠p∧β (o+1+j)=some (some b)
 let C':Ctx:=⟨X',w,Own C.X β hp,C.βi,C.N,C.k,C.hk,C.rd,C.m,Nat.le_trans C.hm hS.frm.size,C.rdK hS.frm,none,sP⟩
 let β':Gm:=fun i=>if i≤o then β i else if i=o+1∧p<Ls.length then β (o+1+p)else none
 have hlow: ∀ i,i<o+1→β' i=β i:=fun i hi=>by simp only[β'];rw[if_pos oM]
 have hβ1:p<Ls.length→β' (o+1)=β (o+1+p):=fun h=>by
   show(if o+1≤o then β (o+1)else if o+1=o+1∧p<Ls.length then β (o+1+p)else none)=_
   rw[if_neg oM,if_pos ⟨rfl,h⟩]
 refine⟨C',vs,β',⟨rfl,rfl,rfl,rfl,rfl,rfl,rfl,fun b=>Iff.rfl,hS.frm,hS.keepX,hlen,hrep,hent,?_,?_,?_,hf.plain,hdom⟩,?_,?_⟩
 · intro i j b hi hj h1 h2
   have:=hS.good.inj (o+1+i) (o+1+j) _ _ b (hf.inn i _ (hget i hi)) (hf.inn j _ (hget j hj)) h1 h2
   omega
 · intro j b hj h1
   refine⟨hS.good.xdis _ _ b (hf.inn j _ (hget j hj)) h1,?_⟩
   rcases hent j _ (hget j hj)with ⟨h,_⟩|⟨b',c,fr,v,r,h,hh,_⟩
   · rw[h]at h1;simp at h1
   · rw[h]at h1
     simp only[Option.some.injEq]at h1
     subst h1
     rcases Nat.lt_or_ge b' w.heap.size with hlt|hge
     · exact hlt
     · rw[Array.getElem?_eq_none hge]at hh;simp at hh
 · intro j b hj h1
   exact .inr ⟨o+1+j,_,hf.inn j _ (hget j hj),h1⟩
 · intro j hj
   simp only[β'];rw[if_neg oM,if_neg oM]
 · intro hpT hs hT
   have hlive: ∀ i e,hpT i=some e→(i<o∧hp i=some e)∨i=o∨(i=o+1∧ ∃ h:p<Ls.length,e=⟨ty,sz,Ls[p]⟩):=by
     intro i e he
     by_cases h1:i<o
     · exact .inl ⟨h1,by rw[← hs i h1];exact he⟩
     · by_cases h2:i=o
       · exact .inr (.inl h2)
       · by_cases h3:i=o+1
         · subst h3
           rw[hT.inn]at he
           by_cases hp':p<Ls.length
           · rw[List.getElem?_eq_getElem hp']at he
             simp only[Option.map_some,Option.some.injEq]at he
             exact .inr (.inr ⟨rfl,hp',he.symm⟩)
           · rw[List.getElem?_eq_none oM]at he;simp at he
         · rw[hT.non i oM]at he;simp at he
   have hlive2: ∀ i e,hpT i=some e→ ∃ i' e',((i≤o∧i'=i)∨(i=o+1∧i'=o+1+p))∧β' i=β i'∧hp i'=some e':=by
     intro i e he
     rcases hlive i e he with ⟨h1,h2⟩|h1|⟨h1,hp',h2⟩
     · exact⟨i,e,.inl ⟨oM,rfl⟩,hlow i oM,h2⟩
     · exact⟨i,_,.inl ⟨oM,rfl⟩,hlow i oM,by rw[h1];exact hf.out⟩
     · exact⟨o+1+p,_,.inr ⟨h1,rfl⟩,by rw[h1];exact hβ1 hp',hf.inn p _ (List.getElem?_eq_getElem hp')⟩
   have hOO:Own C'.X β' hpT=Own C.X β hp:=by
     funext b
     apply propext
     constructor
     · rintro(h|⟨i,e,he,hb⟩)
       · rcases h with h|⟨j,hj,_,hb⟩
         · exact .inl h
         · exact .inr ⟨o+1+j,_,hf.inn j _ (hget j hj),hb⟩
       · rcases hlive i e he with ⟨h1,h2⟩|rfl|⟨rfl,hp',rfl⟩
         · rw[hlow i oM]at hb;exact .inr ⟨i,e,h2,hb⟩
         · rw[hlow i oM]at hb;exact .inr ⟨i,_,hf.out,hb⟩
         · rw[hβ1 hp']at hb;exact .inr ⟨o+1+p,_,hf.inn p _ (List.getElem?_eq_getElem hp'),hb⟩
     · rintro(h|⟨i,e,he,hb⟩)
       · exact .inl (.inl h)
       · by_cases h1:i<o
         · exact .inr ⟨i,e,by rw[hs i h1];exact he,by rw[hlow i oM];exact hb⟩
         · by_cases h2:i=o
           · subst h2;exact .inr ⟨i,_,hT.out,by rw[hlow i oM];exact hb⟩
           · by_cases h3:i<o+1+Ls.length
             · obtain⟨j,rfl⟩: ∃ j,i=o+1+j:=⟨i- (o+1),oM⟩
               by_cases hj:j=p
               · subst hj
                 exact .inr ⟨o+1,⟨ty,sz,Ls[j]'oM⟩,by rw[hT.inn,List.getElem?_eq_getElem (show j<Ls.length by omega)];rfl,by rw[hβ1 oM];exact hb⟩
               · exact .inl (.inr ⟨j,oM,hj,hb⟩)
             · rw[hf.non i oM]at he;simp at he
   refine⟨⟨?_,?_,?_,?_,hS.good.laid.1,fun b hb=>⟨(hS.good.laid.2 b hb).1,by rw[hOO];exact(hS.good.laid.2 b hb).2⟩⟩,?_,hS.size,by rw[hOO];exact hS.defers,?_,fun b hb=>rfl,?_⟩
   · -- inj
     intro i j e e' b he he' hb hb'
     obtain⟨i',e1,h1,h2,h3⟩:=hlive2 i e he
     obtain⟨j',e2,g1,g2,g3⟩:=hlive2 j e' he'
     have:=hS.good.inj i' j' _ _ b h3 g3 (by rw[← h2];exact hb) (by rw[← g2];exact hb')
     omega
   · -- ent
     intro i e he
     have he:hpT i=some e:=he
     show G7 w β' (Own C'.X β' hpT) (β' i) e
     rw[hOO]
     rcases hlive i e he with ⟨h1,h2⟩|rfl|⟨rfl,hp',rfl⟩
     · rw[hlow i oM]
       exact HH hlow (hf.ent i e h1 h2) (hS.good.ent i e h2)
     · rw[hT.out]at he
       simp only[Option.some.injEq]at he
       subst he
       rw[hlow i oM]
       rcases hout with ⟨h1,rfl⟩|⟨b,c,fr,rest,h1,h2,h3,h4⟩
       · exact .inl ⟨h1,by simp[Eo]⟩
       · refine .inr ⟨b,c,fr,vs,rest,h1,h2,h3,h4,J5.2 ⟨by simp[KW],fun j c' v hj hv=>?_⟩⟩
         simp only[Lr]at hj
         split at hj
         · next hh=>
           obtain⟨rfl,hlt⟩:=hh
           have hpl:p<Ls.length:=by omega
           rw[List.getElem?_eq_getElem hpl]at hj
           simp only[Option.some.injEq]at hj
           refine⟨_,hj.symm,?_⟩
           have:=hrep p _ v (List.getElem?_eq_getElem hpl) hv
           simp only[Rep]at this ⊢
           rw[hβ1 hpl];exact this
         · rw[hv]at hj
           simp only[Option.map_some,Option.some.injEq]at hj
           exact⟨_,hj.symm,by simp[Rep]⟩
     · rw[hβ1 hp']
       exact HH (k:=0) (fun i hi=>by omega) (hf.plain _ (List.getElem_mem hp')) (hent p _ (List.getElem?_eq_getElem hp'))
   · -- xdis
     intro i e b he hb hX
     obtain⟨i',e1,h1,h2,h3⟩:=hlive2 i e he
     rw[h2]at hb
     rcases hX with hX|⟨j,hj,hjp,hbj⟩
     · exact hS.good.xdis i' e1 b h3 hb hX
     · have:=hS.good.inj i' (o+1+j) _ _ b h3 (hf.inn j _ (hget j hj)) hb hbj
       omega
   · -- xlt
     intro b hb
     rcases hb with hb|⟨j,hj,_,hb⟩
     · exact hS.good.xlt b hb
     · rcases hent j _ (hget j hj)with ⟨h,_⟩|⟨b',c,fr,v,r,h,hh,_⟩
       · rw[h]at hb;simp at hb
       · rw[h]at hb
         simp only[Option.some.injEq]at hb
         subst hb
         rcases Nat.lt_or_ge b' w.heap.size with hlt|hge
         · exact hlt
         · rw[Array.getElem?_eq_none hge]at hh;simp at hh
   · -- env
     intro t
     show Rep w β' (Own C'.X β' hpT) (env t) _
     rw[hOO]
     exact NH hlow (hf.env t) (hS.env t)
   · show Frm w (Own C.X β hp) w (Own C'.X β' hpT)
     rw[hOO];exact Gv _ _
   · intro i q hq
     have hi:i<C.k:=by
       rcases Nat.lt_or_ge i C.k with h|h
       · exact h
       · rw[show C'.βi=C.βi from rfl,C.hk i h]at hq;simp at hq
     rw[hlow i oM]
     exact hS.ext i q hq
end Go.Av
