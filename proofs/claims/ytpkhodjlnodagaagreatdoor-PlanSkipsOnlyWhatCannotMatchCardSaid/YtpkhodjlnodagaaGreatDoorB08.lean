/- Part 8 of the proof of PlanSkipsOnlyWhatCannotMatch. -/
import Derived.Test.YtpkhodjlnodagaaGreatDoorB07
set_option linter.unusedSimpArgs false
set_option linter.unusedVariables false
set_option linter.unusedSectionVars false
namespace Go.Av
def BC(Ls:List (List (List AV)))(p:Nat):Option (List (List AV))→List (List (List AV))
 |some L=>Ls.set p L
 |none=>Ls
theorem VF(Ls:List (List (List AV)))(p:Nat)(oL:Option (List (List AV))):(BC Ls p oL).length=Ls.length:=by cases oL<;>simp[BC]
theorem Qs(Ls:List (List (List AV)))(p j:Nat)(oL:Option (List (List AV)))(h:j≠p):(BC Ls p oL)[j]? =Ls[j]? :=by
 cases oL with
 |none=>rfl
 |some L=>simp only[BC];rw[List.getElem?_set_ne oM]
theorem AaU{C C':Ctx}{o sz:Nat}{ty oty:TypeId}{Ls:List (List (List AV))}{p:Nat}{vs:List Value}{β:Gm}{w:World}{O:Nat→Prop}(hL:FamLink C C' o sz ty oty Ls p vs β w O)
   {β2:Gm} {env':Env} {hpT hpO:Hp} {a':Act} {w':World} {o':Nat} {oL:Option (List (List AV))} (hS:InvS C' β2 ⟨env',hpT⟩ a' w') (hT:FamT o' sz ty oty vs p oL env' hpT) (hsome:oL.isSome=true↔p<Ls.length)
   (hk:C.k≤o') (hO:FamO o' sz ty oty (BC Ls p oL) env' hpO) (hs: ∀ i,i<o'→hpO i=hpT i):
   ∃ β3,InvS C β3 ⟨env',hpO⟩ a' w'∧ ∀ j,o'+1+Ls.length≤j→β3 j=none:=by
 have hlen:=VF Ls p oL
 let β3:Gm:=fun i=>if i≤o' then β2 i else if i<o'+1+Ls.length then(if i=o'+1+p then β2 (o'+1)else β (o+1+(i- (o'+1))))else none
 have hlow: ∀ i,i<o'+1→β3 i=β2 i:=fun i hi=>by
   show(if i≤o' then _ else _)=_
   rw[if_pos oM]
 have hp3:p<Ls.length→β3 (o'+1+p)=β2 (o'+1):=fun h=>by
   show(if o'+1+p≤o' then _ else if o'+1+p<o'+1+Ls.length then(if o'+1+p=o'+1+p then _ else _)else _)=_
   rw[if_neg oM,if_pos oM,if_pos rfl]
 have hj3: ∀ j,j<Ls.length→j≠p→β3 (o'+1+j)=β (o+1+j):=fun j h hne=>by
   show(if o'+1+j≤o' then _ else if o'+1+j<o'+1+Ls.length then(if o'+1+j=o'+1+p then _ else β (o+1+(o'+1+j- (o'+1))))else _)=_
   rw[if_neg oM,if_pos oM,if_neg oM,show o'+1+j- (o'+1)=j by omega]
 have hget: ∀ j,j<Ls.length→j≠p→(BC Ls p oL)[j]? =some Ls[j]! :=by
   intro j hj hne;rw[Qs _ _ _ _ hne];simp[hj]
 have hgetL: ∀ j,j<Ls.length→Ls[j]? =some Ls[j]! :=by intro j hj;simp[hj]
 have hoL:p<Ls.length→ ∃ L,oL=some L∧(BC Ls p oL)[p]? =some L:=by
   intro h
   obtain⟨L,rfl⟩:=Option.isSome_iff_exists.1 (hsome.2 h)
   exact⟨L,rfl,by simp[BC,h]⟩
 have hfr:Frm w O w' (Own C'.X β2 hpT):=by have:=hS.frm;rw[hL.w0,hL.O0]at this;exact this
 have hkeep: ∀ b,C'.X b→w'.heap[b]? =w.heap[b]? :=by intro b hb;have:=hS.keepX b hb;rw[hL.w0]at this;exact this
 have hlive: ∀ i e b,hpO i=some e→β3 i=some (some b)→(∃ i' e',((i≤o'∧i'=i)∨(i=o'+1+p∧i'=o'+1))∧hpT i'=some e'∧β2 i'=some (some b))∨ ∃ j,j<Ls.length∧j≠p∧i=o'+1+j∧β (o+1+j)=some (some b):=by
   intro i e b he hb
   by_cases h1:i<o'
   · exact .inl ⟨i,e,.inl ⟨oM,rfl⟩,by rw[← hs i h1];exact he,by rw[← hlow i oM];exact hb⟩
   · by_cases h2:i=o'
     · exact .inl ⟨i,_,.inl ⟨oM,rfl⟩,by rw[h2];exact hT.out,by rw[← hlow i oM];exact hb⟩
     · by_cases h3:i<o'+1+Ls.length
       · obtain⟨j,rfl⟩: ∃ j,i=o'+1+j:=⟨i- (o'+1),oM⟩
         by_cases hj:j=p
         · subst hj
           obtain⟨L,hL1,hL2⟩:=hoL oM
           exact .inl ⟨o'+1,⟨ty,sz,L⟩,.inr ⟨rfl,rfl⟩,by rw[hT.inn,hL1];rfl,by rw[← hp3 oM];exact hb⟩
         · exact .inr ⟨j,oM,hj,rfl,by rw[← hj3 j oM hj];exact hb⟩
       · rw[hO.non i oM]at he;simp at he
 have hOO:Own C.X β3 hpO=Own C'.X β2 hpT:=by
   funext b
   apply propext
   constructor
   · rintro(h|⟨i,e,he,hb⟩)
     · exact .inl ((hL.X b).2 (.inl h))
     · rcases hlive i e b he hb with ⟨i',e',_,h1,h2⟩|⟨j,hj,hne,_,h2⟩
       · exact .inr ⟨i',e',h1,h2⟩
       · exact .inl ((hL.X b).2 (.inr ⟨j,hj,hne,h2⟩))
   · rintro(h|⟨i,e,he,hb⟩)
     · rcases(hL.X b).1 h with h|⟨j,hj,hne,h2⟩
       · exact .inl h
       · exact .inr ⟨o'+1+j,_,hO.inn j _ (hget j hj hne),by rw[hj3 j hj hne];exact h2⟩
     · by_cases h1:i<o'
       · exact .inr ⟨i,e,by rw[hs i h1];exact he,by rw[hlow i oM];exact hb⟩
       · by_cases h2:i=o'
         · subst h2;exact .inr ⟨i,_,hO.out,by rw[hlow i oM];exact hb⟩
         · by_cases h3:i=o'+1
           · subst h3
             have hpl:p<Ls.length:=by
               rw[hT.inn]at he
               cases hoc:oL with
               |none=>rw[hoc]at he;simp at he
               |some L=>exact hsome.1 (by rw[hoc];rfl)
             obtain⟨L,hL1,hL2⟩:=hoL hpl
             exact .inr ⟨o'+1+p,_,hO.inn p L hL2,by rw[hp3 hpl];exact hb⟩
           · rw[hT.non i oM]at he;simp at he
 refine⟨β3,⟨⟨?_,?_,?_,?_,hS.good.laid.1,fun b hb=>⟨(hS.good.laid.2 b hb).1,by rw[hOO];exact(hS.good.laid.2 b hb).2⟩⟩,?_,by rw[← hL.N];exact hS.size,by rw[hOO,← hL.m];exact hS.defers,?_,?_,?_⟩,?_⟩
 · -- inj
   intro i j e e' b he he' hb hb'
   rcases hlive i e b he hb with ⟨i',e1,h1,h2,h3⟩|⟨x,hx,hne,h1,h2⟩<;>rcases hlive j e' b he' hb' with ⟨j',e2,g1,g2,g3⟩|⟨y,hy,gne,g1,g2⟩
   · have:=hS.good.inj i' j' _ _ b h2 g2 h3 g3;omega
   · exact absurd ((hL.X b).2 (.inr ⟨y,hy,gne,g2⟩)) (hS.good.xdis i' _ b h2 h3)
   · exact absurd ((hL.X b).2 (.inr ⟨x,hx,hne,h2⟩)) (hS.good.xdis j' _ b g2 g3)
   · have:=hL.inj x y b hx hy h2 g2;omega
 · -- ent
   intro i e he
   have he:hpO i=some e:=he
   show G7 w' β3 (Own C.X β3 hpO) (β3 i) e
   rw[hOO]
   by_cases h1:i<o'
   · rw[hlow i oM]
     rw[hs i h1]at he
     exact HH hlow (hT.ent i e h1 he) (hS.good.ent i e he)
   · by_cases h2:i=o'
     · subst h2
       rw[hO.out]at he
       simp only[Option.some.injEq]at he
       subst he
       rw[hlow i oM]
       rcases hS.good.ent i _ hT.out with ⟨g1,g2⟩|⟨b,c,fr,vals,rest,g1,g2,g3,g4,g5⟩
       · refine .inl ⟨g1,?_⟩
         have:vs.length=0:=by
           have hz:=congrArg List.length g2
           simpa [KW] using hz
         have:(BC Ls p oL).length=0:=by rw[hlen,← hL.len];exact this
         rw[List.length_eq_zero_iff.1 this];rfl
       · obtain⟨r1,r2⟩:=J5.1 g5
         simp only[KW]at r1
         refine .inr ⟨b,c,fr,vals,rest,g1,g2,g3,g4,J5.2 ⟨by simp only[JA,hlen,← hL.len,r1],fun j c' v hj hv=>?_⟩⟩
         simp only[Lq]at hj
         have hjl:j<Ls.length:=by
           rcases Nat.lt_or_ge j Ls.length with h|h
           · exact h
           · rw[List.getElem?_eq_none (by rw[hlen];exact h)]at hj;simp at hj
         by_cases hjp:j=p
         · subst hjp
           obtain⟨L,hL1,hL2⟩:=hoL hjl
           rw[hL2]at hj
           simp only[Option.map_some,Option.some.injEq]at hj
           obtain⟨x,hx,hr⟩:=r2 j [.osl (i+1) L.length sz] v (by simp only[Lr,hL.len,hjl,and_self,if_true,hL1]) hv
           simp only[List.cons.injEq,and_true]at hx
           subst hx
           refine⟨_,hj.symm,?_⟩
           simp only[Rep]at hr ⊢
           rw[hp3 hjl];exact hr
         · rw[Qs _ _ _ _ hjp]at hj
           have hvj:vs[j]? =some vs[j]! :=by simp[hL.len,hjl]
           obtain⟨x,hx,hr⟩:=r2 j [.val vs[j]!] v (by simp only[Lr];rw[if_neg oM,hvj];rfl) hv
           simp only[List.cons.injEq,and_true]at hx
           subst hx
           simp only[Rep]at hr
           rw[hgetL j hjl]at hj
           simp only[Option.map_some,Option.some.injEq]at hj
           refine⟨_,hj.symm,?_⟩
           have:=hL.rep j _ v (hgetL j hjl) (by rw[hvj,hr])
           simp only[Rep]at this ⊢
           rw[hj3 j hjl hjp]
           rcases this with this|⟨b',cap,T,m,t1,t2,t3,t4,t5⟩
           · exact .inl this
           · exact .inr ⟨b',cap,T,m,t1,t2,t3,hfr.shape _ _ t4,t5⟩
     · have h3:i<o'+1+Ls.length:=by
         rcases Nat.lt_or_ge i (o'+1+Ls.length)with h|h
         · exact h
         · rw[hO.non i oM]at he;simp at he
       obtain⟨j,rfl⟩: ∃ j,i=o'+1+j:=⟨i- (o'+1),oM⟩
       by_cases hjp:j=p
       · subst hjp
         obtain⟨L,hL1,hL2⟩:=hoL oM
         rw[hO.inn j L hL2]at he
         simp only[Option.some.injEq]at he
         subst he
         rw[hp3 oM]
         exact HH (k:=0) (fun i hi=>by omega) (hT.plain L hL1) (hS.good.ent (o'+1) _ (by show hpT (o'+1)=_;rw[hT.inn,hL1];rfl))
       · rw[hO.inn j _ (hget j oM hjp)]at he
         simp only[Option.some.injEq]at he
         subst he
         rw[hj3 j oM hjp]
         rcases hL.entO j _ (hgetL j oM)with g|⟨b,c,fr,vals,rest,g1,g2,g3,g4,g5⟩
         · exact .inl g
         · refine .inr ⟨b,c,fr,vals,rest,g1,?_,g3,g4,?_⟩
           · rw[hkeep b ((hL.X b).2 (.inr ⟨j,oM,hjp,g1⟩))];exact g2
           · have hpl:AB 0 (Ls[j]!)=true:=hL.plain _ (List.mem_of_getElem? (hgetL j oM))
             exact AI.up (AI.mono (hfr.stab (CR β0)) _ _ _ (Hk hpl g5))
 · -- xdis
   intro i e b he hb hX
   rcases hlive i e b he hb with ⟨i',e1,h1,h2,h3⟩|⟨x,hx,hne,h1,h2⟩
   · exact hS.good.xdis i' _ b h2 h3 ((hL.X b).2 (.inl hX))
   · exact(hL.notX x b hx h2).1 hX
 · intro b hb
   exact hS.good.xlt b ((hL.X b).2 (.inl hb))
 · intro t
   show Rep w' β3 (Own C.X β3 hpO) (env' t) _
   rw[hOO]
   exact NH hlow (hT.env t) (hS.env t)
 · show Frm C.w0 C.O0 w' (Own C.X β3 hpO)
   rw[hOO]
   exact hL.frm.trans hfr
 · intro b hb
   rw[hkeep b ((hL.X b).2 (.inl hb))]
   exact hL.keep b hb
 · intro i q hq
   have hi:i<C.k:=by
     rcases Nat.lt_or_ge i C.k with h|h
     · exact h
     · rw[C.hk i h]at hq;simp at hq
   rw[hlow i oM]
   exact hS.ext i q (by rw[hL.βi];exact hq)
 · intro j hj
   show(if j≤o' then _ else if j<o'+1+Ls.length then _ else none)=none
   rw[if_neg oM,if_neg oM]
end Go.Av
