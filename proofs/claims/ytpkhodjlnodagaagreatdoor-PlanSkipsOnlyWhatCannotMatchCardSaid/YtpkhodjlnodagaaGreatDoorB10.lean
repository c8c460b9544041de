/- Part 10 of the proof of PlanSkipsOnlyWhatCannotMatch. -/
import Derived.Test.YtpkhodjlnodagaaGreatDoorB09
set_option linter.unusedSimpArgs false
set_option linter.unusedVariables false
set_option linter.unusedSectionVars false
namespace Go.Av
theorem Hl{vs:List Value}{p:Nat}{c:List AV}(h:p<vs.length):(Eo vs p c)[p]? =some c:=by rw[Lr,if_pos ⟨rfl,h⟩]
theorem ZA(vs:List Value)(p:Nat)(c c':List AV):(Eo vs p c).set p c'=Eo vs p c':=by simp[Eo,List.set_set]
theorem Vs(L:List Nat)(vs:List Value)(p:Nat)(c:List AV):BF L (Eo vs p c)=Eo vs p (GJ L c):=by
 simp only[BF,Eo,List.map_set,List.map_map]
 congr 1
theorem Mx{hp:Hp}{ids:List (Option Nat)}{D:List Nat}{ty:TypeId}{sz:Nat}: ∀ (Ls:List (List (List AV))) (b:Nat),(∀ j,j<Ls.length→b+j∈D)→(∀ (j:Nat) (L:List (List AV)),Ls[j]? =some L→hp (b+j)=some ⟨ty,sz,L⟩)→(∀ L∈Ls,AB 0 L=true)→
   wkE hp ids D (He b sz Ls) (Ls.map fun L=>[AV.sl sz L])
 | [],b,_,_,_=>by simp[He]
 |L::r,b,h1,h2,h3=>by
   simp only[He,List.map_cons,Jk,KX,Ac6,and_true,X7]
   refine⟨⟨trivial,h1 0 sP,⟨ty,sz,L⟩,h2 0 L rfl,rfl,rfl,rfl,h3 L sP⟩,?_⟩
   exact Mx r (b+1) (fun j hj=>by have:=h1 (j+1) sO;rwa [show b+(j+1)=b+1+j by omega]at this)
     (fun j L' hj=>by have:=h2 (j+1) L' (by simpa using hj);rwa [show b+(j+1)=b+1+j by omega]at this) (fun L' hL=>h3 L' (by simp[hL]))
theorem ZG{hp:Hp}{ids:List (Option Nat)}{D:List Nat}(vs:List Value)(p:Nat)(c c':List AV)(h:wkL hp ids D c c'):wkE hp ids D (Eo vs p c) (Eo vs p c'):=by
 have key: ∀ (vs:List Value) (p:Nat),wkE hp ids D (Eo vs p c) (Eo vs p c'):=by
   intro vs
   induction vs with
   |nil=>intro p;simp[Eo]
   |cons v vs ih=>
     intro p
     cases p with
     |zero=>
       simp only[Eo,List.map_cons,List.set_cons_zero,Jk]
       refine⟨h,R3 _ ?_⟩
       simp[AB,AF,AN]
     |succ p=>
       have:=ih p
       simp only[Eo]at this
       simp only[Eo,List.map_cons,List.set_cons_succ,Jk]
       exact⟨sP,this⟩
 exact key vs p
theorem XF(L:List Nat)(n:Nat)(v:Value):BF L (List.replicate n [AV.val v])=List.replicate n [AV.val v]:=by
 simp[BF,GJ,Hi]
theorem UN{hp:Hp}{ids:List (Option Nat)}{D:List Nat}: ∀ {cs as:List (List AV)},wkE hp ids D cs as→ ∀ (j:Nat) (a:List AV),as[j]? =some a→ ∃ c,cs[j]? =some c∧wkL hp ids D c a
 |cs,[],_,j,a,h=>by simp at h
 |cs,x::as,h,j,a,ha=>by
   simp only[wkE]at h
   obtain⟨c,r,rfl,h1,h2⟩:=h
   cases j with
   |zero=>simp at ha;subst ha;exact⟨c,rfl,h1⟩
   |succ j=>simpa using UN h2 j a (by simpa using ha)
theorem Cg{hp:Hp}{ids:List (Option Nat)}{D:List Nat}{vs:List Value}{p:Nat}{c c':List AV}(h:p<vs.length):wkE hp ids D (Eo vs p c) (Eo vs p c')↔wkL hp ids D c c':=by
 constructor
 · intro hw
   obtain⟨x,h1,h2⟩:=UN hw p c' (Hl h)
   rw[Hl h]at h1
   simp only[Option.some.injEq]at h1
   subst h1;exact h2
 · exact ZG vs p c c'
section
variable {P : Program} {C : Ctx} {c : Code} {Q : Exit → Nat → AS → Prop}
theorem B1{o sz:Nat}{ty oty:TypeId}{Ls:List (List (List AV))}{env:List (Nat×AV)}{hp:List (Nat×Option Ent)}{k N:Nat}(hN:C.N=N)(hk:C.k=k)(p:Nat)(e0:Exit)(env0:List (Nat×AV))(hp0:List (Nat×Option Ent))(o0:Nat)(oL:Option (List (List AV)))
   (hko:k≤o) (hc:FamC o env hp) (hpl: ∀ L∈Ls,AB 0 L=true) (hko0:k≤o0) (hc0:FamC o0 env0 hp0) (hpl0: ∀ L,oL=some L→AB 0 L=true) (hsome:oL.isSome=true↔p<Ls.length)
   (h: ∀ (C':Ctx) (vs:List Value),C'.N=N→C'.k=k→vs.length=Ls.length→AW P C' c (fun e n' s'=>e=e0∧Wk k s' (o0+2) (ST env0 hp0 o0 sz ty oty vs p oL)) (o+2) (ST env hp o sz ty oty vs p Ls[p]?))
   (hQ:Q e0 (o0+1+Ls.length) (SO env0 hp0 o0 sz ty oty (BC Ls p oL))):AW P C c Q (o+1+Ls.length) (SO env hp o sz ty oty Ls):=by
 refine Agu hN hk p hko hc hpl (fun C' vs h1 h2 h3=>AW.mono (h C' vs h1 h2 h3) ?_)
 rintro e n' s' ⟨rfl,hw⟩
 exact⟨env0,hp0,o0,oL,hw,hc0,hko0,hpl0,hsome,hQ⟩
theorem JD{k:Nat}{α:Type}{n:Nat}{s:AS}(S:α→AS)(I:α→Prop)(μ:α→Nat)(a0:α)(h0:I a0)(hs:s=S a0)(hr: ∀ a,I a→AW P C c (DZ (fun n' s'=>n'=n∧ ∃ a',I a'∧μ a'<μ a∧s'=S a') Q) n (S a)):AW P C (.loop c) Q n s:=by
 subst hs
 refine AW.loop (fun m n' s'=>n'=n∧ ∃ a,I a∧μ a=m∧s'=S a) (m:=μ a0) ⟨rfl,a0,h0,rfl,rfl⟩ ?_
 rintro m n' s' ⟨rfl,a,hI,rfl,rfl⟩
 refine AW.mono (hr a hI) ?_
 intro e n2 s2 hq
 cases e
 case normal=>
   obtain⟨h1,a',h2,h3,h4⟩:=hq
   exact⟨μ a',h3,h1,a',h2,rfl,h4⟩
 all_goals exact hq
end
theorem VC{α:Type}{l:List α}{p:Nat}{x y:α}(h:y∈l.set p x):y∈l∨y=x:=List.mem_or_eq_of_mem_set h
@[simp] theorem Ajb(vs:List Value)(p:Nat):AB 0 (Eo vs p [])=true:=by
 simp only[AB,Eo,List.all_eq_true]
 intro c hc
 rcases VC hc with h|h
 · obtain⟨v,_,rfl⟩:=List.mem_map.1 h;rfl
 · subst h;rfl
attribute [go_sem] XF
attribute [go_sem] ZA Vs KW
end Go.Av
