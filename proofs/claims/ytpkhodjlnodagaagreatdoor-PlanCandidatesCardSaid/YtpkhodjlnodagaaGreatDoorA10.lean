/- Part 10 of the proof of PlanCandidates. -/
import Derived.Test.YtpkhodjlnodagaaGreatDoorA09
set_option linter.unusedSimpArgs false
set_option linter.unusedVariables false
set_option linter.unusedSectionVars false
namespace Go.Av
theorem If{vs:List Value}{p:Nat}{c:List AV}(h:p<vs.length):(Ek vs p c)[p]? =some c:=by rw[Ks,if_pos ⟨rfl,h⟩]
theorem Y5(vs:List Value)(p:Nat)(c c':List AV):(Ek vs p c).set p c'=Ek vs p c':=by simp[Ek,List.set_set]
theorem UR(L:List Nat)(vs:List Value)(p:Nat)(c:List AV):BK L (Ek vs p c)=Ek vs p (Fz L c):=by
 simp only[BK,Ek,List.map_set,List.map_map]
 congr 1
theorem Pq{hp:Hp}{ids:List (Option Nat)}{D:List Nat}{ty:TypeId}{sz:Nat}: ∀ (Ls:List (List (List AV))) (b:Nat),(∀ j,j<Ls.length→b+j∈D)→(∀ (j:Nat) (L:List (List AV)),Ls[j]? =some L→hp (b+j)=some ⟨ty,sz,L⟩)→(∀ L∈Ls,AA 0 L=true)→
   wkE hp ids D (Ho b sz Ls) (Ls.map fun L=>[AV.sl sz L])
 | [],b,_,_,_=>by simp[Ho]
 |L::r,b,h1,h2,h3=>by
   simp only[Ho,List.map_cons,I5,KG,AcZ,and_true,WT]
   refine⟨⟨trivial,h1 0 (by simp),⟨ty,sz,L⟩,h2 0 L rfl,rfl,rfl,rfl,h3 L (by simp)⟩,?_⟩
   exact Pq r (b+1) (fun j hj=>by have:=h1 (j+1) (by simp;omega);rwa [show b+(j+1)=b+1+j by omega]at this)
     (fun j L' hj=>by have:=h2 (j+1) L' (by simpa using hj);rwa [show b+(j+1)=b+1+j by omega]at this) (fun L' hL=>h3 L' (by simp[hL]))
theorem ZF{hp:Hp}{ids:List (Option Nat)}{D:List Nat}(vs:List Value)(p:Nat)(c c':List AV)(h:wkL hp ids D c c'):wkE hp ids D (Ek vs p c) (Ek vs p c'):=by
 have key: ∀ (vs:List Value) (p:Nat),wkE hp ids D (Ek vs p c) (Ek vs p c'):=by
   intro vs
   induction vs with
   |nil=>intro p;simp[Ek]
   |cons v vs ih=>
     intro p
     cases p with
     |zero=>
       simp only[Ek,List.map_cons,List.set_cons_zero,I5]
       refine⟨h,QR _ ?_⟩
       simp[AA,AE,AO]
     |succ p=>
       have:=ih p
       simp only[Ek]at this
       simp only[Ek,List.map_cons,List.set_cons_succ,I5]
       exact⟨by simp,this⟩
 exact key vs p
theorem Xf(L:List Nat)(n:Nat)(v:Value):BK L (List.replicate n [AV.val v])=List.replicate n [AV.val v]:=by
 simp[BK,Fz,GC]
theorem UI{hp:Hp}{ids:List (Option Nat)}{D:List Nat}: ∀ {cs as:List (List AV)},wkE hp ids D cs as→ ∀ (j:Nat) (a:List AV),as[j]? =some a→ ∃ c,cs[j]? =some c∧wkL hp ids D c a
 |cs,[],_,j,a,h=>by simp at h
 |cs,x::as,h,j,a,ha=>by
   simp only[wkE]at h
   obtain⟨c,r,rfl,h1,h2⟩:=h
   cases j with
   |zero=>simp at ha;subst ha;exact⟨c,rfl,h1⟩
   |succ j=>simpa using UI h2 j a (by simpa using ha)
theorem CT{hp:Hp}{ids:List (Option Nat)}{D:List Nat}{vs:List Value}{p:Nat}{c c':List AV}(h:p<vs.length):wkE hp ids D (Ek vs p c) (Ek vs p c')↔wkL hp ids D c c':=by
 constructor
 · intro hw
   obtain⟨x,h1,h2⟩:=UI hw p c' (If h)
   rw[If h]at h1
   simp only[Option.some.injEq]at h1
   subst h1;exact h2
 · exact ZF vs p c c'
section
variable {P : Program} {C : Ctx} {c : Code} {Q : Exit → Nat → AS → Prop}
theorem Dg{o sz:Nat}{ty oty:TypeId}{Ls:List (List (List AV))}{env:List (Nat×AV)}{hp:List (Nat×Option Ent)}{k N:Nat}(hN:C.N=N)(hk:C.k=k)(p:Nat)(e0:Exit)(env0:List (Nat×AV))(hp0:List (Nat×Option Ent))(o0:Nat)(oL:Option (List (List AV)))
   (hko:k≤o) (hc:FamC o env hp) (hpl: ∀ L∈Ls,AA 0 L=true) (hko0:k≤o0) (hc0:FamC o0 env0 hp0) (hpl0: ∀ L,oL=some L→AA 0 L=true) (hsome:oL.isSome=true↔p<Ls.length)
   (h: ∀ (C':Ctx) (vs:List Value),C'.N=N→C'.k=k→vs.length=Ls.length→AW P C' c (fun e n' s'=>e=e0∧Wk k s' (o0+2) (ST env0 hp0 o0 sz ty oty vs p oL)) (o+2) (ST env hp o sz ty oty vs p Ls[p]?))
   (hQ:Q e0 (o0+1+Ls.length) (SO env0 hp0 o0 sz ty oty (Cj Ls p oL))):AW P C c Q (o+1+Ls.length) (SO env hp o sz ty oty Ls):=by
 refine AdC hN hk p hko hc hpl (fun C' vs h1 h2 h3=>AW.mono (h C' vs h1 h2 h3) ?_)
 rintro e n' s' ⟨rfl,hw⟩
 exact⟨env0,hp0,o0,oL,hw,hc0,hko0,hpl0,hsome,hQ⟩
theorem NE{k:Nat}{α:Type}{n:Nat}{s:AS}(S:α→AS)(I:α→Prop)(μ:α→Nat)(a0:α)(h0:I a0)(hs:s=S a0)(hr: ∀ a,I a→AW P C c (D2 (fun n' s'=>n'=n∧ ∃ a',I a'∧μ a'<μ a∧s'=S a') Q) n (S a)):AW P C (.loop c) Q n s:=by
 subst hs
 refine AW.loop (fun m n' s'=>n'=n∧ ∃ a,I a∧μ a=m∧s'=S a) (m:=μ a0) ⟨rfl,a0,h0,rfl,rfl⟩ ?_
 rintro m n' s' ⟨rfl,a,hI,rfl,rfl⟩
 refine AW.mono (hr a hI) ?_
 intro e n2 s2 hq
 cases e
 case normal=>
   obtain⟨h1,a',h2,h3,h4⟩:=hq
   exact⟨μ a',h3,h1,a',h2,rfl,h4⟩
 all_goals exact hq
end
theorem Vv{α:Type}{l:List α}{p:Nat}{x y:α}(h:y∈l.set p x):y∈l∨y=x:=List.mem_or_eq_of_mem_set h
@[simp] theorem AhZ(vs:List Value)(p:Nat):AA 0 (Ek vs p [])=true:=by
 simp only[AA,Ek,List.all_eq_true]
 intro c hc
 rcases Vv hc with h|h
 · obtain⟨v,_,rfl⟩:=List.mem_map.1 h;rfl
 · subst h;rfl
attribute [go_sem] Xf
attribute [go_sem] Y5 UR Ky
end Go.Av
