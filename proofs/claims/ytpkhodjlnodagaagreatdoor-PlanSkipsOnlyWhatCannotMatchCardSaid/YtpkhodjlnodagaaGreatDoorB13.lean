/- Part 13 of the proof of PlanSkipsOnlyWhatCannotMatch. -/
import Derived.Test.YtpkhodjlnodagaaGreatDoorB11
set_option linter.unusedSimpArgs false
set_option linter.unusedVariables false
set_option linter.unusedSectionVars false
namespace Go.Av
section
variable {P : Program} {C : Ctx} {Q : Exit → Nat → AS → Prop} {n k : Nat} {s : AS} {ops : Array Oper}
def OW(P:Program)(C:Ctx)(ops:Array Oper)(Q:Exit→Nat→AS→Prop)(k n:Nat)(s:AS):Prop:=
 ∀ a w,Dt C n s.st a w→wpOpsIn C.F 0 P ops (fun e a' w'=> ∃ n' s',Q e n' s'∧Dt C n' s'.st a' w') (List.range' k (ops.size-k)) a w
theorem ME{id:Nat}(h:OW P C ops Q 0 n s):AW P C (.region id ops false) Q n s:=by
 intro a w hI
 refine wpIn_region ?_
 rw[List.range_eq_range']
 have:=h a w hI
 rwa [Nat.sub_zero]at this
theorem OW.done(hk:ops.size≤k)(h:Q .normal n s):OW P C ops Q k n s:=by
 intro a w hI
 rw[show ops.size-k=0 by omega]
 simp only[List.range'_zero,wpOpsIn]
 exact⟨n,s,h,hI⟩
theorem Ws{k':Nat}(hk:C.k=k')(n':Nat)(s':AS)(hw:Wk k' s n' s')(h:OW P C ops Q k n' s'):OW P C ops Q k n s:=fun a w hI=>h a w (hI.weak (hk ▸ hw))
theorem Rn{T:Tab}{orc:Nat→Option Orc}: ∀ (l:List Oper) (i:Nat) (s:AS) (ts:List Touch) (p:Prop) {s':AS} {ts':List Touch} {p':Prop},Bv P T orc n ops l i s ts p=some (s',ts',p')→p'→p
 | [],i,s,ts,p,s',ts',p',h,hp=>by
   simp only[Bv,Option.some.injEq,Prod.mk.injEq]at h
   obtain⟨_,_,rfl⟩:=h
   exact hp
 |o::l,i,s,ts,p,s',ts',p',h,hp=>by
   rw[Bv]at h
   split at h
   · split at h
     · exact(Rn l _ _ _ _ h hp).1
     · simp at h
   · exact Rn l _ _ _ _ h hp
   · simp at h
theorem MU{orc:Nat→Option Orc}{N k0:Nat}{Q':Exit→Act→World→Prop}(hN:C.N=N)(hd:FZ N ops.toList=true){s':AS}{ts':List Touch}{p':Prop}(hp:p'):
   ∀ (l:List Oper) (i:Nat) (s:AS) (ts:List Touch) (p:Prop) (a:Act) (w:World),(∀ j o,l[j]? =some o→ops[i+j]? =some o)→Bv P (Ao P) orc n ops l i s ts p=some (s',ts',p')→k0≤i→
   KQ C n (fun j=>decide (k0≤j∧j<i)) s.st a w→(∀ a w,KQ C n (fun j=>decide (k0≤j∧j<i+l.length)) s'.st a w→wpOpsIn C.F 0 P ops Q' (List.range' (i+l.length) (ops.size- (i+l.length))) a w)→
   wpOpsIn C.F 0 P ops Q' (List.range' i (ops.size-i)) a w
 | [],i,s,ts,p,a,w,hl,h,hk,hI,hQ=>by
   simp only[Bv,Option.some.injEq,Prod.mk.injEq]at h
   obtain⟨rfl,_,_⟩:=h
   exact hQ a w hI
 |o::l,i,s,ts,p,a,w,hl,h,hk,hI,hQ=>by
   have ho:ops[i]? =some o:=by simpa using hl 0 o rfl
   have hlt:i<ops.size:=by
     rcases Nat.lt_or_ge i ops.size with h|h
     · exact h
     · rw[Array.getElem?_eq_none h]at ho;simp at ho
   rw[show ops.size-i=(ops.size- (i+1))+1 by omega,List.range'_succ,wpOpsIn_cons]
   have hdo: ∀ d,o.dst=some d→d<C.N:=fun d hdd=>hN ▸ Kj hd o (by rw[Array.mem_toList_iff];exact Array.mem_of_getElem? ho) d hdd
   have step: ∀ (r:Out) (s1:AS) (p1:Prop) (ts1:List Touch),FG P (Ao P) orc n ops i o s.st=some r→r.ob→s1.st=s.st.app o.dst r→Bv P (Ao P) orc n ops l (i+1) s1 ts1 p1=some (s',ts',p')→
       wpOpIn C.F 0 P ops Q' i (wpOpsIn C.F 0 P ops Q' (List.range' (i+1) (ops.size- (i+1)))) a w:=by
     intro r s1 p1 ts1 hs hob hst hr
     refine Q3 (BU P) hI ho sP hs hob hdo ?_
     intro a' w' hI'
     refine MU (k0:=k0) hN hd hp l (i+1) s1 ts1 p1 a' w' (fun j o' hj=>?_) hr oM ?_ ?_
     · have:=hl (j+1) o' (by simpa using hj)
       rwa [show i+(j+1)=i+1+j by omega]at this
     · rw[hst]
       obtain⟨β,hS,hn⟩:=hI'
       refine⟨β,hS,fun j hj=>?_⟩
       rcases hn j hj with h|⟨x,hx,h2⟩
       · exact .inl h
       · refine .inr ⟨x,?_,h2⟩
         by_cases he:x=i
         · subst he;simp;omega
         · simp only[if_neg he,decide_eq_true_eq]at hx ⊢;omega
     · intro a2 w2 hI2
       have e:i+(o::l).length=i+1+l.length:=by simp only[List.length_cons];omega
       rw[← e]at hI2 ⊢
       exact hQ a2 w2 hI2
   rw[Bv]at h
   split at h
   · next hg=>
     split at h
     · next r hr=>
       have hpr:=Rn l _ _ _ _ h hp
       exact step r _ _ _ (by unfold FG;rw[show s.st.env=lk s.env from rfl,hg];exact hr) hpr.2 (RL s o.dst r) h
     · simp at h
   · next hg=>
     refine step {v:= .val undef} _ _ _ (by unfold FG;rw[show s.st.env=lk s.env from rfl,hg]) trivial ?_ h
     have:=RL s o.dst {v:= .val undef}
     simpa using this
   · simp at h
def Px(P:Program)(orc:Nat→Option Orc)(ks:List Nat)(n:Nat)(ops:Array Oper)(k m:Nat)(keep:List Nat)(K:Nat→AS→Prop)(s:AS):Prop:=
 match Bv P (Ao P) orc n ops ((ops.toList.drop k).take m) k s [] True with
 |some (s',_,p)=>p∧K (E4 ks keep s').length (G8 ks keep s')
 |none=>False
theorem OW.run{N k0:Nat}(hN:C.N=N)(hk:C.k=k0)(orc:Nat→Option Orc)(ks keep:List Nat)(hks:ks=List.range k0)(m:Nat)(hm:k+m≤ops.size)(hok:FZ N ops.toList=true)
   (h: ∀ K:Nat→AS→Prop,(∀ n s,OW P C ops Q (k+m) n s→K n s)→Px P orc ks n ops k m keep K s):OW P C ops Q k n s:=by
 have hh:=h (fun n s=>OW P C ops Q (k+m) n s) (fun _ _ h=>h)
 unfold Px at hh
 split at hh
 · rename_i s' ts p hrun
   intro a w hI
   have hlen:((ops.toList.drop k).take m).length=m:=by simp;omega
   refine MU (k0:=k) hN hok hh.1 _ k s [] True a w ?_ hrun (Nat.le_refl _) ?_ ?_
   · intro j o hj
     rw[List.getElem?_take]at hj
     split at hj
     · rw[List.getElem?_drop]at hj;simpa using hj
     · simp at hj
   · obtain⟨β,hS,hn⟩:=hI.start
     exact⟨β,hS,fun j hj=>by rcases hn j hj with h|⟨x,hx,_⟩;exact .inl h;simp at hx⟩
   · intro a' w' hI'
     rw[hlen]at hI' ⊢
     have hI2:Dt C (n+8*(k+m)) s'.st a' w':=hI'.done (fun i hi=>by simp at hi;omega)
     exact hh.2 a' w' (hI2.weak (hk ▸ HV (hk ▸ hks)))
 · exact hh.elim
theorem Uq(orc:Nat→Option Orc)(ks:List Nat)(ops:Array Oper)(k m:Nat)(keep:List Nat)(K:Nat→AS→Prop):Px P orc ks n ops k m keep K s=(match Bv P (Ao P) orc n ops ((ops.toList.drop k).take m) k s [] True with
 |some (s',_,p)=>p∧K (E4 ks keep s').length (G8 ks keep s')
 |none=>False):=rfl
end
end Go.Av
