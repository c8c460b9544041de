/- Part 16 of the proof of PlanCandidates. -/
import Derived.Test.YtpkhodjlnodagaaGreatDoorA15
set_option linter.unusedSimpArgs false
set_option linter.unusedVariables false
set_option linter.unusedSectionVars false
namespace Go.Av
section
variable {P : Program} {T : Tab} {nb : Nat} {env : Env} {hp : Hp}
theorem Ad9(hT:BZ P T){t:TypeId}{v:AV}{ob:Prop}(h: ∀ hp',H7 T hp' t (.rp (Jk.map .val))=some ⟨v,[],[],ob⟩)(hob:ob):EI P nb env hp (.load t (.global 0)) ⟨v,[],[],True⟩:=by
 intro env' hp' hev hh X w β a o ho hg hfresh henv
 have hx:Rep w β (Own X β hp') (.rp (Jk.map .val)) (a.eval (.global 0)):=by
   obtain⟨t',fr,h1⟩:=hg.laid.1
   obtain⟨h2,h3⟩:=hg.laid.2 0 rfl
   simp only[Rep]
   exact⟨0,0,Jk,rfl,h2,h3,CR h1 (rest:=[]) (by simp),Gf Jk⟩
 obtain⟨z,h1,h2,h3⟩:=Kz hT hg (h hp') hob hx
 exact⟨z,w,β,by simp only[execOp,ho];exact Dt h1,⟨h2,hg,Gj _ _,CK _,fun _ _=>rfl,fun j hj=> .inl hj⟩⟩
end
section
variable [Yl] {P : Program} {n : Nat} {s : AS} {ops : Array Oper} {s0 : AS} {G : Prop} {k : Nat} {ts : List Touch} {rem : List Oper}
theorem QA(i:Nat){o:Oper}{g:FuncId}{m sz:Nat}{xs:List AV}{e e':Ent}{r r':AV}(q:Af P g (.osl 0 m sz::xs) [some e] r [some e'])
   (h:XO P n ops s0 G (k+1) rem ⟨BR o.dst r' s.env,(i,some e')::s.hp⟩ ((k,[i],[i])::ts)) (hr:ren (Bs [i] (n+8*k)) r=r':=by rfl) (hei:AA 0 e.es=true:=by first|rfl|simp) (hei':AA 0 e'.es=true:=by first|rfl|simp)
   (hcal:FI o=some g:=by rfl) (hgd:BI ops (lk s.env) o=some true:=by rfl) (ha:BU o (lk s.env)= .osl i m sz::xs:=by rfl) (h1:lkh s.hp i=some e:=by rfl) (qa:AE 0 xs=true:=by rfl):XO P n ops s0 G k (o::rem) s ts:=by
 have e0:Bs [i] (n+8*k) 0=i:=rfl
 refine VA [i] (xa:= .osl 0 m sz::xs) (hs:=[e]) q hcal hgd ?_ (by simp) ⟨?_,Ld _ hei,trivial⟩ (by simp) (by simp) ?_ (by simp) ?_
 · rw[ha]
   simp only[BJ,ren,e0]
   rw[CE _ _ qa]
   exact Cn _ _
 · rw[h1,Cm _ hei]
 · simp only[AE,AO,Bool.and_eq_true]
   exact⟨by simp,EH _ _ qa⟩
 · have hw:DM (Bs [i] (n+8*k)) 0 [some e']=[(i,some e')]:=by
     simp only[DM,Option.map_some,Cm _ hei',e0]
   rw[hw,hr]
   exact h
theorem V3(i:Nat){o:Oper}{g:FuncId}{m sz m' sz':Nat}{xs:List AV}{e e':Ent}(q:Af P g (.osl 0 m sz::xs) [some e] (.osl 0 m' sz') [some e'])
   (h:XO P n ops s0 G (k+1) rem ⟨BR o.dst (.osl i m' sz') s.env,(i,some e')::s.hp⟩ ((k,[i],[i])::ts)) (hei:AA 0 e.es=true:=by first|rfl|simp) (hei':AA 0 e'.es=true:=by first|rfl|simp)
   (hcal:FI o=some g:=by rfl) (hgd:BI ops (lk s.env) o=some true:=by rfl) (ha:BU o (lk s.env)= .osl i m sz::xs:=by rfl) (h1:lkh s.hp i=some e:=by rfl) (qa:AE 0 xs=true:=by rfl):XO P n ops s0 G k (o::rem) s ts:=
 QA i q h rfl hei hei' hcal hgd ha h1 qa
end
end Go.Av
