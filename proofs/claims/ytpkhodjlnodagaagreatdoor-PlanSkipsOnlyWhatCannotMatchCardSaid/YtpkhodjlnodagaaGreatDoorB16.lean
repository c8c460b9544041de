/- Part 16 of the proof of PlanSkipsOnlyWhatCannotMatch. -/
import Derived.Test.YtpkhodjlnodagaaGreatDoorB15
set_option linter.unusedSimpArgs false
set_option linter.unusedVariables false
set_option linter.unusedSectionVars false
namespace Go.Av
section
variable {P : Program} {T : Tab} {nb : Nat} {env : Env} {hp : Hp}
theorem Afd(hT:B4 P T){t:TypeId}{v:AV}{ob:Prop}(h: ∀ hp',Ic T hp' t (.rp (Jy.map .val))=some ⟨v,[],[],ob⟩)(hob:ob):EM P nb env hp (.load t (.global 0)) ⟨v,[],[],True⟩:=by
 intro env' hp' hev hh X w β a o ho hg hfresh henv
 have hx:Rep w β (Own X β hp') (.rp (Jy.map .val)) (a.eval (.global 0)):=by
   obtain⟨t',fr,h1⟩:=hg.laid.1
   obtain⟨h2,h3⟩:=hg.laid.2 0 rfl
   simp only[Rep]
   exact⟨0,0,Jy,rfl,h2,h3,CZ h1 (rest:=[]) sP,Gg Jy⟩
 obtain⟨z,h1,h2,h3⟩:=KL hT hg (h hp') hob hx
 exact⟨z,w,β,by simp only[execOp,ho];exact Dv h1,⟨h2,hg,Gv _ _,CR _,fun _ _=>rfl,fun j hj=> .inl hj⟩⟩
end
section
variable [Yl] {P : Program} {n : Nat} {s : AS} {ops : Array Oper} {s0 : AS} {G : Prop} {k : Nat} {ts : List Touch} {rem : List Oper}
theorem QI(i:Nat){o:Oper}{g:FuncId}{m sz:Nat}{xs:List AV}{e e':Ent}{r r':AV}(q:Ad P g (.osl 0 m sz::xs) [some e] r [some e'])
   (h:XO P n ops s0 G (k+1) rem ⟨BV o.dst r' s.env,(i,some e')::s.hp⟩ ((k,[i],[i])::ts)) (hr:ren (Bu [i] (n+8*k)) r=r':=by rfl) (hei:AB 0 e.es=true:=by first|rfl|simp) (hei':AB 0 e'.es=true:=by first|rfl|simp)
   (hcal:FB o=some g:=by rfl) (hgd:BM ops (lk s.env) o=some true:=by rfl) (ha:BX o (lk s.env)= .osl i m sz::xs:=by rfl) (h1:lkh s.hp i=some e:=by rfl) (qa:AF 0 xs=true:=by rfl):XO P n ops s0 G k (o::rem) s ts:=by
 have e0:Bu [i] (n+8*k) 0=i:=rfl
 refine VL [i] (xa:= .osl 0 m sz::xs) (hs:=[e]) q hcal hgd ?_ sP ⟨?_,K4 _ hei,trivial⟩ sP sP ?_ sP ?_
 · rw[ha]
   simp only[BK,ren,e0]
   rw[CJ _ _ qa]
   exact Cq _ _
 · rw[h1,Cr _ hei]
 · simp only[AF,AN,Bool.and_eq_true]
   exact⟨sP,EK _ _ qa⟩
 · have hw:DK (Bu [i] (n+8*k)) 0 [some e']=[(i,some e')]:=by
     simp only[DK,Option.map_some,Cr _ hei',e0]
   rw[hw,hr]
   exact h
theorem XJ(i:Nat){o:Oper}{g:FuncId}{m sz m' sz':Nat}{xs:List AV}{e e':Ent}(q:Ad P g (.osl 0 m sz::xs) [some e] (.osl 0 m' sz') [some e'])
   (h:XO P n ops s0 G (k+1) rem ⟨BV o.dst (.osl i m' sz') s.env,(i,some e')::s.hp⟩ ((k,[i],[i])::ts)) (hei:AB 0 e.es=true:=by first|rfl|simp) (hei':AB 0 e'.es=true:=by first|rfl|simp)
   (hcal:FB o=some g:=by rfl) (hgd:BM ops (lk s.env) o=some true:=by rfl) (ha:BX o (lk s.env)= .osl i m sz::xs:=by rfl) (h1:lkh s.hp i=some e:=by rfl) (qa:AF 0 xs=true:=by rfl):XO P n ops s0 G k (o::rem) s ts:=
 QI i q h rfl hei hei' hcal hgd ha h1 qa
end
end Go.Av
