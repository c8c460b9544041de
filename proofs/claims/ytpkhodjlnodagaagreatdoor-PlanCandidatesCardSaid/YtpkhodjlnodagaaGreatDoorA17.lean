/- Part 17 of the proof of PlanCandidates. -/
import Derived.Test.YtpkhodjlnodagaaGreatDoorA16
set_option linter.unusedSimpArgs false
set_option linter.unusedVariables false
set_option linter.unusedSectionVars false
namespace Go.Av
theorem Gt{P:Program}{g:FuncId}{as:List AV}{n sz T:Nat}{es:List (List AV)}{v:Value}(h:Af P g as [] (.tup [.osl 0 n sz,.val v]) [some ⟨T,sz,es⟩])(hn:es.length=n)(hi:AA 0 es=true):Ad P g as (fun x=>x= .tup [.sl sz es,.val v]):=
 CL (Af.settle [0] h (by
   rw[WD,KG,KG,WT]
   exact⟨⟨rfl,by simp,_,rfl,hn,rfl,rfl,hi⟩,by simp,by simp⟩))
theorem OH{P:Program}{g:FuncId}{as:List AV}{sz:Nat}{v:Value}(h:Af P g as [] (.tup [.val (.slice none 0 0),.val v]) []):Ad P g as (fun x=>x= .tup [.sl sz [],.val v]):=
 CL (Af.settle [] h (by simp))
theorem OE [Yl]{P:Program}{st:List Fr}{N n:Nat}{rv:List ResultVar}{s:AS}{Rg:AV→Prop}{sz:Nat}{u v:Value}{p:Prop}(hR:Rg (.tup [.val u,.sl sz [],.val v]))(hres:AY (Ao P) s rv=some ([.val u,.val (.slice none 0 0),.val v],p):=by(try simp only[AY,go_sem,seval]);rfl)(hp:p:=by(repeat' (with_reducible refine And.intro ?_ ?_))<;>trivial):XH P N 0 (RP Rg) rv (.c .ret) st n s:=XP.ret [] _ hR hres hp (by simp only[Ax,wk,wkL];exact⟨_,rfl,_,_,rfl,rfl,_,_,rfl,.inr (.inr ⟨rfl,trivial⟩),_,_,rfl,rfl,rfl⟩) rfl
end Go.Av
