/- Part 17 of the proof of PlanSkipsOnlyWhatCannotMatch. -/
import Derived.Test.YtpkhodjlnodagaaGreatDoorB16
set_option linter.unusedSimpArgs false
set_option linter.unusedVariables false
set_option linter.unusedSectionVars false
namespace Go.Av
theorem Wi{P:Program}{g:FuncId}{as:List AV}{n sz T:Nat}{es:List (List AV)}{v:Value}(h:Ad P g as [] (.tup [.osl 0 n sz,.val v]) [some ⟨T,sz,es⟩])(hn:es.length=n)(hi:AB 0 es=true):Ae P g as (fun x=>x= .tup [.sl sz es,.val v]):=
 Ep (Ad.settle [0] h (by
   rw[XU,KX,KX,X7]
   exact⟨⟨rfl,sP,_,rfl,hn,rfl,rfl,hi⟩,sP,sP⟩))
theorem On{P:Program}{g:FuncId}{as:List AV}{sz:Nat}{v:Value}(h:Ad P g as [] (.tup [.val (.slice none 0 0),.val v]) []):Ae P g as (fun x=>x= .tup [.sl sz [],.val v]):=
 Ep (Ad.settle [] h sP)
theorem N5 [Yl]{P:Program}{st:List Fr}{N n:Nat}{rv:List ResultVar}{s:AS}{Rg:AV→Prop}{sz:Nat}{u v:Value}{p:Prop}(hR:Rg (.tup [.val u,.sl sz [],.val v]))(hres:AY (Ao P) s rv=some ([.val u,.val (.slice none 0 0),.val v],p):=by(try simp only[AY,go_sem,seval]);rfl)(hp:p:=by(repeat' (with_reducible refine And.intro ?_ ?_))<;>trivial):XH P N 0 (RP Rg) rv (.c .ret) st n s:=XP.ret [] _ hR hres hp (by simp only[Az,wk,wkL];exact⟨_,rfl,_,_,rfl,rfl,_,_,rfl,.inr (.inr ⟨rfl,trivial⟩),_,_,rfl,rfl,rfl⟩) rfl
end Go.Av
