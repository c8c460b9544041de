/- Part 11 of the proof of PlanCandidates. -/
import Derived.Test.YtpkhodjlnodagaaGreatDoorA10
set_option linter.unusedSimpArgs false
set_option linter.unusedVariables false
set_option linter.unusedSectionVars false
namespace Go.Av
section
variable {P : Program} {C : Ctx} {Q : Exit → Nat → AS → Prop} {n : Nat} {s : AS}
theorem D0(hm:P.follows .mixedOrders=true){N k:Nat}(hN:C.N=N)(hk:C.k=k)(O:Nat→Nat→Option Orc)(kt:Nat→List Nat)(ks:List Nat)(hks:ks=List.range k){id:Nat}{ops:Array Oper}(hok:Cp N ops false=true)
   (h: ∀ K:Nat→AS→Prop,(∀ n s,Q .normal n s→K n s)→GX P (O id) ks n ops (kt id) K s):AW P C (.region id ops false) Q n s:=E8 hm hN hk (O id) ks (kt id) hks hok h
theorem DZ(hm:P.follows .mixedOrders=true){N k:Nat}(hN:C.N=N)(hk:C.k=k)(O:Nat→Nat→Option Orc)(kt:Nat→List Nat)(ks:List Nat)(hks:ks=List.range k){id:Nat}{ops:Array Oper}(hok:Cp N ops true=true)
   (h: ∀ (K:Nat→AS→Prop) (tok:List Touch→Prop),(∀ ts,BO (Cu ops.toList []) ts=true→tok ts)→(∀ n s,Q .normal n s→K n s)→GR P (O id) ks n ops (kt id) tok K s):AW P C (.region id ops true) Q n s:=Jg hm hN hk (O id) ks (kt id) hks hok h
end
def noO:Nat→Nat→Option Orc:=fun _=>noc
def atO(r:Nat)(o:Nat→Option Orc)(rest:Nat→Nat→Option Orc):Nat→Nat→Option Orc:=fun i=>if i=r then o else rest i
theorem Ad8(r:Nat)(o:Nat→Option Orc)(rest:Nat→Nat→Option Orc)(i:Nat):atO r o rest i=if i=r then o else rest i:=rfl
theorem Aeh(i:Nat):noO i=noc:=rfl
attribute [go_sem] Ad8 Aeh
end Go.Av
