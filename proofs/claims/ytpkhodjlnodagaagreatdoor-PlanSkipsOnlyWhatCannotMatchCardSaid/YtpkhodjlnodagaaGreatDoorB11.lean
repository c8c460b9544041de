/- Part 11 of the proof of PlanSkipsOnlyWhatCannotMatch. -/
import Derived.Test.YtpkhodjlnodagaaGreatDoorB10
set_option linter.unusedSimpArgs false
set_option linter.unusedVariables false
set_option linter.unusedSectionVars false
namespace Go.Av
section
variable {P : Program} {C : Ctx} {Q : Exit → Nat → AS → Prop} {n : Nat} {s : AS}
theorem Ww(hm:P.follows .mixedOrders=true){N k:Nat}(hN:C.N=N)(hk:C.k=k)(O:Nat→Nat→Option Orc)(kt:Nat→List Nat)(ks:List Nat)(hks:ks=List.range k){id:Nat}{ops:Array Oper}(hok:Ct N ops false=true)
   (h: ∀ K:Nat→AS→Prop,(∀ n s,Q .normal n s→K n s)→Ha P (O id) ks n ops (kt id) K s):AW P C (.region id ops false) Q n s:=Fj hm hN hk (O id) ks (kt id) hks hok h
theorem Wt(hm:P.follows .mixedOrders=true){N k:Nat}(hN:C.N=N)(hk:C.k=k)(O:Nat→Nat→Option Orc)(kt:Nat→List Nat)(ks:List Nat)(hks:ks=List.range k){id:Nat}{ops:Array Oper}(hok:Ct N ops true=true)
   (h: ∀ (K:Nat→AS→Prop) (tok:List Touch→Prop),(∀ ts,BS (CA ops.toList []) ts=true→tok ts)→(∀ n s,Q .normal n s→K n s)→G0 P (O id) ks n ops (kt id) tok K s):AW P C (.region id ops true) Q n s:=Jx hm hN hk (O id) ks (kt id) hks hok h
end
def noO:Nat→Nat→Option Orc:=fun _=>noc
def atO(r:Nat)(o:Nat→Option Orc)(rest:Nat→Nat→Option Orc):Nat→Nat→Option Orc:=fun i=>if i=r then o else rest i
theorem Ae8(r:Nat)(o:Nat→Option Orc)(rest:Nat→Nat→Option Orc)(i:Nat):atO r o rest i=if i=r then o else rest i:=rfl
theorem AfU(i:Nat):noO i=noc:=rfl
attribute [go_sem] Ae8 AfU
end Go.Av
