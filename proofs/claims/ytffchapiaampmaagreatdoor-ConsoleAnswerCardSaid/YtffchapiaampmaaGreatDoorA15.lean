/-
  Part 15 of the proof that logtidelaw45.ConsoleAnswer returns true for every list of bytes and every text, and leaves both as they were.
-/
import Derived.Test.YtffchapiaampmaaGreatDoorA14
set_option linter.unusedSimpArgs false
set_option linter.unusedVariables false
namespace Go.Av
section
variable {P : Program} {C : Ctx} {Q : Exit → Nat → AS → Prop} {n : Nat} {s : AS}
theorem AW.rT (hm : P.follows .mixedOrders = true) {N k : Nat} (hN : C.N = N) (hk : C.k = k) (O : Nat → Nat → Option Orc) (kt : Nat → List Nat) (ks : List Nat) (hks : ks = List.range k) {id : Nat} {ops : Array Oper} (hok : regOk N ops false = true)
   (h : ∀ K : Nat → AS → Prop, (∀ n s, Q .normal n s → K n s) → RegC P (O id) ks n ops (kt id) K s) : AW P C (.region id ops false) Q n s := AW.rc hm hN hk (O id) ks (kt id) hks hok h
theorem AW.rD (hm : P.follows .mixedOrders = true) {N k : Nat} (hN : C.N = N) (hk : C.k = k) (O : Nat → Nat → Option Orc) (kt : Nat → List Nat) (ks : List Nat) (hks : ks = List.range k) {id : Nat} {ops : Array Oper} (hok : regOk N ops true = true)
   (h : ∀ (K : Nat → AS → Prop) (tok : List Touch → Prop), (∀ ts, touchesOk (masks ops.toList []) ts = true → tok ts) → (∀ n s, Q .normal n s → K n s) → RegCD P (O id) ks n ops (kt id) tok K s) : AW P C (.region id ops true) Q n s := AW.rcd hm hN hk (O id) ks (kt id) hks hok h
end
def noO : Nat → Nat → Option Orc := fun _ => noc
def atO (r : Nat) (o : Nat → Option Orc) (rest : Nat → Nat → Option Orc) : Nat → Nat → Option Orc := fun i => if i = r then o else rest i
theorem atO_ap (r : Nat) (o : Nat → Option Orc) (rest : Nat → Nat → Option Orc) (i : Nat) : atO r o rest i = if i = r then o else rest i := rfl
theorem noO_ap (i : Nat) : noO i = noc := rfl
attribute [go_sem] atO_ap noO_ap
end Go.Av
