/- Part 6 of the proof of PlanSkipsOnlyWhatCannotMatch. -/
import Derived.Test.YtpkhodjlnodagaaGreatDoorB05
set_option linter.unusedSimpArgs false
set_option linter.unusedVariables false
set_option linter.unusedSectionVars false
namespace Go.Av
variable {P : Program} {w : World}
theorem OL{d:Nat}{t:TypeId}{a b:ByteArray}(hu:P.underlying t=some .string):(Op.equalIn (d+1) t (.string a) (.string b)).run P w= .ok (bl a==bl b) w:=by
 rw[Op.equalIn,run_bind,At hu]
 simp only[run_pure]
 congr 1
 have e:(a==b)=(a.data==b.data):=by cases a;cases b;rfl
 rw[e,Bool.eq_iff_iff]
 simp only[beq_iff_eq,bl]
 exact Array.toList_inj.symm
end Go.Av
