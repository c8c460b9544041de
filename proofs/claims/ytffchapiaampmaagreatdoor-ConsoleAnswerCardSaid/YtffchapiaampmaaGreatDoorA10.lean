/-
  Part 10 of the proof that logtidelaw45.ConsoleAnswer returns true for every list of bytes and every text, and leaves both as they were.
-/
import Derived.Test.YtffchapiaampmaaGreatDoorA09
set_option linter.unusedSimpArgs false
set_option linter.unusedVariables false
namespace Go.Av
variable {P : Program} {w : World}
theorem run_eq_int {d : Nat} {t : TypeId} {k k' : IntKind} {a b : Int} (hu : P.underlying t = some (.int k')) : (Op.equalIn (d + 1) t (.int k a) (.int k b)).run P w = .ok (a == b) w := by
 rw [Op.equalIn, run_bind, run_underlying hu]
 simp [run_pure]
theorem run_eq_str {d : Nat} {t : TypeId} {a b : ByteArray} (hu : P.underlying t = some .string) : (Op.equalIn (d + 1) t (.string a) (.string b)).run P w = .ok (bl a == bl b) w := by
 rw [Op.equalIn, run_bind, run_underlying hu]
 simp only [run_pure]
 congr 1
 have e : (a == b) = (a.data == b.data) := by cases a; cases b; rfl
 rw [e, Bool.eq_iff_iff]
 simp only [beq_iff_eq, bl]
 exact Array.toList_inj.symm
end Go.Av
