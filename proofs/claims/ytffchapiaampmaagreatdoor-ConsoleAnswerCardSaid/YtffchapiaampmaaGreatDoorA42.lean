/-
  Part 42 of the proof that logtidelaw45.ConsoleAnswer returns true for every list of bytes and every text, and leaves both as they were.
-/
import Derived.Test.YtffchapiaampmaaGreatDoorA20
import Derived.Test.YtffchapiaampmaaGreatDoorA33
set_option linter.unusedSimpArgs false
set_option linter.unusedVariables false
namespace Go.Proofs.YtffchapiaampmaaGreatDoor
open Go.Av
noncomputable def fnsR : FuncId → Option Func
 | 55 => some Tryz.f55
 | 76 => some Tryz.f76
 | 77 => some Tryz.f77
 | 78 => some Tryz.f78
 | 96 => some Tryz.f96
 | 97 => some Tryz.f97
 | 98 => some Tryz.f98
 | 116 => some Tryz.f116
 | 117 => some Tryz.f117
 | 121 => some Tryz.f121
 | 127 => some Tryz.f127
 | 128 => some Tryz.f128
 | 129 => some Tryz.f129
 | 130 => some Tryz.f130
 | 131 => some Tryz.f131
 | 136 => some Tryz.f136
 | 137 => some Tryz.f137
 | 138 => some Tryz.f138
 | 139 => some Tryz.f139
 | 140 => some Tryz.f140
 | 141 => some Tryz.f141
 | 142 => some Tryz.f142
 | 143 => some Tryz.f143
 | 144 => some Tryz.f144
 | 145 => some Tryz.f145
 | 146 => some Tryz.f146
 | 147 => some Tryz.f147
 | 148 => some Tryz.f148
 | 149 => some Tryz.f149
 | 150 => some Tryz.f150
 | 151 => some Tryz.f151
 | 152 => some Tryz.f152
 | 101 => some Tryz.f101
 | 118 => some Tryz.f118
 | 119 => some Tryz.f119
 | 132 => some Tryz.f132
 | 133 => some Tryz.f133
 | _ => none
theorem fnsR_ok : ∀ g fn, fnsR g = some fn → Tryz.prog.funcs[g]? = some fn ∧ (fn.name == "runtime.NumGoroutine") = false := by
 intro g fn h
 unfold fnsR at h
 split at h
 · simp only [Option.some.injEq] at h; subst h; exact ⟨Tryz.func55, by rfl⟩
 · simp only [Option.some.injEq] at h; subst h; exact ⟨Tryz.func76, by rfl⟩
 · simp only [Option.some.injEq] at h; subst h; exact ⟨Tryz.func77, by rfl⟩
 · simp only [Option.some.injEq] at h; subst h; exact ⟨Tryz.func78, by rfl⟩
 · simp only [Option.some.injEq] at h; subst h; exact ⟨Tryz.func96, by rfl⟩
 · simp only [Option.some.injEq] at h; subst h; exact ⟨Tryz.func97, by rfl⟩
 · simp only [Option.some.injEq] at h; subst h; exact ⟨Tryz.func98, by rfl⟩
 · simp only [Option.some.injEq] at h; subst h; exact ⟨Tryz.func116, by rfl⟩
 · simp only [Option.some.injEq] at h; subst h; exact ⟨Tryz.func117, by rfl⟩
 · simp only [Option.some.injEq] at h; subst h; exact ⟨Tryz.func121, by rfl⟩
 · simp only [Option.some.injEq] at h; subst h; exact ⟨Tryz.func127, by rfl⟩
 · simp only [Option.some.injEq] at h; subst h; exact ⟨Tryz.func128, by rfl⟩
 · simp only [Option.some.injEq] at h; subst h; exact ⟨Tryz.func129, by rfl⟩
 · simp only [Option.some.injEq] at h; subst h; exact ⟨Tryz.func130, by rfl⟩
 · simp only [Option.some.injEq] at h; subst h; exact ⟨Tryz.func131, by rfl⟩
 · simp only [Option.some.injEq] at h; subst h; exact ⟨Tryz.func136, by rfl⟩
 · simp only [Option.some.injEq] at h; subst h; exact ⟨Tryz.func137, by rfl⟩
 · simp only [Option.some.injEq] at h; subst h; exact ⟨Tryz.func138, by rfl⟩
 · simp only [Option.some.injEq] at h; subst h; exact ⟨Tryz.func139, by rfl⟩
 · simp only [Option.some.injEq] at h; subst h; exact ⟨Tryz.func140, by rfl⟩
 · simp only [Option.some.injEq] at h; subst h; exact ⟨Tryz.func141, by rfl⟩
 · simp only [Option.some.injEq] at h; subst h; exact ⟨Tryz.func142, by rfl⟩
 · simp only [Option.some.injEq] at h; subst h; exact ⟨Tryz.func143, by rfl⟩
 · simp only [Option.some.injEq] at h; subst h; exact ⟨Tryz.func144, by rfl⟩
 · simp only [Option.some.injEq] at h; subst h; exact ⟨Tryz.func145, by rfl⟩
 · simp only [Option.some.injEq] at h; subst h; exact ⟨Tryz.func146, by rfl⟩
 · simp only [Option.some.injEq] at h; subst h; exact ⟨Tryz.func147, by rfl⟩
 · simp only [Option.some.injEq] at h; subst h; exact ⟨Tryz.func148, by rfl⟩
 · simp only [Option.some.injEq] at h; subst h; exact ⟨Tryz.func149, by rfl⟩
 · simp only [Option.some.injEq] at h; subst h; exact ⟨Tryz.func150, by rfl⟩
 · simp only [Option.some.injEq] at h; subst h; exact ⟨Tryz.func151, by rfl⟩
 · simp only [Option.some.injEq] at h; subst h; exact ⟨Tryz.func152, by rfl⟩
 · simp only [Option.some.injEq] at h; subst h; exact ⟨Tryz.func101, by rfl⟩
 · simp only [Option.some.injEq] at h; subst h; exact ⟨Tryz.func118, by rfl⟩
 · simp only [Option.some.injEq] at h; subst h; exact ⟨Tryz.func119, by rfl⟩
 · simp only [Option.some.injEq] at h; subst h; exact ⟨Tryz.func132, by rfl⟩
 · simp only [Option.some.injEq] at h; subst h; exact ⟨Tryz.func133, by rfl⟩
 · simp at h
/-- What is known of calls. -/
def findK : List (FuncId × List AV × AV) → FuncId → List AV → Option (AV × List (Option Ent))
 | [], _, _ => none
 | (g', a, r) :: l, g, zs => match g == g' with
   | true => match beqL zs a with
     | true => some (r, [])
     | false => findK l g zs
   | false => findK l g zs
def lookK (l : List (FuncId × List AV × AV)) : Caller := fun g zs hs => match hs with
 | [] => findK l g zs
 | _ => none
/-- All of a list are contracts. -/
def KOk : List (FuncId × List AV × AV) → Prop
 | [] => True
 | (g, zs, r) :: l => ACall Tryz.prog g zs [] r [] ∧ KOk l
theorem findK_ok : ∀ {l : List (FuncId × List AV × AV)} {g : FuncId} {zs : List AV} {r : AV} {hs' : List (Option Ent)}, KOk l → findK l g zs = some (r, hs') → ACall Tryz.prog g zs [] r hs'
 | [], g, zs, r, hs', _, h => by simp [findK] at h
 | (g', a, r') :: l, g, zs, r, hs', hk, h => by
   simp only [findK] at h
   split at h
   · rename_i hg
     split at h
     · rename_i ha
       simp only [Option.some.injEq, Prod.mk.injEq] at h
       obtain ⟨rfl, rfl⟩ := h
       rw [beq_iff_eq] at hg
       subst hg
       rw [beqL_eq _ _ ha]
       exact hk.1
     · exact findK_ok hk.2 h
   · exact findK_ok hk.2 h
theorem lookK_ok {l : List (FuncId × List AV × AV)} (hk : KOk l) : CallerOk Tryz.prog (lookK l) := by
 intro g zs hs r hs' h
 unfold lookK at h
 split at h
 · exact findK_ok hk h
 · simp at h
noncomputable def runK (l : List (FuncId × List AV × AV)) : Caller := icall Tryz.prog (tabOf Tryz.prog) fnsR (lookK l) 900 60
theorem runK_ok {l : List (FuncId × List AV × AV)} (hk : KOk l) : CallerOk Tryz.prog (runK l) := icall_ok (tabOf_ok _) mixed fnsR_ok (lookK_ok hk) 60
theorem runK_res {l : List (FuncId × List AV × AV)} (hk : KOk l) {g : FuncId} {zs : List AV} {r : AV} (h : isRes (runK l g zs []) r = true) : ACall Tryz.prog g zs [] r [] := runK_ok hk g zs [] r [] (isRes_ok h)
def setC (p : Nat → Bool) : AV := .agg ((List.range 256).map fun i => .val (.bool (p i)))
def isDig (i : Nat) : Bool := decide (48 ≤ i ∧ i ≤ 57)
def isAz (i : Nat) : Bool := decide (97 ≤ i ∧ i ≤ 122)
def clsC (lo hi : Int) : AV := .agg [.val (.int .i64 1), .sl 2 [[.val (.int .u8 lo), .val (.int .u8 hi)]], .val (.string ⟨#[]⟩), .val (.slice none 0 0), .val (.int .i64 0), .val (.int .i64 0)]
theorem named_d : ACall Tryz.prog 149 [.val (.int .u8 100)] [] (.tup [setC isDig, .val (.bool true)]) [] := runK_res (l := []) trivial (by decide +kernel)
theorem cls_d : ACall Tryz.prog 139 [setC isDig] [] (clsC 48 57) [] := runK_res (l := []) trivial (by decide +kernel)
theorem cls_az : ACall Tryz.prog 139 [setC isAz] [] (clsC 97 122) [] := runK_res (l := []) trivial (by decide +kernel)
theorem one_120 : ACall Tryz.prog 142 [.val (.int .i64 120)] [] (clsC 120 120) [] := runK_res (l := []) trivial (by decide +kernel)
theorem one_95 : ACall Tryz.prog 142 [.val (.int .i64 95)] [] (clsC 95 95) [] := runK_res (l := []) trivial (by decide +kernel)
theorem one_103 : ACall Tryz.prog 142 [.val (.int .i64 103)] [] (clsC 103 103) [] := runK_res (l := []) trivial (by decide +kernel)
theorem one_101 : ACall Tryz.prog 142 [.val (.int .i64 101)] [] (clsC 101 101) [] := runK_res (l := []) trivial (by decide +kernel)
theorem one_116 : ACall Tryz.prog 142 [.val (.int .i64 116)] [] (clsC 116 116) [] := runK_res (l := []) trivial (by decide +kernel)
theorem one_119 : ACall Tryz.prog 142 [.val (.int .i64 119)] [] (clsC 119 119) [] := runK_res (l := []) trivial (by decide +kernel)
theorem one_97 : ACall Tryz.prog 142 [.val (.int .i64 97)] [] (clsC 97 97) [] := runK_res (l := []) trivial (by decide +kernel)
theorem one_114 : ACall Tryz.prog 142 [.val (.int .i64 114)] [] (clsC 114 114) [] := runK_res (l := []) trivial (by decide +kernel)
theorem one_110 : ACall Tryz.prog 142 [.val (.int .i64 110)] [] (clsC 110 110) [] := runK_res (l := []) trivial (by decide +kernel)
def patK : List (FuncId × List AV × AV) := [(149, [.val (.int .u8 100)], .tup [setC isDig, .val (.bool true)]), (139, [setC isDig], clsC 48 57), (139, [setC isAz], clsC 97 122), (142, [.val (.int .i64 120)], clsC 120 120), (142, [.val (.int .i64 95)], clsC 95 95), (142, [.val (.int .i64 103)], clsC 103 103), (142, [.val (.int .i64 101)], clsC 101 101), (142, [.val (.int .i64 116)], clsC 116 116), (142, [.val (.int .i64 119)], clsC 119 119), (142, [.val (.int .i64 97)], clsC 97 97), (142, [.val (.int .i64 114)], clsC 114 114), (142, [.val (.int .i64 110)], clsC 110 110)]
theorem patK_ok : KOk patK := ⟨named_d, cls_d, cls_az, one_120, one_95, one_103, one_101, one_116, one_119, one_97, one_114, one_110, trivial⟩
/-- The tree of source 0. -/
def nd0 : AV := .agg [.val (.int .i64 5), .val (.slice none 0 0), .val (.string ⟨#[109, 115]⟩), .sl 6 [[.val (.int .i64 4), .val (.slice none 0 0), .val (.string ⟨#[]⟩), .sl 6 [[.val (.int .i64 1), .sl 2 [[.val (.int .u8 48), .val (.int .u8 57)]], .val (.string ⟨#[]⟩), .val (.slice none 0 0), .val (.int .i64 0), .val (.int .i64 0)]], .val (.int .i64 1), .val (.int .i64 (-1))]], .val (.int .i64 0), .val (.int .i64 0)]
def in0 : List (List AV) := [[.val (.int .i64 12), .val (.int .i64 0), .val (.int .i64 0), .val (.slice none 0 0)], [.val (.int .i64 1), .val (.int .i64 0), .val (.int .i64 0), .sl 2 [[.val (.int .u8 48), .val (.int .u8 57)]]], [.val (.int .i64 10), .val (.int .i64 3), .val (.int .i64 7), .val (.slice none 0 0)], [.val (.int .i64 14), .val (.int .i64 0), .val (.int .i64 0), .val (.slice none 0 0)], [.val (.int .i64 1), .val (.int .i64 0), .val (.int .i64 0), .sl 2 [[.val (.int .u8 48), .val (.int .u8 57)]]], [.val (.int .i64 15), .val (.int .i64 0), .val (.int .i64 0), .val (.slice none 0 0)], [.val (.int .i64 11), .val (.int .i64 2), .val (.int .i64 0), .val (.slice none 0 0)], [.val (.int .i64 12), .val (.int .i64 1), .val (.int .i64 0), .val (.slice none 0 0)], [.val (.int .i64 13), .val (.int .i64 0), .val (.int .i64 0), .val (.slice none 0 0)]]
def cp0 : AV := .sl 1 [[.val (.string ⟨#[109, 115]⟩)]]
theorem parse55_0 : ACall Tryz.prog 55 [.val (.string ⟨#[40, 109, 115, 58, 92, 100, 43, 41]⟩)] [] (.tup [nd0, .val (.int .i64 8), .val (.int .i64 0)]) [] := runK_res patK_ok (by decide +kernel)
theorem check78_0 : ACall Tryz.prog 78 [nd0] [] (.val (.int .i64 0)) [] := runK_res patK_ok (by decide +kernel)
theorem cost118_0 : ACall Tryz.prog 118 [nd0] [] (.val (.int .i64 7)) [] := runK_res patK_ok (by decide +kernel)
theorem program101_0 : PCall Tryz.prog 101 [nd0] (fun r => r = .sl 4 in0) := isSl_ok (runK_ok patK_ok) (by decide +kernel)
theorem captures121_0 : PCall Tryz.prog 121 [nd0] (fun r => r = cp0) := isSl_ok (runK_ok patK_ok) (by decide +kernel)
/-- The tree of source 1. -/
def nd1 : AV := .agg [.val (.int .i64 2), .val (.slice none 0 0), .val (.string ⟨#[]⟩), .sl 6 [[.val (.int .i64 5), .val (.slice none 0 0), .val (.string ⟨#[117, 115, 101, 114]⟩), .sl 6 [[.val (.int .i64 4), .val (.slice none 0 0), .val (.string ⟨#[]⟩), .sl 6 [[.val (.int .i64 1), .sl 2 [[.val (.int .u8 97), .val (.int .u8 122)]], .val (.string ⟨#[]⟩), .val (.slice none 0 0), .val (.int .i64 0), .val (.int .i64 0)]], .val (.int .i64 1), .val (.int .i64 (-1))]], .val (.int .i64 0), .val (.int .i64 0)], [.val (.int .i64 1), .sl 2 [[.val (.int .u8 95), .val (.int .u8 95)]], .val (.string ⟨#[]⟩), .val (.slice none 0 0), .val (.int .i64 0), .val (.int .i64 0)], [.val (.int .i64 5), .val (.slice none 0 0), .val (.string ⟨#[99, 111, 100, 101]⟩), .sl 6 [[.val (.int .i64 1), .sl 2 [[.val (.int .u8 48), .val (.int .u8 57)]], .val (.string ⟨#[]⟩), .val (.slice none 0 0), .val (.int .i64 0), .val (.int .i64 0)]], .val (.int .i64 0), .val (.int .i64 0)]], .val (.int .i64 0), .val (.int .i64 0)]
def in1 : List (List AV) := [[.val (.int .i64 12), .val (.int .i64 0), .val (.int .i64 0), .val (.slice none 0 0)], [.val (.int .i64 1), .val (.int .i64 0), .val (.int .i64 0), .sl 2 [[.val (.int .u8 97), .val (.int .u8 122)]]], [.val (.int .i64 10), .val (.int .i64 3), .val (.int .i64 7), .val (.slice none 0 0)], [.val (.int .i64 14), .val (.int .i64 0), .val (.int .i64 0), .val (.slice none 0 0)], [.val (.int .i64 1), .val (.int .i64 0), .val (.int .i64 0), .sl 2 [[.val (.int .u8 97), .val (.int .u8 122)]]], [.val (.int .i64 15), .val (.int .i64 0), .val (.int .i64 0), .val (.slice none 0 0)], [.val (.int .i64 11), .val (.int .i64 2), .val (.int .i64 0), .val (.slice none 0 0)], [.val (.int .i64 12), .val (.int .i64 1), .val (.int .i64 0), .val (.slice none 0 0)], [.val (.int .i64 1), .val (.int .i64 0), .val (.int .i64 0), .sl 2 [[.val (.int .u8 95), .val (.int .u8 95)]]], [.val (.int .i64 12), .val (.int .i64 2), .val (.int .i64 0), .val (.slice none 0 0)], [.val (.int .i64 1), .val (.int .i64 0), .val (.int .i64 0), .sl 2 [[.val (.int .u8 48), .val (.int .u8 57)]]], [.val (.int .i64 12), .val (.int .i64 3), .val (.int .i64 0), .val (.slice none 0 0)], [.val (.int .i64 13), .val (.int .i64 0), .val (.int .i64 0), .val (.slice none 0 0)]]
def cp1 : AV := .sl 1 [[.val (.string ⟨#[117, 115, 101, 114]⟩)], [.val (.string ⟨#[99, 111, 100, 101]⟩)]]
theorem parse55_1 : ACall Tryz.prog 55 [.val (.string ⟨#[40, 117, 115, 101, 114, 58, 91, 97, 45, 122, 93, 43, 41, 95, 40, 99, 111, 100, 101, 58, 92, 100, 41]⟩)] [] (.tup [nd1, .val (.int .i64 23), .val (.int .i64 0)]) [] := runK_res patK_ok (by decide +kernel)
theorem check78_1 : ACall Tryz.prog 78 [nd1] [] (.val (.int .i64 0)) [] := runK_res patK_ok (by decide +kernel)
theorem cost118_1 : ACall Tryz.prog 118 [nd1] [] (.val (.int .i64 14)) [] := runK_res patK_ok (by decide +kernel)
theorem program101_1 : PCall Tryz.prog 101 [nd1] (fun r => r = .sl 4 in1) := isSl_ok (runK_ok patK_ok) (by decide +kernel)
theorem captures121_1 : PCall Tryz.prog 121 [nd1] (fun r => r = cp1) := isSl_ok (runK_ok patK_ok) (by decide +kernel)
/-- The tree of source 2. -/
def nd2 : AV := .agg [.val (.int .i64 1), .sl 2 [[.val (.int .u8 120), .val (.int .u8 120)]], .val (.string ⟨#[]⟩), .val (.slice none 0 0), .val (.int .i64 0), .val (.int .i64 0)]
def in2 : List (List AV) := [[.val (.int .i64 1), .val (.int .i64 0), .val (.int .i64 0), .sl 2 [[.val (.int .u8 120), .val (.int .u8 120)]]], [.val (.int .i64 13), .val (.int .i64 0), .val (.int .i64 0), .val (.slice none 0 0)]]
def cp2 : AV := .val (.slice none 0 0)
theorem parse55_2 : ACall Tryz.prog 55 [.val (.string ⟨#[120]⟩)] [] (.tup [nd2, .val (.int .i64 1), .val (.int .i64 0)]) [] := runK_res patK_ok (by decide +kernel)
theorem check78_2 : ACall Tryz.prog 78 [nd2] [] (.val (.int .i64 0)) [] := runK_res patK_ok (by decide +kernel)
theorem cost118_2 : ACall Tryz.prog 118 [nd2] [] (.val (.int .i64 1)) [] := runK_res patK_ok (by decide +kernel)
theorem program101_2 : PCall Tryz.prog 101 [nd2] (fun r => r = .sl 4 in2) := isSl_ok (runK_ok patK_ok) (by decide +kernel)
theorem captures121_2 : PCall Tryz.prog 121 [nd2] (fun r => r = cp2) := isRes_call (runK_ok patK_ok) (by decide +kernel) rfl
/-- The tree of source 3. -/
def nd3 : AV := .agg [.val (.int .i64 5), .val (.slice none 0 0), .val (.string ⟨#[108, 101, 118, 101, 108]⟩), .sl 6 [[.val (.int .i64 3), .val (.slice none 0 0), .val (.string ⟨#[]⟩), .sl 6 [[.val (.int .i64 2), .val (.slice none 0 0), .val (.string ⟨#[]⟩), .sl 6 [[.val (.int .i64 1), .sl 2 [[.val (.int .u8 103), .val (.int .u8 103)]], .val (.string ⟨#[]⟩), .val (.slice none 0 0), .val (.int .i64 0), .val (.int .i64 0)], [.val (.int .i64 1), .sl 2 [[.val (.int .u8 101), .val (.int .u8 101)]], .val (.string ⟨#[]⟩), .val (.slice none 0 0), .val (.int .i64 0), .val (.int .i64 0)], [.val (.int .i64 1), .sl 2 [[.val (.int .u8 116), .val (.int .u8 116)]], .val (.string ⟨#[]⟩), .val (.slice none 0 0), .val (.int .i64 0), .val (.int .i64 0)]], .val (.int .i64 0), .val (.int .i64 0)], [.val (.int .i64 2), .val (.slice none 0 0), .val (.string ⟨#[]⟩), .sl 6 [[.val (.int .i64 1), .sl 2 [[.val (.int .u8 119), .val (.int .u8 119)]], .val (.string ⟨#[]⟩), .val (.slice none 0 0), .val (.int .i64 0), .val (.int .i64 0)], [.val (.int .i64 1), .sl 2 [[.val (.int .u8 97), .val (.int .u8 97)]], .val (.string ⟨#[]⟩), .val (.slice none 0 0), .val (.int .i64 0), .val (.int .i64 0)], [.val (.int .i64 1), .sl 2 [[.val (.int .u8 114), .val (.int .u8 114)]], .val (.string ⟨#[]⟩), .val (.slice none 0 0), .val (.int .i64 0), .val (.int .i64 0)], [.val (.int .i64 1), .sl 2 [[.val (.int .u8 110), .val (.int .u8 110)]], .val (.string ⟨#[]⟩), .val (.slice none 0 0), .val (.int .i64 0), .val (.int .i64 0)]], .val (.int .i64 0), .val (.int .i64 0)]], .val (.int .i64 0), .val (.int .i64 0)]], .val (.int .i64 0), .val (.int .i64 0)]
def in3 : List (List AV) := [[.val (.int .i64 12), .val (.int .i64 0), .val (.int .i64 0), .val (.slice none 0 0)], [.val (.int .i64 10), .val (.int .i64 2), .val (.int .i64 6), .val (.slice none 0 0)], [.val (.int .i64 1), .val (.int .i64 0), .val (.int .i64 0), .sl 2 [[.val (.int .u8 103), .val (.int .u8 103)]]], [.val (.int .i64 1), .val (.int .i64 0), .val (.int .i64 0), .sl 2 [[.val (.int .u8 101), .val (.int .u8 101)]]], [.val (.int .i64 1), .val (.int .i64 0), .val (.int .i64 0), .sl 2 [[.val (.int .u8 116), .val (.int .u8 116)]]], [.val (.int .i64 11), .val (.int .i64 10), .val (.int .i64 0), .val (.slice none 0 0)], [.val (.int .i64 1), .val (.int .i64 0), .val (.int .i64 0), .sl 2 [[.val (.int .u8 119), .val (.int .u8 119)]]], [.val (.int .i64 1), .val (.int .i64 0), .val (.int .i64 0), .sl 2 [[.val (.int .u8 97), .val (.int .u8 97)]]], [.val (.int .i64 1), .val (.int .i64 0), .val (.int .i64 0), .sl 2 [[.val (.int .u8 114), .val (.int .u8 114)]]], [.val (.int .i64 1), .val (.int .i64 0), .val (.int .i64 0), .sl 2 [[.val (.int .u8 110), .val (.int .u8 110)]]], [.val (.int .i64 12), .val (.int .i64 1), .val (.int .i64 0), .val (.slice none 0 0)], [.val (.int .i64 13), .val (.int .i64 0), .val (.int .i64 0), .val (.slice none 0 0)]]
def cp3 : AV := .sl 1 [[.val (.string ⟨#[108, 101, 118, 101, 108]⟩)]]
theorem parse55_3 : ACall Tryz.prog 55 [.val (.string ⟨#[40, 108, 101, 118, 101, 108, 58, 103, 101, 116, 124, 119, 97, 114, 110, 41]⟩)] [] (.tup [nd3, .val (.int .i64 16), .val (.int .i64 0)]) [] := runK_res patK_ok (by decide +kernel)
theorem check78_3 : ACall Tryz.prog 78 [nd3] [] (.val (.int .i64 0)) [] := runK_res patK_ok (by decide +kernel)
theorem cost118_3 : ACall Tryz.prog 118 [nd3] [] (.val (.int .i64 18)) [] := runK_res patK_ok (by decide +kernel)
theorem program101_3 : PCall Tryz.prog 101 [nd3] (fun r => r = .sl 4 in3) := isSl_ok (runK_ok patK_ok) (by decide +kernel)
theorem captures121_3 : PCall Tryz.prog 121 [nd3] (fun r => r = cp3) := isSl_ok (runK_ok patK_ok) (by decide +kernel)
end Go.Proofs.YtffchapiaampmaaGreatDoor
