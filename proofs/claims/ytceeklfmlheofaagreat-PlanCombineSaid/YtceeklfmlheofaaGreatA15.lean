/-
  Part 15 of the proof that logtidelaw41.PlanCombine returns true for every list of bytes and leaves its argument as it was; no condition.
-/
import Derived.Test.YtceeklfmlheofaaGreatA06
import Derived.Test.YtceeklfmlheofaaGreatProg
import Derived.KernelRfl
import Derived.IntWalk
set_option linter.unusedSimpArgs false
set_option linter.unusedVariables false
namespace Go.Proofs.YtceeklfmlheofaaGreat
open Go.Av
attribute [local irreducible] ACall
@[go_sem] theorem T2 : tabOf Tryz.prog 2 = some ⟨1, 8, (.int .i64), [.int .i64 0]⟩ := by kernel_rfl
@[go_sem] theorem D2 : descOf (tabOf Tryz.prog) 2 = some (.int .i64) := by kernel_rfl
@[go_sem] theorem T3 : tabOf Tryz.prog 3 = some ⟨1, 8, (.int .i64), [.int .i64 0]⟩ := by kernel_rfl
@[go_sem] theorem D3 : descOf (tabOf Tryz.prog) 3 = some (.int .i64) := by kernel_rfl
@[go_sem] theorem T4 : tabOf Tryz.prog 4 = some ⟨1, 1, .bool, [.bool false]⟩ := by kernel_rfl
@[go_sem] theorem D4 : descOf (tabOf Tryz.prog) 4 = some .bool := by kernel_rfl
@[go_sem] theorem T5 : tabOf Tryz.prog 5 = some ⟨1, 1, (.int .u8), [.int .u8 0]⟩ := by kernel_rfl
@[go_sem] theorem D5 : descOf (tabOf Tryz.prog) 5 = some (.int .u8) := by kernel_rfl
@[go_sem] theorem U5 : isU8 (tabOf Tryz.prog) 5 = true := by kernel_rfl
@[go_sem] theorem T6 : tabOf Tryz.prog 6 = some ⟨1, 1, (.int .u8), [.int .u8 0]⟩ := by kernel_rfl
@[go_sem] theorem D6 : descOf (tabOf Tryz.prog) 6 = some (.int .u8) := by kernel_rfl
@[go_sem] theorem U6 : isU8 (tabOf Tryz.prog) 6 = true := by kernel_rfl
@[go_sem] theorem T7 : tabOf Tryz.prog 7 = some ⟨4, 24, dsc Tryz.prog 7, [.int .i64 0, .int .i64 0, .bool false, .int .u8 0]⟩ := by kernel_rfl
@[go_sem] theorem A7 : aggD (dsc Tryz.prog 7) = true := by kernel_rfl
@[go_sem] theorem S7 : isStruct (dsc Tryz.prog 7) = true := by kernel_rfl
@[go_sem] theorem F7_0 : fieldOf (tabOf Tryz.prog) 7 0 = some (0, ⟨1, 8, (.int .i64), [.int .i64 0]⟩) := by kernel_rfl
@[go_sem] theorem F7_1 : fieldOf (tabOf Tryz.prog) 7 1 = some (1, ⟨1, 8, (.int .i64), [.int .i64 0]⟩) := by kernel_rfl
@[go_sem] theorem F7_2 : fieldOf (tabOf Tryz.prog) 7 2 = some (2, ⟨1, 1, .bool, [.bool false]⟩) := by kernel_rfl
@[go_sem] theorem F7_3 : fieldOf (tabOf Tryz.prog) 7 3 = some (3, ⟨1, 1, (.int .u8), [.int .u8 0]⟩) := by kernel_rfl
@[go_sem] theorem T8 : tabOf Tryz.prog 8 = some ⟨4, 24, dsc Tryz.prog 8, [.int .i64 0, .int .i64 0, .bool false, .int .u8 0]⟩ := by kernel_rfl
@[go_sem] theorem A8 : aggD (dsc Tryz.prog 8) = true := by kernel_rfl
@[go_sem] theorem S8 : isStruct (dsc Tryz.prog 8) = true := by kernel_rfl
@[go_sem] theorem F8_0 : fieldOf (tabOf Tryz.prog) 8 0 = some (0, ⟨1, 8, (.int .i64), [.int .i64 0]⟩) := by kernel_rfl
@[go_sem] theorem F8_1 : fieldOf (tabOf Tryz.prog) 8 1 = some (1, ⟨1, 8, (.int .i64), [.int .i64 0]⟩) := by kernel_rfl
@[go_sem] theorem F8_2 : fieldOf (tabOf Tryz.prog) 8 2 = some (2, ⟨1, 1, .bool, [.bool false]⟩) := by kernel_rfl
@[go_sem] theorem F8_3 : fieldOf (tabOf Tryz.prog) 8 3 = some (3, ⟨1, 1, (.int .u8), [.int .u8 0]⟩) := by kernel_rfl
@[go_sem] theorem T9 : tabOf Tryz.prog 9 = some ⟨1, 16, .string, [.string ⟨#[]⟩]⟩ := by kernel_rfl
@[go_sem] theorem D9 : descOf (tabOf Tryz.prog) 9 = some .string := by kernel_rfl
@[go_sem] theorem T10 : tabOf Tryz.prog 10 = some ⟨1, 16, .string, [.string ⟨#[]⟩]⟩ := by kernel_rfl
@[go_sem] theorem D10 : descOf (tabOf Tryz.prog) 10 = some .string := by kernel_rfl
@[go_sem] theorem T11 : tabOf Tryz.prog 11 = some ⟨1, 16, .string, [.string ⟨#[]⟩]⟩ := by kernel_rfl
@[go_sem] theorem D11 : descOf (tabOf Tryz.prog) 11 = some .string := by kernel_rfl
@[go_sem] theorem T12 : tabOf Tryz.prog 12 = some ⟨1, 8, (.int .u64), [.int .u64 0]⟩ := by kernel_rfl
@[go_sem] theorem D12 : descOf (tabOf Tryz.prog) 12 = some (.int .u64) := by kernel_rfl
@[go_sem] theorem T13 : tabOf Tryz.prog 13 = some ⟨2, 24, dsc Tryz.prog 13, [.string ⟨#[]⟩, .int .u64 0]⟩ := by kernel_rfl
@[go_sem] theorem A13 : aggD (dsc Tryz.prog 13) = true := by kernel_rfl
@[go_sem] theorem S13 : isStruct (dsc Tryz.prog 13) = true := by kernel_rfl
@[go_sem] theorem F13_0 : fieldOf (tabOf Tryz.prog) 13 0 = some (0, ⟨1, 16, .string, [.string ⟨#[]⟩]⟩) := by kernel_rfl
@[go_sem] theorem F13_1 : fieldOf (tabOf Tryz.prog) 13 1 = some (1, ⟨1, 8, (.int .u64), [.int .u64 0]⟩) := by kernel_rfl
@[go_sem] theorem T14 : tabOf Tryz.prog 14 = some ⟨2, 24, dsc Tryz.prog 14, [.string ⟨#[]⟩, .int .u64 0]⟩ := by kernel_rfl
@[go_sem] theorem A14 : aggD (dsc Tryz.prog 14) = true := by kernel_rfl
@[go_sem] theorem S14 : isStruct (dsc Tryz.prog 14) = true := by kernel_rfl
@[go_sem] theorem F14_0 : fieldOf (tabOf Tryz.prog) 14 0 = some (0, ⟨1, 16, .string, [.string ⟨#[]⟩]⟩) := by kernel_rfl
@[go_sem] theorem F14_1 : fieldOf (tabOf Tryz.prog) 14 1 = some (1, ⟨1, 8, (.int .u64), [.int .u64 0]⟩) := by kernel_rfl
@[go_sem] theorem T15 : tabOf Tryz.prog 15 = some ⟨1, 8, (.pointer 179), [.pointer none]⟩ := by kernel_rfl
@[go_sem] theorem D15 : descOf (tabOf Tryz.prog) 15 = some (.pointer 179) := by kernel_rfl
@[go_sem] theorem T16 : tabOf Tryz.prog 16 = some ⟨1, 8, (.pointer 182), [.pointer none]⟩ := by kernel_rfl
@[go_sem] theorem D16 : descOf (tabOf Tryz.prog) 16 = some (.pointer 182) := by kernel_rfl
@[go_sem] theorem T17 : tabOf Tryz.prog 17 = some ⟨1, 8, (.pointer 190), [.pointer none]⟩ := by kernel_rfl
@[go_sem] theorem D17 : descOf (tabOf Tryz.prog) 17 = some (.pointer 190) := by kernel_rfl
@[go_sem] theorem T18 : tabOf Tryz.prog 18 = some ⟨1, 8, dsc Tryz.prog 18, [.pointer none]⟩ := by kernel_rfl
@[go_sem] theorem A18 : aggD (dsc Tryz.prog 18) = true := by kernel_rfl
@[go_sem] theorem S18 : isStruct (dsc Tryz.prog 18) = true := by kernel_rfl
@[go_sem] theorem F18_0 : fieldOf (tabOf Tryz.prog) 18 0 = some (0, ⟨1, 8, (.pointer 190), [.pointer none]⟩) := by kernel_rfl
@[go_sem] theorem T19 : tabOf Tryz.prog 19 = some ⟨1, 8, dsc Tryz.prog 19, [.pointer none]⟩ := by kernel_rfl
@[go_sem] theorem A19 : aggD (dsc Tryz.prog 19) = true := by kernel_rfl
@[go_sem] theorem S19 : isStruct (dsc Tryz.prog 19) = true := by kernel_rfl
@[go_sem] theorem F19_0 : fieldOf (tabOf Tryz.prog) 19 0 = some (0, ⟨1, 8, (.pointer 190), [.pointer none]⟩) := by kernel_rfl
@[go_sem] theorem T21 : tabOf Tryz.prog 21 = some ⟨1, 4, (.int .i32), [.int .i32 0]⟩ := by kernel_rfl
@[go_sem] theorem D21 : descOf (tabOf Tryz.prog) 21 = some (.int .i32) := by kernel_rfl
@[go_sem] theorem T22 : tabOf Tryz.prog 22 = some ⟨1, 24, (.slice 5), [.slice none 0 0]⟩ := by kernel_rfl
@[go_sem] theorem D22 : descOf (tabOf Tryz.prog) 22 = some (.slice 5) := by kernel_rfl
@[go_sem] theorem E22 : Av.elemOf (tabOf Tryz.prog) 22 = some (5, ⟨1, 1, (.int .u8), [.int .u8 0]⟩) := by kernel_rfl
@[go_sem] theorem T24 : tabOf Tryz.prog 24 = some ⟨1, 24, (.slice 26), [.slice none 0 0]⟩ := by kernel_rfl
@[go_sem] theorem D24 : descOf (tabOf Tryz.prog) 24 = some (.slice 26) := by kernel_rfl
@[go_sem] theorem E24 : Av.elemOf (tabOf Tryz.prog) 24 = some (26, ⟨5, 72, dsc Tryz.prog 26, [.int .i64 0, .string ⟨#[]⟩, .string ⟨#[]⟩, .int .i64 0, .slice none 0 0]⟩) := by kernel_rfl
@[go_sem] theorem T25 : tabOf Tryz.prog 25 = some ⟨5, 72, dsc Tryz.prog 25, [.int .i64 0, .string ⟨#[]⟩, .string ⟨#[]⟩, .int .i64 0, .slice none 0 0]⟩ := by kernel_rfl
@[go_sem] theorem A25 : aggD (dsc Tryz.prog 25) = true := by kernel_rfl
@[go_sem] theorem S25 : isStruct (dsc Tryz.prog 25) = true := by kernel_rfl
@[go_sem] theorem F25_0 : fieldOf (tabOf Tryz.prog) 25 0 = some (0, ⟨1, 8, (.int .i64), [.int .i64 0]⟩) := by kernel_rfl
@[go_sem] theorem F25_1 : fieldOf (tabOf Tryz.prog) 25 1 = some (1, ⟨1, 16, .string, [.string ⟨#[]⟩]⟩) := by kernel_rfl
@[go_sem] theorem F25_2 : fieldOf (tabOf Tryz.prog) 25 2 = some (2, ⟨1, 16, .string, [.string ⟨#[]⟩]⟩) := by kernel_rfl
@[go_sem] theorem F25_3 : fieldOf (tabOf Tryz.prog) 25 3 = some (3, ⟨1, 8, (.int .i64), [.int .i64 0]⟩) := by kernel_rfl
@[go_sem] theorem F25_4 : fieldOf (tabOf Tryz.prog) 25 4 = some (4, ⟨1, 24, (.slice 26), [.slice none 0 0]⟩) := by kernel_rfl
@[go_sem] theorem T26 : tabOf Tryz.prog 26 = some ⟨5, 72, dsc Tryz.prog 26, [.int .i64 0, .string ⟨#[]⟩, .string ⟨#[]⟩, .int .i64 0, .slice none 0 0]⟩ := by kernel_rfl
@[go_sem] theorem A26 : aggD (dsc Tryz.prog 26) = true := by kernel_rfl
@[go_sem] theorem S26 : isStruct (dsc Tryz.prog 26) = true := by kernel_rfl
@[go_sem] theorem F26_0 : fieldOf (tabOf Tryz.prog) 26 0 = some (0, ⟨1, 8, (.int .i64), [.int .i64 0]⟩) := by kernel_rfl
@[go_sem] theorem F26_1 : fieldOf (tabOf Tryz.prog) 26 1 = some (1, ⟨1, 16, .string, [.string ⟨#[]⟩]⟩) := by kernel_rfl
@[go_sem] theorem F26_2 : fieldOf (tabOf Tryz.prog) 26 2 = some (2, ⟨1, 16, .string, [.string ⟨#[]⟩]⟩) := by kernel_rfl
@[go_sem] theorem F26_3 : fieldOf (tabOf Tryz.prog) 26 3 = some (3, ⟨1, 8, (.int .i64), [.int .i64 0]⟩) := by kernel_rfl
@[go_sem] theorem F26_4 : fieldOf (tabOf Tryz.prog) 26 4 = some (4, ⟨1, 24, (.slice 26), [.slice none 0 0]⟩) := by kernel_rfl
@[go_sem] theorem T27 : tabOf Tryz.prog 27 = some ⟨1, 24, (.slice 73), [.slice none 0 0]⟩ := by kernel_rfl
@[go_sem] theorem D27 : descOf (tabOf Tryz.prog) 27 = some (.slice 73) := by kernel_rfl
@[go_sem] theorem E27 : Av.elemOf (tabOf Tryz.prog) 27 = some (73, ⟨7, 96, dsc Tryz.prog 73, [.bool false, .string ⟨#[]⟩, .int .i64 0, .string ⟨#[]⟩, .string ⟨#[]⟩, .int .i64 0, .slice none 0 0]⟩) := by kernel_rfl
@[go_sem] theorem T28 : tabOf Tryz.prog 28 = some ⟨1, 24, (.slice 9), [.slice none 0 0]⟩ := by kernel_rfl
@[go_sem] theorem D28 : descOf (tabOf Tryz.prog) 28 = some (.slice 9) := by kernel_rfl
@[go_sem] theorem E28 : Av.elemOf (tabOf Tryz.prog) 28 = some (9, ⟨1, 16, .string, [.string ⟨#[]⟩]⟩) := by kernel_rfl
@[go_sem] theorem T29 : tabOf Tryz.prog 29 = some ⟨1, 24, (.slice 76), [.slice none 0 0]⟩ := by kernel_rfl
@[go_sem] theorem D29 : descOf (tabOf Tryz.prog) 29 = some (.slice 76) := by kernel_rfl
@[go_sem] theorem E29 : Av.elemOf (tabOf Tryz.prog) 29 = some (76, ⟨2, 24, dsc Tryz.prog 76, [.int .i64 0, .string ⟨#[]⟩]⟩) := by kernel_rfl
@[go_sem] theorem T30 : tabOf Tryz.prog 30 = some ⟨19, 272, dsc Tryz.prog 30, [.int .i64 0, .string ⟨#[]⟩, .string ⟨#[]⟩, .int .i64 0, .slice none 0 0, .slice none 0 0, .int .i64 0, .int .i64 0, .bool false, .slice none 0 0, .slice none 0 0, .int .i64 0, .int .i64 0, .string ⟨#[]⟩, .string ⟨#[]⟩, .int .i64 0, .slice none 0 0, .string ⟨#[]⟩, .int .i64 0]⟩ := by kernel_rfl
@[go_sem] theorem A30 : aggD (dsc Tryz.prog 30) = true := by kernel_rfl
@[go_sem] theorem S30 : isStruct (dsc Tryz.prog 30) = true := by kernel_rfl
@[go_sem] theorem F30_0 : fieldOf (tabOf Tryz.prog) 30 0 = some (0, ⟨5, 72, dsc Tryz.prog 26, [.int .i64 0, .string ⟨#[]⟩, .string ⟨#[]⟩, .int .i64 0, .slice none 0 0]⟩) := by kernel_rfl
@[go_sem] theorem F30_1 : fieldOf (tabOf Tryz.prog) 30 1 = some (5, ⟨1, 24, (.slice 73), [.slice none 0 0]⟩) := by kernel_rfl
@[go_sem] theorem F30_2 : fieldOf (tabOf Tryz.prog) 30 2 = some (6, ⟨1, 8, (.int .i64), [.int .i64 0]⟩) := by kernel_rfl
@[go_sem] theorem F30_3 : fieldOf (tabOf Tryz.prog) 30 3 = some (7, ⟨1, 8, (.int .i64), [.int .i64 0]⟩) := by kernel_rfl
@[go_sem] theorem F30_4 : fieldOf (tabOf Tryz.prog) 30 4 = some (8, ⟨1, 1, .bool, [.bool false]⟩) := by kernel_rfl
@[go_sem] theorem F30_5 : fieldOf (tabOf Tryz.prog) 30 5 = some (9, ⟨1, 24, (.slice 9), [.slice none 0 0]⟩) := by kernel_rfl
@[go_sem] theorem F30_6 : fieldOf (tabOf Tryz.prog) 30 6 = some (10, ⟨1, 24, (.slice 76), [.slice none 0 0]⟩) := by kernel_rfl
@[go_sem] theorem F30_7 : fieldOf (tabOf Tryz.prog) 30 7 = some (11, ⟨1, 8, (.int .i64), [.int .i64 0]⟩) := by kernel_rfl
@[go_sem] theorem F30_8 : fieldOf (tabOf Tryz.prog) 30 8 = some (12, ⟨5, 72, dsc Tryz.prog 26, [.int .i64 0, .string ⟨#[]⟩, .string ⟨#[]⟩, .int .i64 0, .slice none 0 0]⟩) := by kernel_rfl
@[go_sem] theorem F30_9 : fieldOf (tabOf Tryz.prog) 30 9 = some (17, ⟨1, 16, .string, [.string ⟨#[]⟩]⟩) := by kernel_rfl
@[go_sem] theorem F30_10 : fieldOf (tabOf Tryz.prog) 30 10 = some (18, ⟨1, 8, (.int .i64), [.int .i64 0]⟩) := by kernel_rfl
@[go_sem] theorem T31 : tabOf Tryz.prog 31 = some ⟨19, 272, dsc Tryz.prog 31, [.int .i64 0, .string ⟨#[]⟩, .string ⟨#[]⟩, .int .i64 0, .slice none 0 0, .slice none 0 0, .int .i64 0, .int .i64 0, .bool false, .slice none 0 0, .slice none 0 0, .int .i64 0, .int .i64 0, .string ⟨#[]⟩, .string ⟨#[]⟩, .int .i64 0, .slice none 0 0, .string ⟨#[]⟩, .int .i64 0]⟩ := by kernel_rfl
@[go_sem] theorem A31 : aggD (dsc Tryz.prog 31) = true := by kernel_rfl
@[go_sem] theorem S31 : isStruct (dsc Tryz.prog 31) = true := by kernel_rfl
@[go_sem] theorem F31_0 : fieldOf (tabOf Tryz.prog) 31 0 = some (0, ⟨5, 72, dsc Tryz.prog 26, [.int .i64 0, .string ⟨#[]⟩, .string ⟨#[]⟩, .int .i64 0, .slice none 0 0]⟩) := by kernel_rfl
@[go_sem] theorem F31_1 : fieldOf (tabOf Tryz.prog) 31 1 = some (5, ⟨1, 24, (.slice 73), [.slice none 0 0]⟩) := by kernel_rfl
@[go_sem] theorem F31_2 : fieldOf (tabOf Tryz.prog) 31 2 = some (6, ⟨1, 8, (.int .i64), [.int .i64 0]⟩) := by kernel_rfl
@[go_sem] theorem F31_3 : fieldOf (tabOf Tryz.prog) 31 3 = some (7, ⟨1, 8, (.int .i64), [.int .i64 0]⟩) := by kernel_rfl
@[go_sem] theorem F31_4 : fieldOf (tabOf Tryz.prog) 31 4 = some (8, ⟨1, 1, .bool, [.bool false]⟩) := by kernel_rfl
@[go_sem] theorem F31_5 : fieldOf (tabOf Tryz.prog) 31 5 = some (9, ⟨1, 24, (.slice 9), [.slice none 0 0]⟩) := by kernel_rfl
@[go_sem] theorem F31_6 : fieldOf (tabOf Tryz.prog) 31 6 = some (10, ⟨1, 24, (.slice 76), [.slice none 0 0]⟩) := by kernel_rfl
@[go_sem] theorem F31_7 : fieldOf (tabOf Tryz.prog) 31 7 = some (11, ⟨1, 8, (.int .i64), [.int .i64 0]⟩) := by kernel_rfl
@[go_sem] theorem F31_8 : fieldOf (tabOf Tryz.prog) 31 8 = some (12, ⟨5, 72, dsc Tryz.prog 26, [.int .i64 0, .string ⟨#[]⟩, .string ⟨#[]⟩, .int .i64 0, .slice none 0 0]⟩) := by kernel_rfl
@[go_sem] theorem F31_9 : fieldOf (tabOf Tryz.prog) 31 9 = some (17, ⟨1, 16, .string, [.string ⟨#[]⟩]⟩) := by kernel_rfl
@[go_sem] theorem F31_10 : fieldOf (tabOf Tryz.prog) 31 10 = some (18, ⟨1, 8, (.int .i64), [.int .i64 0]⟩) := by kernel_rfl
@[go_sem] theorem T32 : tabOf Tryz.prog 32 = some ⟨1, 24, (.slice 48), [.slice none 0 0]⟩ := by kernel_rfl
@[go_sem] theorem D32 : descOf (tabOf Tryz.prog) 32 = some (.slice 48) := by kernel_rfl
@[go_sem] theorem E32 : Av.elemOf (tabOf Tryz.prog) 32 = some (48, ⟨10, 128, dsc Tryz.prog 48, [.int .i64 0, .int .i64 0, .int .i64 0, .int .i64 0, .slice none 0 0, .int .i64 0, .int .i64 0, .string ⟨#[]⟩, .string ⟨#[]⟩, .slice none 0 0]⟩) := by kernel_rfl
@[go_sem] theorem T33 : tabOf Tryz.prog 33 = some ⟨1, 24, (.slice 22), [.slice none 0 0]⟩ := by kernel_rfl
@[go_sem] theorem D33 : descOf (tabOf Tryz.prog) 33 = some (.slice 22) := by kernel_rfl
@[go_sem] theorem E33 : Av.elemOf (tabOf Tryz.prog) 33 = some (22, ⟨1, 24, (.slice 5), [.slice none 0 0]⟩) := by kernel_rfl
@[go_sem] theorem T34 : tabOf Tryz.prog 34 = some ⟨1, 8, (.pointer 70), [.pointer none]⟩ := by kernel_rfl
@[go_sem] theorem D34 : descOf (tabOf Tryz.prog) 34 = some (.pointer 70) := by kernel_rfl
@[go_sem] theorem T37 : tabOf Tryz.prog 37 = some ⟨1, 24, (.slice 32), [.slice none 0 0]⟩ := by kernel_rfl
@[go_sem] theorem D37 : descOf (tabOf Tryz.prog) 37 = some (.slice 32) := by kernel_rfl
@[go_sem] theorem E37 : Av.elemOf (tabOf Tryz.prog) 37 = some (32, ⟨1, 24, (.slice 48), [.slice none 0 0]⟩) := by kernel_rfl
@[go_sem] theorem T38 : tabOf Tryz.prog 38 = some ⟨1, 8, (.int .i64), [.int .i64 0]⟩ := by kernel_rfl
@[go_sem] theorem D38 : descOf (tabOf Tryz.prog) 38 = some (.int .i64) := by kernel_rfl
@[go_sem] theorem T45 : tabOf Tryz.prog 45 = some ⟨1, 24, (.slice 129), [.slice none 0 0]⟩ := by kernel_rfl
@[go_sem] theorem D45 : descOf (tabOf Tryz.prog) 45 = some (.slice 129) := by kernel_rfl
@[go_sem] theorem E45 : Av.elemOf (tabOf Tryz.prog) 45 = some (129, ⟨3, 32, dsc Tryz.prog 129, [.int .i64 0, .int .i64 0, .string ⟨#[]⟩]⟩) := by kernel_rfl
@[go_sem] theorem T46 : tabOf Tryz.prog 46 = some ⟨1, 24, (.slice 131), [.slice none 0 0]⟩ := by kernel_rfl
@[go_sem] theorem D46 : descOf (tabOf Tryz.prog) 46 = some (.slice 131) := by kernel_rfl
@[go_sem] theorem E46 : Av.elemOf (tabOf Tryz.prog) 46 = some (131, ⟨2, 32, dsc Tryz.prog 131, [.string ⟨#[]⟩, .string ⟨#[]⟩]⟩) := by kernel_rfl
@[go_sem] theorem T47 : tabOf Tryz.prog 47 = some ⟨10, 128, dsc Tryz.prog 47, [.int .i64 0, .int .i64 0, .int .i64 0, .int .i64 0, .slice none 0 0, .int .i64 0, .int .i64 0, .string ⟨#[]⟩, .string ⟨#[]⟩, .slice none 0 0]⟩ := by kernel_rfl
@[go_sem] theorem A47 : aggD (dsc Tryz.prog 47) = true := by kernel_rfl
@[go_sem] theorem S47 : isStruct (dsc Tryz.prog 47) = true := by kernel_rfl
@[go_sem] theorem F47_0 : fieldOf (tabOf Tryz.prog) 47 0 = some (0, ⟨1, 8, (.int .i64), [.int .i64 0]⟩) := by kernel_rfl
@[go_sem] theorem F47_1 : fieldOf (tabOf Tryz.prog) 47 1 = some (1, ⟨1, 8, (.int .i64), [.int .i64 0]⟩) := by kernel_rfl
@[go_sem] theorem F47_2 : fieldOf (tabOf Tryz.prog) 47 2 = some (2, ⟨1, 8, (.int .i64), [.int .i64 0]⟩) := by kernel_rfl
@[go_sem] theorem F47_3 : fieldOf (tabOf Tryz.prog) 47 3 = some (3, ⟨1, 8, (.int .i64), [.int .i64 0]⟩) := by kernel_rfl
@[go_sem] theorem F47_4 : fieldOf (tabOf Tryz.prog) 47 4 = some (4, ⟨1, 24, (.slice 129), [.slice none 0 0]⟩) := by kernel_rfl
@[go_sem] theorem F47_5 : fieldOf (tabOf Tryz.prog) 47 5 = some (5, ⟨1, 8, (.int .i64), [.int .i64 0]⟩) := by kernel_rfl
@[go_sem] theorem F47_6 : fieldOf (tabOf Tryz.prog) 47 6 = some (6, ⟨1, 8, (.int .i64), [.int .i64 0]⟩) := by kernel_rfl
@[go_sem] theorem F47_7 : fieldOf (tabOf Tryz.prog) 47 7 = some (7, ⟨1, 16, .string, [.string ⟨#[]⟩]⟩) := by kernel_rfl
@[go_sem] theorem F47_8 : fieldOf (tabOf Tryz.prog) 47 8 = some (8, ⟨1, 16, .string, [.string ⟨#[]⟩]⟩) := by kernel_rfl
@[go_sem] theorem F47_9 : fieldOf (tabOf Tryz.prog) 47 9 = some (9, ⟨1, 24, (.slice 131), [.slice none 0 0]⟩) := by kernel_rfl
@[go_sem] theorem T48 : tabOf Tryz.prog 48 = some ⟨10, 128, dsc Tryz.prog 48, [.int .i64 0, .int .i64 0, .int .i64 0, .int .i64 0, .slice none 0 0, .int .i64 0, .int .i64 0, .string ⟨#[]⟩, .string ⟨#[]⟩, .slice none 0 0]⟩ := by kernel_rfl
@[go_sem] theorem A48 : aggD (dsc Tryz.prog 48) = true := by kernel_rfl
@[go_sem] theorem S48 : isStruct (dsc Tryz.prog 48) = true := by kernel_rfl
@[go_sem] theorem F48_0 : fieldOf (tabOf Tryz.prog) 48 0 = some (0, ⟨1, 8, (.int .i64), [.int .i64 0]⟩) := by kernel_rfl
@[go_sem] theorem F48_1 : fieldOf (tabOf Tryz.prog) 48 1 = some (1, ⟨1, 8, (.int .i64), [.int .i64 0]⟩) := by kernel_rfl
@[go_sem] theorem F48_2 : fieldOf (tabOf Tryz.prog) 48 2 = some (2, ⟨1, 8, (.int .i64), [.int .i64 0]⟩) := by kernel_rfl
@[go_sem] theorem F48_3 : fieldOf (tabOf Tryz.prog) 48 3 = some (3, ⟨1, 8, (.int .i64), [.int .i64 0]⟩) := by kernel_rfl
@[go_sem] theorem F48_4 : fieldOf (tabOf Tryz.prog) 48 4 = some (4, ⟨1, 24, (.slice 129), [.slice none 0 0]⟩) := by kernel_rfl
@[go_sem] theorem F48_5 : fieldOf (tabOf Tryz.prog) 48 5 = some (5, ⟨1, 8, (.int .i64), [.int .i64 0]⟩) := by kernel_rfl
@[go_sem] theorem F48_6 : fieldOf (tabOf Tryz.prog) 48 6 = some (6, ⟨1, 8, (.int .i64), [.int .i64 0]⟩) := by kernel_rfl
@[go_sem] theorem F48_7 : fieldOf (tabOf Tryz.prog) 48 7 = some (7, ⟨1, 16, .string, [.string ⟨#[]⟩]⟩) := by kernel_rfl
@[go_sem] theorem F48_8 : fieldOf (tabOf Tryz.prog) 48 8 = some (8, ⟨1, 16, .string, [.string ⟨#[]⟩]⟩) := by kernel_rfl
@[go_sem] theorem F48_9 : fieldOf (tabOf Tryz.prog) 48 9 = some (9, ⟨1, 24, (.slice 131), [.slice none 0 0]⟩) := by kernel_rfl
@[go_sem] theorem T55 : tabOf Tryz.prog 55 = some ⟨1, 24, (.slice 3), [.slice none 0 0]⟩ := by kernel_rfl
@[go_sem] theorem D55 : descOf (tabOf Tryz.prog) 55 = some (.slice 3) := by kernel_rfl
@[go_sem] theorem E55 : Av.elemOf (tabOf Tryz.prog) 55 = some (3, ⟨1, 8, (.int .i64), [.int .i64 0]⟩) := by kernel_rfl
@[go_sem] theorem T58 : tabOf Tryz.prog 58 = some ⟨3, 24, dsc Tryz.prog 58, [.int .i64 0, .int .i64 0, .int .i64 0]⟩ := by kernel_rfl
@[go_sem] theorem A58 : aggD (dsc Tryz.prog 58) = true := by kernel_rfl
@[go_sem] theorem S58 : isStruct (dsc Tryz.prog 58) = true := by kernel_rfl
@[go_sem] theorem F58_0 : fieldOf (tabOf Tryz.prog) 58 0 = some (0, ⟨1, 8, (.int .i64), [.int .i64 0]⟩) := by kernel_rfl
@[go_sem] theorem F58_1 : fieldOf (tabOf Tryz.prog) 58 1 = some (1, ⟨1, 8, (.int .i64), [.int .i64 0]⟩) := by kernel_rfl
@[go_sem] theorem F58_2 : fieldOf (tabOf Tryz.prog) 58 2 = some (2, ⟨1, 8, (.int .i64), [.int .i64 0]⟩) := by kernel_rfl
@[go_sem] theorem T59 : tabOf Tryz.prog 59 = some ⟨3, 24, dsc Tryz.prog 59, [.int .i64 0, .int .i64 0, .int .i64 0]⟩ := by kernel_rfl
@[go_sem] theorem A59 : aggD (dsc Tryz.prog 59) = true := by kernel_rfl
@[go_sem] theorem S59 : isStruct (dsc Tryz.prog 59) = true := by kernel_rfl
@[go_sem] theorem F59_0 : fieldOf (tabOf Tryz.prog) 59 0 = some (0, ⟨1, 8, (.int .i64), [.int .i64 0]⟩) := by kernel_rfl
@[go_sem] theorem F59_1 : fieldOf (tabOf Tryz.prog) 59 1 = some (1, ⟨1, 8, (.int .i64), [.int .i64 0]⟩) := by kernel_rfl
@[go_sem] theorem F59_2 : fieldOf (tabOf Tryz.prog) 59 2 = some (2, ⟨1, 8, (.int .i64), [.int .i64 0]⟩) := by kernel_rfl
@[go_sem] theorem T69 : tabOf Tryz.prog 69 = some ⟨2, 32, dsc Tryz.prog 69, [.slice none 0 0, .int .i64 0]⟩ := by kernel_rfl
@[go_sem] theorem A69 : aggD (dsc Tryz.prog 69) = true := by kernel_rfl
@[go_sem] theorem S69 : isStruct (dsc Tryz.prog 69) = true := by kernel_rfl
@[go_sem] theorem F69_0 : fieldOf (tabOf Tryz.prog) 69 0 = some (0, ⟨1, 24, (.slice 5), [.slice none 0 0]⟩) := by kernel_rfl
@[go_sem] theorem F69_1 : fieldOf (tabOf Tryz.prog) 69 1 = some (1, ⟨1, 8, (.int .i64), [.int .i64 0]⟩) := by kernel_rfl
@[go_sem] theorem T70 : tabOf Tryz.prog 70 = some ⟨2, 32, dsc Tryz.prog 70, [.slice none 0 0, .int .i64 0]⟩ := by kernel_rfl
@[go_sem] theorem A70 : aggD (dsc Tryz.prog 70) = true := by kernel_rfl
@[go_sem] theorem S70 : isStruct (dsc Tryz.prog 70) = true := by kernel_rfl
@[go_sem] theorem F70_0 : fieldOf (tabOf Tryz.prog) 70 0 = some (0, ⟨1, 24, (.slice 5), [.slice none 0 0]⟩) := by kernel_rfl
@[go_sem] theorem F70_1 : fieldOf (tabOf Tryz.prog) 70 1 = some (1, ⟨1, 8, (.int .i64), [.int .i64 0]⟩) := by kernel_rfl
@[go_sem] theorem T72 : tabOf Tryz.prog 72 = some ⟨7, 96, dsc Tryz.prog 72, [.bool false, .string ⟨#[]⟩, .int .i64 0, .string ⟨#[]⟩, .string ⟨#[]⟩, .int .i64 0, .slice none 0 0]⟩ := by kernel_rfl
@[go_sem] theorem A72 : aggD (dsc Tryz.prog 72) = true := by kernel_rfl
@[go_sem] theorem S72 : isStruct (dsc Tryz.prog 72) = true := by kernel_rfl
@[go_sem] theorem F72_0 : fieldOf (tabOf Tryz.prog) 72 0 = some (0, ⟨1, 1, .bool, [.bool false]⟩) := by kernel_rfl
@[go_sem] theorem F72_1 : fieldOf (tabOf Tryz.prog) 72 1 = some (1, ⟨1, 16, .string, [.string ⟨#[]⟩]⟩) := by kernel_rfl
@[go_sem] theorem F72_2 : fieldOf (tabOf Tryz.prog) 72 2 = some (2, ⟨5, 72, dsc Tryz.prog 26, [.int .i64 0, .string ⟨#[]⟩, .string ⟨#[]⟩, .int .i64 0, .slice none 0 0]⟩) := by kernel_rfl
@[go_sem] theorem T73 : tabOf Tryz.prog 73 = some ⟨7, 96, dsc Tryz.prog 73, [.bool false, .string ⟨#[]⟩, .int .i64 0, .string ⟨#[]⟩, .string ⟨#[]⟩, .int .i64 0, .slice none 0 0]⟩ := by kernel_rfl
@[go_sem] theorem A73 : aggD (dsc Tryz.prog 73) = true := by kernel_rfl
@[go_sem] theorem S73 : isStruct (dsc Tryz.prog 73) = true := by kernel_rfl
@[go_sem] theorem F73_0 : fieldOf (tabOf Tryz.prog) 73 0 = some (0, ⟨1, 1, .bool, [.bool false]⟩) := by kernel_rfl
@[go_sem] theorem F73_1 : fieldOf (tabOf Tryz.prog) 73 1 = some (1, ⟨1, 16, .string, [.string ⟨#[]⟩]⟩) := by kernel_rfl
@[go_sem] theorem F73_2 : fieldOf (tabOf Tryz.prog) 73 2 = some (2, ⟨5, 72, dsc Tryz.prog 26, [.int .i64 0, .string ⟨#[]⟩, .string ⟨#[]⟩, .int .i64 0, .slice none 0 0]⟩) := by kernel_rfl
@[go_sem] theorem T75 : tabOf Tryz.prog 75 = some ⟨2, 24, dsc Tryz.prog 75, [.int .i64 0, .string ⟨#[]⟩]⟩ := by kernel_rfl
@[go_sem] theorem A75 : aggD (dsc Tryz.prog 75) = true := by kernel_rfl
@[go_sem] theorem S75 : isStruct (dsc Tryz.prog 75) = true := by kernel_rfl
@[go_sem] theorem F75_0 : fieldOf (tabOf Tryz.prog) 75 0 = some (0, ⟨1, 8, (.int .i64), [.int .i64 0]⟩) := by kernel_rfl
@[go_sem] theorem F75_1 : fieldOf (tabOf Tryz.prog) 75 1 = some (1, ⟨1, 16, .string, [.string ⟨#[]⟩]⟩) := by kernel_rfl
@[go_sem] theorem T76 : tabOf Tryz.prog 76 = some ⟨2, 24, dsc Tryz.prog 76, [.int .i64 0, .string ⟨#[]⟩]⟩ := by kernel_rfl
@[go_sem] theorem A76 : aggD (dsc Tryz.prog 76) = true := by kernel_rfl
@[go_sem] theorem S76 : isStruct (dsc Tryz.prog 76) = true := by kernel_rfl
@[go_sem] theorem F76_0 : fieldOf (tabOf Tryz.prog) 76 0 = some (0, ⟨1, 8, (.int .i64), [.int .i64 0]⟩) := by kernel_rfl
@[go_sem] theorem F76_1 : fieldOf (tabOf Tryz.prog) 76 1 = some (1, ⟨1, 16, .string, [.string ⟨#[]⟩]⟩) := by kernel_rfl
@[go_sem] theorem T77 : tabOf Tryz.prog 77 = some ⟨1, 24, (.slice 79), [.slice none 0 0]⟩ := by kernel_rfl
@[go_sem] theorem D77 : descOf (tabOf Tryz.prog) 77 = some (.slice 79) := by kernel_rfl
@[go_sem] theorem E77 : Av.elemOf (tabOf Tryz.prog) 77 = some (79, ⟨1, 24, (.slice 81), [.slice none 0 0]⟩) := by kernel_rfl
@[go_sem] theorem T79 : tabOf Tryz.prog 79 = some ⟨1, 24, (.slice 81), [.slice none 0 0]⟩ := by kernel_rfl
@[go_sem] theorem D79 : descOf (tabOf Tryz.prog) 79 = some (.slice 81) := by kernel_rfl
@[go_sem] theorem E79 : Av.elemOf (tabOf Tryz.prog) 79 = some (81, ⟨11, 144, dsc Tryz.prog 81, [.string ⟨#[]⟩, .int .i64 0, .int .i64 0, .int .i64 0, .int .i64 0, .slice none 0 0, .int .i64 0, .int .i64 0, .string ⟨#[]⟩, .string ⟨#[]⟩, .slice none 0 0]⟩) := by kernel_rfl
@[go_sem] theorem T80 : tabOf Tryz.prog 80 = some ⟨11, 144, dsc Tryz.prog 80, [.string ⟨#[]⟩, .int .i64 0, .int .i64 0, .int .i64 0, .int .i64 0, .slice none 0 0, .int .i64 0, .int .i64 0, .string ⟨#[]⟩, .string ⟨#[]⟩, .slice none 0 0]⟩ := by kernel_rfl
@[go_sem] theorem A80 : aggD (dsc Tryz.prog 80) = true := by kernel_rfl
@[go_sem] theorem S80 : isStruct (dsc Tryz.prog 80) = true := by kernel_rfl
@[go_sem] theorem F80_0 : fieldOf (tabOf Tryz.prog) 80 0 = some (0, ⟨1, 16, .string, [.string ⟨#[]⟩]⟩) := by kernel_rfl
@[go_sem] theorem F80_1 : fieldOf (tabOf Tryz.prog) 80 1 = some (1, ⟨10, 128, dsc Tryz.prog 48, [.int .i64 0, .int .i64 0, .int .i64 0, .int .i64 0, .slice none 0 0, .int .i64 0, .int .i64 0, .string ⟨#[]⟩, .string ⟨#[]⟩, .slice none 0 0]⟩) := by kernel_rfl
@[go_sem] theorem T81 : tabOf Tryz.prog 81 = some ⟨11, 144, dsc Tryz.prog 81, [.string ⟨#[]⟩, .int .i64 0, .int .i64 0, .int .i64 0, .int .i64 0, .slice none 0 0, .int .i64 0, .int .i64 0, .string ⟨#[]⟩, .string ⟨#[]⟩, .slice none 0 0]⟩ := by kernel_rfl
@[go_sem] theorem A81 : aggD (dsc Tryz.prog 81) = true := by kernel_rfl
@[go_sem] theorem S81 : isStruct (dsc Tryz.prog 81) = true := by kernel_rfl
@[go_sem] theorem F81_0 : fieldOf (tabOf Tryz.prog) 81 0 = some (0, ⟨1, 16, .string, [.string ⟨#[]⟩]⟩) := by kernel_rfl
@[go_sem] theorem F81_1 : fieldOf (tabOf Tryz.prog) 81 1 = some (1, ⟨10, 128, dsc Tryz.prog 48, [.int .i64 0, .int .i64 0, .int .i64 0, .int .i64 0, .slice none 0 0, .int .i64 0, .int .i64 0, .string ⟨#[]⟩, .string ⟨#[]⟩, .slice none 0 0]⟩) := by kernel_rfl
@[go_sem] theorem T85 : tabOf Tryz.prog 85 = some ⟨1, 8, (.int .u64), [.int .u64 0]⟩ := by kernel_rfl
@[go_sem] theorem D85 : descOf (tabOf Tryz.prog) 85 = some (.int .u64) := by kernel_rfl
@[go_sem] theorem T87 : tabOf Tryz.prog 87 = some ⟨1, 4, (.int .u32), [.int .u32 0]⟩ := by kernel_rfl
@[go_sem] theorem D87 : descOf (tabOf Tryz.prog) 87 = some (.int .u32) := by kernel_rfl
@[go_sem] theorem T93 : tabOf Tryz.prog 93 = some ⟨7, 168, (.array 7 55), [.slice none 0 0, .slice none 0 0, .slice none 0 0, .slice none 0 0, .slice none 0 0, .slice none 0 0, .slice none 0 0]⟩ := by kernel_rfl
@[go_sem] theorem D93 : descOf (tabOf Tryz.prog) 93 = some (.array 7 55) := by kernel_rfl
@[go_sem] theorem T97 : tabOf Tryz.prog 97 = some ⟨1, 24, (.slice 45), [.slice none 0 0]⟩ := by kernel_rfl
@[go_sem] theorem D97 : descOf (tabOf Tryz.prog) 97 = some (.slice 45) := by kernel_rfl
@[go_sem] theorem E97 : Av.elemOf (tabOf Tryz.prog) 97 = some (45, ⟨1, 24, (.slice 129), [.slice none 0 0]⟩) := by kernel_rfl
@[go_sem] theorem T100 : tabOf Tryz.prog 100 = some ⟨1, 24, (.slice 46), [.slice none 0 0]⟩ := by kernel_rfl
@[go_sem] theorem D100 : descOf (tabOf Tryz.prog) 100 = some (.slice 46) := by kernel_rfl
@[go_sem] theorem E100 : Av.elemOf (tabOf Tryz.prog) 100 = some (46, ⟨1, 24, (.slice 131), [.slice none 0 0]⟩) := by kernel_rfl
@[go_sem] theorem T114 : tabOf Tryz.prog 114 = some ⟨1, 8, (.int .u64), [.int .u64 0]⟩ := by kernel_rfl
@[go_sem] theorem D114 : descOf (tabOf Tryz.prog) 114 = some (.int .u64) := by kernel_rfl
@[go_sem] theorem T127 : tabOf Tryz.prog 127 = some ⟨4, 96, (.array 4 55), [.slice none 0 0, .slice none 0 0, .slice none 0 0, .slice none 0 0]⟩ := by kernel_rfl
@[go_sem] theorem D127 : descOf (tabOf Tryz.prog) 127 = some (.array 4 55) := by kernel_rfl
@[go_sem] theorem T128 : tabOf Tryz.prog 128 = some ⟨3, 32, dsc Tryz.prog 128, [.int .i64 0, .int .i64 0, .string ⟨#[]⟩]⟩ := by kernel_rfl
@[go_sem] theorem A128 : aggD (dsc Tryz.prog 128) = true := by kernel_rfl
@[go_sem] theorem S128 : isStruct (dsc Tryz.prog 128) = true := by kernel_rfl
@[go_sem] theorem F128_0 : fieldOf (tabOf Tryz.prog) 128 0 = some (0, ⟨1, 8, (.int .i64), [.int .i64 0]⟩) := by kernel_rfl
@[go_sem] theorem F128_1 : fieldOf (tabOf Tryz.prog) 128 1 = some (1, ⟨1, 8, (.int .i64), [.int .i64 0]⟩) := by kernel_rfl
@[go_sem] theorem F128_2 : fieldOf (tabOf Tryz.prog) 128 2 = some (2, ⟨1, 16, .string, [.string ⟨#[]⟩]⟩) := by kernel_rfl
@[go_sem] theorem T129 : tabOf Tryz.prog 129 = some ⟨3, 32, dsc Tryz.prog 129, [.int .i64 0, .int .i64 0, .string ⟨#[]⟩]⟩ := by kernel_rfl
@[go_sem] theorem A129 : aggD (dsc Tryz.prog 129) = true := by kernel_rfl
@[go_sem] theorem S129 : isStruct (dsc Tryz.prog 129) = true := by kernel_rfl
@[go_sem] theorem F129_0 : fieldOf (tabOf Tryz.prog) 129 0 = some (0, ⟨1, 8, (.int .i64), [.int .i64 0]⟩) := by kernel_rfl
@[go_sem] theorem F129_1 : fieldOf (tabOf Tryz.prog) 129 1 = some (1, ⟨1, 8, (.int .i64), [.int .i64 0]⟩) := by kernel_rfl
@[go_sem] theorem F129_2 : fieldOf (tabOf Tryz.prog) 129 2 = some (2, ⟨1, 16, .string, [.string ⟨#[]⟩]⟩) := by kernel_rfl
@[go_sem] theorem T130 : tabOf Tryz.prog 130 = some ⟨2, 32, dsc Tryz.prog 130, [.string ⟨#[]⟩, .string ⟨#[]⟩]⟩ := by kernel_rfl
@[go_sem] theorem A130 : aggD (dsc Tryz.prog 130) = true := by kernel_rfl
@[go_sem] theorem S130 : isStruct (dsc Tryz.prog 130) = true := by kernel_rfl
@[go_sem] theorem F130_0 : fieldOf (tabOf Tryz.prog) 130 0 = some (0, ⟨1, 16, .string, [.string ⟨#[]⟩]⟩) := by kernel_rfl
@[go_sem] theorem F130_1 : fieldOf (tabOf Tryz.prog) 130 1 = some (1, ⟨1, 16, .string, [.string ⟨#[]⟩]⟩) := by kernel_rfl
@[go_sem] theorem T131 : tabOf Tryz.prog 131 = some ⟨2, 32, dsc Tryz.prog 131, [.string ⟨#[]⟩, .string ⟨#[]⟩]⟩ := by kernel_rfl
@[go_sem] theorem A131 : aggD (dsc Tryz.prog 131) = true := by kernel_rfl
@[go_sem] theorem S131 : isStruct (dsc Tryz.prog 131) = true := by kernel_rfl
@[go_sem] theorem F131_0 : fieldOf (tabOf Tryz.prog) 131 0 = some (0, ⟨1, 16, .string, [.string ⟨#[]⟩]⟩) := by kernel_rfl
@[go_sem] theorem F131_1 : fieldOf (tabOf Tryz.prog) 131 1 = some (1, ⟨1, 16, .string, [.string ⟨#[]⟩]⟩) := by kernel_rfl
@[go_sem] theorem T147 : tabOf Tryz.prog 147 = some ⟨1, 24, (.slice 55), [.slice none 0 0]⟩ := by kernel_rfl
@[go_sem] theorem D147 : descOf (tabOf Tryz.prog) 147 = some (.slice 55) := by kernel_rfl
@[go_sem] theorem E147 : Av.elemOf (tabOf Tryz.prog) 147 = some (55, ⟨1, 24, (.slice 3), [.slice none 0 0]⟩) := by kernel_rfl
@[go_sem] theorem T149 : tabOf Tryz.prog 149 = some ⟨1, 24, (.slice 85), [.slice none 0 0]⟩ := by kernel_rfl
@[go_sem] theorem D149 : descOf (tabOf Tryz.prog) 149 = some (.slice 85) := by kernel_rfl
@[go_sem] theorem E149 : Av.elemOf (tabOf Tryz.prog) 149 = some (85, ⟨1, 8, (.int .u64), [.int .u64 0]⟩) := by kernel_rfl
@[go_sem] theorem T150 : tabOf Tryz.prog 150 = some ⟨2, 32, dsc Tryz.prog 150, [.int .i64 0, .slice none 0 0]⟩ := by kernel_rfl
@[go_sem] theorem A150 : aggD (dsc Tryz.prog 150) = true := by kernel_rfl
@[go_sem] theorem S150 : isStruct (dsc Tryz.prog 150) = true := by kernel_rfl
@[go_sem] theorem F150_0 : fieldOf (tabOf Tryz.prog) 150 0 = some (0, ⟨1, 8, (.int .i64), [.int .i64 0]⟩) := by kernel_rfl
@[go_sem] theorem F150_1 : fieldOf (tabOf Tryz.prog) 150 1 = some (1, ⟨1, 24, (.slice 85), [.slice none 0 0]⟩) := by kernel_rfl
@[go_sem] theorem T151 : tabOf Tryz.prog 151 = some ⟨2, 32, dsc Tryz.prog 151, [.int .i64 0, .slice none 0 0]⟩ := by kernel_rfl
@[go_sem] theorem A151 : aggD (dsc Tryz.prog 151) = true := by kernel_rfl
@[go_sem] theorem S151 : isStruct (dsc Tryz.prog 151) = true := by kernel_rfl
@[go_sem] theorem F151_0 : fieldOf (tabOf Tryz.prog) 151 0 = some (0, ⟨1, 8, (.int .i64), [.int .i64 0]⟩) := by kernel_rfl
@[go_sem] theorem F151_1 : fieldOf (tabOf Tryz.prog) 151 1 = some (1, ⟨1, 24, (.slice 85), [.slice none 0 0]⟩) := by kernel_rfl
@[go_sem] theorem T178 : tabOf Tryz.prog 178 = some ⟨4, 40, dsc Tryz.prog 178, [.pointer none, .pointer none, .pointer none, .string ⟨#[]⟩]⟩ := by kernel_rfl
@[go_sem] theorem A178 : aggD (dsc Tryz.prog 178) = true := by kernel_rfl
@[go_sem] theorem S178 : isStruct (dsc Tryz.prog 178) = true := by kernel_rfl
@[go_sem] theorem F178_0 : fieldOf (tabOf Tryz.prog) 178 0 = some (0, ⟨1, 8, (.pointer 190), [.pointer none]⟩) := by kernel_rfl
@[go_sem] theorem F178_1 : fieldOf (tabOf Tryz.prog) 178 1 = some (1, ⟨1, 8, (.pointer 190), [.pointer none]⟩) := by kernel_rfl
@[go_sem] theorem F178_2 : fieldOf (tabOf Tryz.prog) 178 2 = some (2, ⟨1, 8, (.pointer 190), [.pointer none]⟩) := by kernel_rfl
@[go_sem] theorem F178_3 : fieldOf (tabOf Tryz.prog) 178 3 = some (3, ⟨1, 16, .string, [.string ⟨#[]⟩]⟩) := by kernel_rfl
@[go_sem] theorem T179 : tabOf Tryz.prog 179 = some ⟨4, 40, dsc Tryz.prog 179, [.pointer none, .pointer none, .pointer none, .string ⟨#[]⟩]⟩ := by kernel_rfl
@[go_sem] theorem A179 : aggD (dsc Tryz.prog 179) = true := by kernel_rfl
@[go_sem] theorem S179 : isStruct (dsc Tryz.prog 179) = true := by kernel_rfl
@[go_sem] theorem F179_0 : fieldOf (tabOf Tryz.prog) 179 0 = some (0, ⟨1, 8, (.pointer 190), [.pointer none]⟩) := by kernel_rfl
@[go_sem] theorem F179_1 : fieldOf (tabOf Tryz.prog) 179 1 = some (1, ⟨1, 8, (.pointer 190), [.pointer none]⟩) := by kernel_rfl
@[go_sem] theorem F179_2 : fieldOf (tabOf Tryz.prog) 179 2 = some (2, ⟨1, 8, (.pointer 190), [.pointer none]⟩) := by kernel_rfl
@[go_sem] theorem F179_3 : fieldOf (tabOf Tryz.prog) 179 3 = some (3, ⟨1, 16, .string, [.string ⟨#[]⟩]⟩) := by kernel_rfl
@[go_sem] theorem T180 : tabOf Tryz.prog 180 = some ⟨0, 0, (.array 0 16), []⟩ := by kernel_rfl
@[go_sem] theorem D180 : descOf (tabOf Tryz.prog) 180 = some (.array 0 16) := by kernel_rfl
@[go_sem] theorem T181 : tabOf Tryz.prog 181 = some ⟨0, 0, dsc Tryz.prog 181, []⟩ := by kernel_rfl
@[go_sem] theorem A181 : aggD (dsc Tryz.prog 181) = true := by kernel_rfl
@[go_sem] theorem S181 : isStruct (dsc Tryz.prog 181) = true := by kernel_rfl
@[go_sem] theorem F181_0 : fieldOf (tabOf Tryz.prog) 181 0 = some (0, ⟨0, 0, (.array 0 16), []⟩) := by kernel_rfl
@[go_sem] theorem T182 : tabOf Tryz.prog 182 = some ⟨0, 0, dsc Tryz.prog 182, []⟩ := by kernel_rfl
@[go_sem] theorem A182 : aggD (dsc Tryz.prog 182) = true := by kernel_rfl
@[go_sem] theorem S182 : isStruct (dsc Tryz.prog 182) = true := by kernel_rfl
@[go_sem] theorem F182_0 : fieldOf (tabOf Tryz.prog) 182 0 = some (0, ⟨0, 0, (.array 0 16), []⟩) := by kernel_rfl
@[go_sem] theorem T183 : tabOf Tryz.prog 183 = some ⟨1, 1, (.int .u8), [.int .u8 0]⟩ := by kernel_rfl
@[go_sem] theorem D183 : descOf (tabOf Tryz.prog) 183 = some (.int .u8) := by kernel_rfl
@[go_sem] theorem U183 : isU8 (tabOf Tryz.prog) 183 = true := by kernel_rfl
@[go_sem] theorem T184 : tabOf Tryz.prog 184 = some ⟨1, 1, (.int .u8), [.int .u8 0]⟩ := by kernel_rfl
@[go_sem] theorem D184 : descOf (tabOf Tryz.prog) 184 = some (.int .u8) := by kernel_rfl
@[go_sem] theorem U184 : isU8 (tabOf Tryz.prog) 184 = true := by kernel_rfl
@[go_sem] theorem T186 : tabOf Tryz.prog 186 = some ⟨1, 8, (.pointer 5), [.pointer none]⟩ := by kernel_rfl
@[go_sem] theorem D186 : descOf (tabOf Tryz.prog) 186 = some (.pointer 5) := by kernel_rfl
@[go_sem] theorem T187 : tabOf Tryz.prog 187 = some ⟨1, 4, (.int .i32), [.int .i32 0]⟩ := by kernel_rfl
@[go_sem] theorem D187 : descOf (tabOf Tryz.prog) 187 = some (.int .i32) := by kernel_rfl
@[go_sem] theorem T188 : tabOf Tryz.prog 188 = some ⟨1, 4, (.int .i32), [.int .i32 0]⟩ := by kernel_rfl
@[go_sem] theorem D188 : descOf (tabOf Tryz.prog) 188 = some (.int .i32) := by kernel_rfl
@[go_sem] theorem T189 : tabOf Tryz.prog 189 = some ⟨11, 48, dsc Tryz.prog 189, [.int .u64 0, .int .u64 0, .int .u32 0, .int .u8 0, .int .u8 0, .int .u8 0, .int .u8 0, .nilFunc, .pointer none, .int .i32 0, .int .i32 0]⟩ := by kernel_rfl
@[go_sem] theorem A189 : aggD (dsc Tryz.prog 189) = true := by kernel_rfl
@[go_sem] theorem S189 : isStruct (dsc Tryz.prog 189) = true := by kernel_rfl
@[go_sem] theorem F189_0 : fieldOf (tabOf Tryz.prog) 189 0 = some (0, ⟨1, 8, (.int .u64), [.int .u64 0]⟩) := by kernel_rfl
@[go_sem] theorem F189_1 : fieldOf (tabOf Tryz.prog) 189 1 = some (1, ⟨1, 8, (.int .u64), [.int .u64 0]⟩) := by kernel_rfl
@[go_sem] theorem F189_2 : fieldOf (tabOf Tryz.prog) 189 2 = some (2, ⟨1, 4, (.int .u32), [.int .u32 0]⟩) := by kernel_rfl
@[go_sem] theorem F189_3 : fieldOf (tabOf Tryz.prog) 189 3 = some (3, ⟨1, 1, (.int .u8), [.int .u8 0]⟩) := by kernel_rfl
@[go_sem] theorem F189_4 : fieldOf (tabOf Tryz.prog) 189 4 = some (4, ⟨1, 1, (.int .u8), [.int .u8 0]⟩) := by kernel_rfl
@[go_sem] theorem F189_5 : fieldOf (tabOf Tryz.prog) 189 5 = some (5, ⟨1, 1, (.int .u8), [.int .u8 0]⟩) := by kernel_rfl
@[go_sem] theorem F189_6 : fieldOf (tabOf Tryz.prog) 189 6 = some (6, ⟨1, 1, (.int .u8), [.int .u8 0]⟩) := by kernel_rfl
@[go_sem] theorem F189_8 : fieldOf (tabOf Tryz.prog) 189 8 = some (8, ⟨1, 8, (.pointer 5), [.pointer none]⟩) := by kernel_rfl
@[go_sem] theorem F189_9 : fieldOf (tabOf Tryz.prog) 189 9 = some (9, ⟨1, 4, (.int .i32), [.int .i32 0]⟩) := by kernel_rfl
@[go_sem] theorem F189_10 : fieldOf (tabOf Tryz.prog) 189 10 = some (10, ⟨1, 4, (.int .i32), [.int .i32 0]⟩) := by kernel_rfl
@[go_sem] theorem T190 : tabOf Tryz.prog 190 = some ⟨11, 48, dsc Tryz.prog 190, [.int .u64 0, .int .u64 0, .int .u32 0, .int .u8 0, .int .u8 0, .int .u8 0, .int .u8 0, .nilFunc, .pointer none, .int .i32 0, .int .i32 0]⟩ := by kernel_rfl
@[go_sem] theorem A190 : aggD (dsc Tryz.prog 190) = true := by kernel_rfl
@[go_sem] theorem S190 : isStruct (dsc Tryz.prog 190) = true := by kernel_rfl
@[go_sem] theorem F190_0 : fieldOf (tabOf Tryz.prog) 190 0 = some (0, ⟨1, 8, (.int .u64), [.int .u64 0]⟩) := by kernel_rfl
@[go_sem] theorem F190_1 : fieldOf (tabOf Tryz.prog) 190 1 = some (1, ⟨1, 8, (.int .u64), [.int .u64 0]⟩) := by kernel_rfl
@[go_sem] theorem F190_2 : fieldOf (tabOf Tryz.prog) 190 2 = some (2, ⟨1, 4, (.int .u32), [.int .u32 0]⟩) := by kernel_rfl
@[go_sem] theorem F190_3 : fieldOf (tabOf Tryz.prog) 190 3 = some (3, ⟨1, 1, (.int .u8), [.int .u8 0]⟩) := by kernel_rfl
@[go_sem] theorem F190_4 : fieldOf (tabOf Tryz.prog) 190 4 = some (4, ⟨1, 1, (.int .u8), [.int .u8 0]⟩) := by kernel_rfl
@[go_sem] theorem F190_5 : fieldOf (tabOf Tryz.prog) 190 5 = some (5, ⟨1, 1, (.int .u8), [.int .u8 0]⟩) := by kernel_rfl
@[go_sem] theorem F190_6 : fieldOf (tabOf Tryz.prog) 190 6 = some (6, ⟨1, 1, (.int .u8), [.int .u8 0]⟩) := by kernel_rfl
@[go_sem] theorem F190_8 : fieldOf (tabOf Tryz.prog) 190 8 = some (8, ⟨1, 8, (.pointer 5), [.pointer none]⟩) := by kernel_rfl
@[go_sem] theorem F190_9 : fieldOf (tabOf Tryz.prog) 190 9 = some (9, ⟨1, 4, (.int .i32), [.int .i32 0]⟩) := by kernel_rfl
@[go_sem] theorem F190_10 : fieldOf (tabOf Tryz.prog) 190 10 = some (10, ⟨1, 4, (.int .i32), [.int .i32 0]⟩) := by kernel_rfl
@[go_sem] theorem T191 : tabOf Tryz.prog 191 = some ⟨1, 8, .unsafePointer, [.pointer none]⟩ := by kernel_rfl
@[go_sem] theorem D191 : descOf (tabOf Tryz.prog) 191 = some .unsafePointer := by kernel_rfl
theorem mixed : Tryz.prog.follows .mixedOrders = true := by kernel_rfl
section
variable {C : Ctx} {Q : Exit → Nat → AS → Prop} {n : Nat} {s : AS}
theorem rG {N k : Nat} (hN : C.N = N) (hk : C.k = k) (orc : Nat → Option Orc) (ks keep : List Nat) {id : Nat} {ops : Array Oper}
   (h : ∀ K : Nat → AS → Prop, (∀ n s, Q .normal n s → K n s) → RegC Tryz.prog orc ks n ops keep K s) (hks : ks = List.range k := by rfl) (hok : regOk N ops false = true := by decide +kernel) : AW Tryz.prog C (.region id ops false) Q n s := AW.rc mixed hN hk orc ks keep hks hok h
theorem rD {N k : Nat} (hN : C.N = N) (hk : C.k = k) (orc : Nat → Option Orc) (ks keep : List Nat) {id : Nat} {ops : Array Oper}
   (h : ∀ (K : Nat → AS → Prop) (tok : List Go.Av.Touch → Prop), (∀ ts, touchesOk (masks ops.toList []) ts = true → tok ts) → (∀ n s, Q .normal n s → K n s) → RegCD Tryz.prog orc ks n ops keep tok K s) (hks : ks = List.range k := by rfl) (hok : regOk N ops true = true := by decide +kernel) : AW Tryz.prog C (.region id ops true) Q n s := AW.rcd mixed hN hk orc ks keep hks hok h
end
def varintF : Nat → Nat → List UInt8
 | 0, v => [UInt8.ofNat v]
 | k + 1, v => if v < 128 then [UInt8.ofNat v] else UInt8.ofNat (v % 128 + 128) :: varintF k (v / 128)
def varint (v : Nat) : List UInt8 := varintF 10 v
theorem wrap8 (u : Nat) : IntKind.u8.wrap (u : Int) = ((u % 256 : Nat) : Int) := by
 simp [IntKind.wrap, IntKind.bits, IntKind.signed]
theorem or128 (u : Nat) : bitsOf .or .u8 (IntKind.u8.wrap (u : Int)) 128 = ((u % 128 + 128 : Nat) : Int) := by
 rw [wrap8]
 have h : ∀ x : Fin 256, bitsOf .or .u8 ((x.val : Nat) : Int) 128 = ((x.val % 128 + 128 : Nat) : Int) := by decide +kernel
 have := h ⟨u % 256, Nat.mod_lt _ (by omega)⟩
 simp only at this
 rw [this]
 congr 2
 omega
theorem byteE_of (n : Nat) (h : n < 256) : [AV.val (.int .u8 (n : Int))] = byteE (UInt8.ofNat n) := by
 simp [byteE, Nat.mod_eq_of_lt h]
theorem putVarint (b : List UInt8) (v : Nat) (hv : v < 2 ^ 64) (hb : b.length ≤ 2 ^ 40) :
   ACall Tryz.prog 90 [.osl 0 b.length 1, .val (.int .u64 v)] [some ⟨5, 1, bytesE b⟩] (.osl 1 (b ++ varint v).length 1) [none, some ⟨5, 1, bytesE (b ++ varint v)⟩] := by
 refine acall 20 1 Tryz.func90 rfl rfl rfl (by simp) rfl rfl ?_
 intro C hN hk
 refine nx ?_; refine rG hN hk noc [0] [0, 1] fun K hK => ?_; simp only [go_sem, seval]; refine hK _ _ ?_
 clear hK K; refine nx ?_
 refine AW.loopF hk 2 (α := List UInt8 × Nat × Nat) (fun a => ⟨[(0, .osl 1 a.1.length 1), (1, .val (.int .u64 a.2.1))], [(1, some ⟨5, 1, bytesE a.1⟩)]⟩)
   (fun a => a.1 ++ varintF a.2.2 a.2.1 = b ++ varint v ∧ a.2.1 < 128 ^ (a.2.2 + 1) ∧ a.1.length + a.2.2 = b.length + 10 ∧ a.2.2 ≤ 10) (fun a => a.2.2) (b, v, 10) ⟨rfl, by simp only; omega, rfl, by simp⟩ ?_ ?_
 · exact mkWk [some 0, some 0] [] (by simp [wkEnv, wk, lk]) (by simp [wkHp, wkHp1, wkEnt, lkh, bytesE_id])
 · rintro ⟨d, u, k⟩ ⟨h1, h2, h3, h4⟩
   simp only at h1 h2 h3 h4
   refine nx ?_; refine rG hN hk noc [0] [0, 1, 6] fun K hK => ?_; simp only [go_sem, seval]; refine hK _ _ ?_
   clear hK K; refine nx ?_
   refine AW.condB rfl (fun h => ?_) (fun h => ?_)
   · simp only [ge_iff_le, decide_eq_true_eq] at h
     obtain ⟨k, rfl⟩ : ∃ k', k = k' + 1 := by
       cases k with
       | zero => simp at h2; omega
       | succ k => exact ⟨k, rfl⟩
     rw [varintF, if_neg (by omega)] at h1
     have h5 : u / 128 < 128 ^ (k + 1) := by
       rw [Nat.div_lt_iff_lt_mul (by omega), ← Nat.pow_succ]; exact h2
     refine AW.skip (qNext ?_)
     refine nx ?_; refine rG hN hk noc [0] [0, 1] fun K hK => ?_; simp only [go_sem, seval]
     first | with_reducible refine hK _ _ ?_ | refine ⟨by simp [bytesE_len, storable]; omega, hK _ _ ?_⟩ | refine obK (hK _ _ ?_)
     clear hK K; refine nx ?_
     rw [or128, byteE_of _ (by omega), bytesE_snoc]
     refine nx ?_; refine rG hN hk noc [0] [0, 1] fun K hK => ?_; simp only [go_sem, seval]
     first | with_reducible refine hK _ _ ?_ | refine ⟨by simp, hK _ _ ?_⟩ | refine obK (hK _ _ ?_)
     clear hK K; refine nx ?_
     refine ⟨(d ++ [UInt8.ofNat (u % 128 + 128)], u / 128, k), ⟨by rw [← h1]; simp, h5, by simp; omega, by show k ≤ 10; omega⟩, by simp, ?_⟩
     refine ⟨[some 0, some 1], [], ⟨by simp [srcIds], by simp [srcIds], by simp⟩, by simp, ?_, by simp [wkHp, wkHp1, wkEnt, lkh, bytesE_id]⟩
     simp [wkEnv, wk, lk]
     exact Int.fdiv_eq_ediv_of_nonneg _ (by omega)
   · simp only [ge_iff_le, decide_eq_false_iff_not] at h
     refine AW.exit (qThen (qThen (qHere (qNext ?_))))
     refine nx ?_; refine rG hN hk noc [0] [4] fun K hK => ?_; simp only [go_sem, seval]
     first | with_reducible refine hK _ _ ?_ | refine ⟨by simp [bytesE_len, storable]; omega, hK _ _ ?_⟩ | refine obK (hK _ _ ?_)
     clear hK K; refine nx ?_
     have h6 : varintF k u = [UInt8.ofNat u] := by
       cases k with
       | zero => rfl
       | succ k => rw [varintF, if_pos (by omega)]
     rw [h6] at h1
     rw [wrap8, Nat.mod_eq_of_lt (by omega), byteE_of _ (by omega), bytesE_snoc, h1]
     refine AW.ret (mkRet [some 0, some 1] [] rfl ?_ ?_ (h2 := trivial))
     · simp [resOf, lk, wk]
       have := congrArg List.length h1
       simp at this
       omega
     · simp [wkHp, wkHp1, wkEnt, lkh, bytesE_id]
theorem take_get_eq {a b : List UInt8} {i : Nat} (h1 : i < a.length) (h2 : i < b.length) : a.take (i + 1) = b.take (i + 1) ↔ a.take i = b.take i ∧ a[i] = b[i] := by
 rw [List.take_succ_eq_append_getElem h1, List.take_succ_eq_append_getElem h2]
 constructor
 · intro h
   have := List.append_inj h (by simp; omega)
   exact ⟨this.1, by simpa using this.2⟩
 · rintro ⟨h, h'⟩; rw [h, h']
theorem sameBytes (a b : List UInt8) (ha : a.length ≤ 2 ^ 40) (hb : b.length ≤ 2 ^ 40) :
   ACall Tryz.prog 18 [.sl 1 (bytesE a), .sl 1 (bytesE b)] [] (.val (.bool (decide (a = b)))) [] := by
 refine acall 26 0 Tryz.func18 rfl rfl rfl (by simp) rfl rfl ?_
 intro C hN hk
 refine nx ?_; refine rG hN hk noc [] [0, 1] fun K hK => ?_; simp only [go_sem, seval]; refine hK _ _ ?_
 clear hK K; refine nx ?_
 refine rG hN hk noc [] [0, 1, 10] fun K hK => ?_; simp only [go_sem, seval]; refine hK _ _ ?_
 clear hK K; refine nx ?_
 by_cases hl : a.length = b.length
 · refine AW.condF (by simp [evA, lk, bytesE_len, hl]) (AW.skip (qNext ?_))
   refine nx ?_; refine rG hN hk noc [] [0, 1, 5] fun K hK => ?_; simp only [go_sem, seval]; refine hK _ _ ?_
   clear hK K; refine nx ?_
   refine AW.loopF hk 1 (fun i : Nat => ⟨[(0, .sl 1 (bytesE a)), (1, .sl 1 (bytesE b)), (5, .val (.int .i64 i))], []⟩) (fun i => i ≤ a.length ∧ a.take i = b.take i) (fun i => a.length - i) 0 ⟨by omega, by simp⟩ ⟨[], [], ⟨by simp [srcIds], by simp [srcIds], by simp⟩, by simp, by simp [wkEnv, wk, lk], by simp [wkHp]⟩ ?_
   rintro i ⟨h1, h2⟩
   refine nx ?_; refine rG hN hk noc [] [0, 1, 5, 14] fun K hK => ?_; simp only [go_sem, seval]; refine hK _ _ ?_
   clear hK K; refine nx ?_
   refine AW.condB rfl (fun h => ?_) (fun h => ?_)
   · simp only [bytesE_len, decide_eq_true_eq] at h
     have hi : i < a.length := by omega
     have hi2 : i < b.length := by omega
     have hx := take_get_eq hi hi2
     refine AW.skip (qNext ?_)
     refine nx ?_
     refine rD hN hk noc [] [0, 1, 5, 25] fun K tok htok hK => ?_
     simp only [go_sem, seval, List.getElem?_eq_getElem hi, List.getElem?_eq_getElem hi2]
     refine ⟨htok _ (by decide +kernel), hK _ _ ?_⟩
     clear hK K htok tok
     refine nx ?_
     by_cases he : a[i] = b[i]
     · refine AW.condF (by simp [evA, lk, he]) (AW.skip (qBlock (qNext ?_)))
       refine nx ?_; refine rG hN hk noc [] [0, 1, 5] fun K hK => ?_; simp only [go_sem, seval, wrap64 (n := ↑i + 1) (by omega)]
       refine hK _ _ ?_; clear hK K; refine nx ?_
       exact ⟨i + 1, ⟨by omega, hx.2 ⟨h2, he⟩⟩, by omega, ⟨[], [], ⟨by simp [srcIds], by simp [srcIds], by simp⟩, by simp, by simp [wkEnv, wk, lk], by simp [wkHp]⟩⟩
     · refine AW.condT (by simp [evA, lk, he]) ?_
       have hne : a ≠ b := fun e => he (by subst e; rfl)
       refine nx ?_; refine rG hN hk noc [] [4] fun K hK => ?_; simp only [go_sem, seval]; refine hK _ _ ?_
       clear hK K; refine nx ?_
       refine AW.ret (mkRet [] [] rfl ?_ ?_)
       · simp [resOf, lk, wk, hne]
       · simp [wkHp]
   · simp only [bytesE_len, decide_eq_false_iff_not] at h
     have he : a = b := by
       rw [List.take_of_length_le (by omega), List.take_of_length_le (by omega)] at h2; exact h2
     refine AW.exit (qThen (qThen (qHere (qNext ?_))))
     refine nx ?_; refine rG hN hk noc [] [4] fun K hK => ?_; simp only [go_sem, seval]; refine hK _ _ ?_
     clear hK K; refine nx ?_
     refine AW.ret (mkRet [] [] rfl ?_ ?_)
     · simp [resOf, lk, wk, he]
     · simp [wkHp]
 · refine AW.condT (by simp [evA, lk]; omega) ?_
   have hne : a ≠ b := fun e => hl (by rw [e])
   refine nx ?_; refine rG hN hk noc [] [4] fun K hK => ?_; simp only [go_sem, seval]; refine hK _ _ ?_
   clear hK K; refine nx ?_
   refine AW.ret (mkRet [] [] rfl ?_ ?_)
   · simp [resOf, lk, wk, hne]
   · simp [wkHp]
def B (b : Bool) : AV := .val (.bool b)
def I (n : Int) : AV := .val (.int .i64 n)
def U8 (c : UInt8) : AV := .val (.int .u8 c.toNat)
attribute [go_sem] B I U8
theorem bt (b : Bool) : b = true ∨ b = false := by cases b <;> simp
def digitB (c : UInt8) : Bool := decide ((c.toNat : Int) ≥ 48) && decide ((c.toNat : Int) ≤ 57)
theorem digit (c : UInt8) : ACall Tryz.prog 113 [U8 c] [] (B (digitB c)) [] := by
 refine acall 9 0 Tryz.func113 rfl rfl rfl (by simp) rfl rfl ?_
 intro C hN hk
 rcases bt (decide ((c.toNat : Int) ≥ 48)) with e1 | e1
 all_goals
   refine nx ?_; refine rG hN hk noc [] [0] fun K hK => ?_; simp only [go_sem, seval]; refine hK _ _ ?_
   clear hK K; refine nx ?_
   refine rG hN hk noc [] [2] fun K hK => ?_; simp only [go_sem, seval, e1]; refine hK _ _ ?_
   clear hK K; refine nx ?_
   refine AW.ret (mkRet [] [] rfl ?_ ?_)
   · simp [resOf, lk, wk, B, digitB, e1]
   · simp [wkHp]
def lowB (c : UInt8) : Bool := decide ((c.toNat : Int) ≥ 97) && decide ((c.toNat : Int) ≤ 122)
def upB (c : UInt8) : Bool := decide ((c.toNat : Int) ≥ 65) && decide ((c.toNat : Int) ≤ 90)
def letterB (c : UInt8) : Bool := lowB c || upB c
theorem letter1 (c : UInt8) : ACall Tryz.prog 110 [U8 c] [] (B (letterB c)) [] := by
 refine acall 17 0 Tryz.func110 rfl rfl rfl (by simp) rfl rfl ?_
 intro C hN hk
 rcases bt (decide ((c.toNat : Int) ≥ 97)) with e1 | e1 <;> rcases bt (decide ((c.toNat : Int) ≤ 122)) with e2 | e2 <;> rcases bt (decide ((c.toNat : Int) ≥ 65)) with e3 | e3
 all_goals
   refine nx ?_; refine rG hN hk noc [] [0] fun K hK => ?_; simp only [go_sem, seval]; refine hK _ _ ?_
   clear hK K; refine nx ?_
   refine rG hN hk noc [] [2] fun K hK => ?_; simp only [go_sem, seval, e1, e2, e3]; refine hK _ _ ?_
   clear hK K; refine nx ?_
   refine AW.ret (mkRet [] [] rfl ?_ ?_)
   · simp only [resOf, lk, wk, B, letterB, lowB, upB, e1, e2, e3]; simp
   · simp [wkHp]
def wordB (c : UInt8) : Bool := digitB c || letterB c || ((c.toNat : Int) == 95)
theorem word1 (c : UInt8) : ACall Tryz.prog 111 [U8 c] [] (B (wordB c)) [] := by
 refine acall 13 0 Tryz.func111 rfl rfl rfl (by simp) rfl rfl ?_
 intro C hN hk
 have hd := digit c
 have hl := letter1 c
 rcases bt (digitB c) with e1 | e1 <;> rcases bt (letterB c) with e2 | e2
 all_goals
   rw [e1] at hd
   rw [e2] at hl
   refine nx ?_; refine rG hN hk noc [] [0] fun K hK => ?_; simp only [go_sem, seval]; refine hK _ _ ?_
   clear hK K; refine nx ?_
   refine rG hN hk (onc 1 (pc [U8 c] (B (digitB c)) []) (onc 4 (pc [U8 c] (B (letterB c)) []) noc)) [] [2] fun K hK => ?_; simp only [go_sem, seval, e1, e2]
   first | with_reducible refine hK _ _ ?_ | refine ⟨by first | exact pureOb hd rfl (by simp) | exact ⟨pureOb hd rfl (by simp), pureOb hl rfl (by simp)⟩, hK _ _ ?_⟩ | refine obK (hK _ _ ?_)
   clear hK K; refine nx ?_
   refine AW.ret (mkRet [] [] rfl ?_ ?_)
   · simp [resOf, lk, wk, B, wordB, e1, e2]
   · simp [wkHp]
def weightB (w : Int) : Bool := decide (w ≥ 1) && decide (w ≤ 5040) && ((5040 : Int).tmod w == 0)
theorem weight1 (w : Int) : ACall Tryz.prog 74 [I w] [] (B (weightB w)) [] := by
 refine acall 14 0 Tryz.func74 rfl rfl rfl (by simp) rfl rfl ?_
 intro C hN hk
 rcases bt (decide (w ≥ 1)) with e1 | e1 <;> rcases bt (decide (w ≤ 5040)) with e2 | e2
 all_goals
   refine nx ?_; refine rG hN hk noc [] [0] fun K hK => ?_; simp only [go_sem, seval]; refine hK _ _ ?_
   clear hK K; refine nx ?_
   refine rG hN hk noc [] [2] fun K hK => ?_; simp only [go_sem, seval, e1, e2]
   first | (refine hK _ _ ?_) | (refine ⟨by simp at e1; omega, hK _ _ ?_⟩)
   clear hK K; refine nx ?_
   refine AW.ret (mkRet [] [] rfl ?_ ?_)
   · simp [resOf, lk, wk, B, weightB, e1, e2]
   · simp [wkHp]
theorem isNaN1 (x : Int) : ACall Tryz.prog 66 [I x] [] (B false) [] := by
 refine acall 6 0 Tryz.func66 rfl rfl rfl (by simp) rfl rfl ?_
 intro C hN hk
 refine nx ?_; refine rG hN hk noc [] [0] fun K hK => ?_; simp only [go_sem, seval]; refine hK _ _ ?_
 clear hK K; refine nx ?_
 refine rG hN hk noc [] [2] fun K hK => ?_; simp only [go_sem, seval]; refine hK _ _ ?_
 clear hK K; refine nx ?_
 refine AW.ret (mkRet [] [] rfl ?_ ?_)
 · simp [resOf, lk, wk, B]
 · simp [wkHp]
def cmpI (x y : Int) : Int := if x < y then -1 else if x > y then 1 else 0
theorem compare1 (x y : Int) : ACall Tryz.prog 42 [I x, I y] [] (I (cmpI x y)) [] := by
 refine acall 20 0 Tryz.func42 rfl rfl rfl (by simp) rfl rfl ?_
 intro C hN hk
 refine nx ?_; refine rG hN hk noc [] [0, 1] fun K hK => ?_; simp only [go_sem, seval]; refine hK _ _ ?_
 clear hK K; refine nx ?_
 refine rG hN hk (onc 1 (pc [I x] (B false) []) noc) [] [0, 1, 5] fun K hK => ?_; simp only [go_sem, seval]
 first | with_reducible refine hK _ _ ?_ | refine ⟨by exact pureOb (isNaN1 x) rfl (by simp), hK _ _ ?_⟩ | refine obK (hK _ _ ?_)
 clear hK K; refine nx ?_
 refine rG hN hk (onc 1 (pc [I y] (B false) []) noc) [] [0, 1, 5, 6] fun K hK => ?_; simp only [go_sem, seval]
 first | with_reducible refine hK _ _ ?_ | refine ⟨by exact pureOb (isNaN1 y) rfl (by simp), hK _ _ ?_⟩ | refine obK (hK _ _ ?_)
 clear hK K; refine nx ?_
 refine rG hN hk noc [] [0, 1, 6, 11] fun K hK => ?_; simp only [go_sem, seval]; refine hK _ _ ?_
 clear hK K; refine nx ?_
 refine AW.condF rfl (AW.skip (qNext ?_))
 refine nx ?_; refine rG hN hk noc [] [0, 1, 13] fun K hK => ?_; simp only [go_sem, seval]; refine hK _ _ ?_
 clear hK K; refine nx ?_
 refine AW.condF rfl (AW.skip (qNext ?_))
 refine nx ?_; refine rG hN hk noc [] [0, 1, 16] fun K hK => ?_; simp only [go_sem, seval]; refine hK _ _ ?_
 clear hK K; refine nx ?_
 refine AW.condB rfl (fun h => ?_) (fun h => AW.skip (qNext ?_))
 · simp only [decide_eq_true_eq] at h
   refine nx ?_; refine rG hN hk noc [] [4] fun K hK => ?_; simp only [go_sem, seval]; refine hK _ _ ?_
   clear hK K; refine nx ?_
   refine AW.ret (mkRet [] [] rfl ?_ ?_)
   · simp [resOf, lk, wk, I, cmpI, h]
   · simp [wkHp]
 · simp only [decide_eq_false_iff_not] at h
   refine nx ?_; refine rG hN hk noc [] [0, 1, 19] fun K hK => ?_; simp only [go_sem, seval]; refine hK _ _ ?_
   clear hK K; refine nx ?_
   refine AW.condB rfl (fun h' => ?_) (fun h' => AW.skip (qNext ?_))
   · simp only [gt_iff_lt, decide_eq_true_eq] at h'
     refine nx ?_; refine rG hN hk noc [] [4] fun K hK => ?_; simp only [go_sem, seval]; refine hK _ _ ?_
     clear hK K; refine nx ?_
     refine AW.ret (mkRet [] [] rfl ?_ ?_)
     · simp [resOf, lk, wk, I, cmpI, h, h']
     · simp [wkHp]
   · simp only [gt_iff_lt, decide_eq_false_iff_not] at h'
     refine nx ?_; refine rG hN hk noc [] [4] fun K hK => ?_; simp only [go_sem, seval]; refine hK _ _ ?_
     clear hK K; refine nx ?_
     refine AW.ret (mkRet [] [] rfl ?_ ?_)
     · simp [resOf, lk, wk, I, cmpI, h, h']
     · simp [wkHp]
def U64 (n : Int) : AV := .val (.int .u64 n)
attribute [go_sem] U64
def zigF (x : Int) : Int := bitsOf .xor .u64 (IntKind.u64.wrap (IntKind.u64.wrap x * 2 ^ 1)) (IntKind.u64.wrap (x.fdiv (2 ^ 63)))
theorem zigzag1 (x : Int) : ACall Tryz.prog 106 [I x] [] (U64 (zigF x)) [] := by
 refine acall 10 0 Tryz.func106 rfl rfl rfl (by simp) rfl rfl ?_
 intro C hN hk
 refine nx ?_; refine rG hN hk noc [] [0] fun K hK => ?_; simp only [go_sem, seval]; refine hK _ _ ?_
 clear hK K; refine nx ?_
 refine rG hN hk noc [] [2] fun K hK => ?_; simp only [go_sem, seval]
 first | with_reducible refine hK _ _ ?_ | refine ⟨by simp, hK _ _ ?_⟩ | refine obK (hK _ _ ?_)
 clear hK K; refine nx ?_
 refine AW.ret (mkRet [] [] rfl ?_ ?_)
 · simp only [resOf, lk, wk]; rfl
 · simp [wkHp]
def unzigF (v : Int) : Int := bitsOf .xor .i64 (IntKind.i64.wrap (v.fdiv (2 ^ 1))) (IntKind.i64.wrap (0 - IntKind.i64.wrap (bitsOf .and .u64 v 1)))
theorem unzig1 (v : Int) : ACall Tryz.prog 103 [U64 v] [] (I (unzigF v)) [] := by
 refine acall 11 0 Tryz.func103 rfl rfl rfl (by simp) rfl rfl ?_
 intro C hN hk
 refine nx ?_; refine rG hN hk noc [] [0] fun K hK => ?_; simp only [go_sem, seval]; refine hK _ _ ?_
 clear hK K; refine nx ?_
 refine rG hN hk noc [] [2] fun K hK => ?_; simp only [go_sem, seval]
 first | with_reducible refine hK _ _ ?_ | refine ⟨by simp, hK _ _ ?_⟩ | refine obK (hK _ _ ?_)
 clear hK K; refine nx ?_
 refine AW.ret (mkRet [] [] rfl ?_ ?_)
 · simp only [resOf, lk, wk]; rfl
 · simp [wkHp]
/-- GetVarint from the k-th byte on, with v gathered. -/
def getGo (b : List UInt8) (at_ : Nat) : Nat → Nat → Int → Option (Int × Nat)
 | 0, _, _ => none
 | f + 1, k, v => match b[at_ + k]? with
   | none => none
   | some d => if k = 9 ∧ 1 < d.toNat then none else
     if d.toNat < 128 then (if 0 < k ∧ d.toNat = 0 then none else some (bitsOf .or .u64 v (IntKind.u64.wrap (bitsOf .and .u64 d.toNat 127 * 2 ^ (7 * k))), at_ + k + 1))
     else getGo b at_ f (k + 1) (bitsOf .or .u64 v (IntKind.u64.wrap (bitsOf .and .u64 d.toNat 127 * 2 ^ (7 * k))))
def getVarF (b : List UInt8) (at_ : Nat) : Option (Int × Nat) := getGo b at_ 10 0 0
def getRes : Option (Int × Nat) → AV
 | none => .tup [U64 0, I 0, B false]
 | some (v, n) => .tup [U64 v, I n, B true]
theorem getVarint1 (b : List UInt8) (at_ : Nat) (hb : b.length ≤ 2 ^ 40) (ha : at_ ≤ 2 ^ 41) :
   ACall Tryz.prog 59 [.sl 1 (bytesE b), I at_] [] (getRes (getVarF b at_)) [] := by
 refine acall 59 0 Tryz.func59 rfl rfl rfl (by simp) rfl rfl ?_
 intro C hN hk
 refine nx ?_; refine rG hN hk noc [] [0, 1] fun K hK => ?_; simp only [go_sem, seval]; refine hK _ _ ?_
 clear hK K; refine nx ?_
 refine rG hN hk noc [] [0, 1, 7] fun K hK => ?_; simp only [go_sem, seval]; refine hK _ _ ?_
 clear hK K; refine nx ?_
 refine rG hN hk noc [] [0, 1, 7, 8] fun K hK => ?_; simp only [go_sem, seval]; refine hK _ _ ?_
 clear hK K; refine nx ?_
 refine AW.loopF hk 1 (α := Nat × Int) (fun a => ⟨[(0, .sl 1 (bytesE b)), (1, I at_), (7, U64 a.2), (8, I a.1)], []⟩) (fun a => a.1 ≤ 10 ∧ getGo b at_ (10 - a.1) a.1 a.2 = getVarF b at_) (fun a => 10 - a.1) (0, 0) ⟨by simp, rfl⟩ ⟨[], [], ⟨by simp [srcIds], by simp [srcIds], by simp⟩, by simp, by simp [wkEnv, wk, lk, I, U64], by simp [wkHp]⟩ ?_
 rintro ⟨k, v⟩ ⟨h1, h2⟩
 simp only at h1 h2
 by_cases hk10 : k < 10
 · have e1 : decide ((k : Int) < 10) = true := by simp; omega
   have e2 : decide ((at_ : Int) ≥ 0) = true := by simp
   have e3 := wrap64 (n := (at_ : Int) + k) (by omega)
   obtain ⟨f, hf⟩ : ∃ f, 10 - k = f + 1 := ⟨9 - k, by omega⟩
   rw [hf] at h2
   by_cases hlt : at_ + k < b.length
   · have e4 : decide ((at_ : Int) + k < b.length) = true := by simp; omega
     refine nx ?_; refine rG hN hk noc [] [0, 1, 7, 8, 23] fun K hK => ?_; simp only [go_sem, seval, e1, e2, e3, e4]; refine hK _ _ ?_
     clear hK K; refine nx ?_
     refine AW.condT rfl (AW.skip (qNext ?_))
     have e5 : ((at_ : Int) + k).toNat = at_ + k := by omega
     obtain ⟨d, hd⟩ : ∃ d, b[at_ + k]? = some d := ⟨_, List.getElem?_eq_getElem hlt⟩
     have hd8 := d.toNat_lt
     have e6 : IntKind.u64.wrap (d.toNat : Int) = d.toNat := IntWalk.u64_in _ (by omega)
     have e7 := wrap64 (n := (7 : Int) * k) (by omega)
     have e8 : ((7 : Int) * k).toNat = 7 * k := by omega
     have e9 : min (7 * k) 64 = 7 * k := by omega
     rw [getGo, hd] at h2
     simp only at h2
     refine nx ?_; refine rG hN hk noc [] [0, 1, 7, 8, 9] fun K hK => ?_; simp only [go_sem, seval, e3, e5, hd, e6]
     first | with_reducible refine hK _ _ ?_ | refine ⟨by omega, hK _ _ ?_⟩ | refine obK (hK _ _ ?_)
     clear hK K; refine nx ?_
     by_cases c1 : k = 9 ∧ 1 < d.toNat
     · rw [if_pos c1] at h2
       obtain ⟨c1, c2⟩ := c1
       have e10 : ((k : Int) == 9) = true := by simp; omega
       have e11 : decide ((d.toNat : Int) > 1) = true := by simp; omega
       refine nx ?_; refine rG hN hk noc [] [38] fun K hK => ?_; simp only [go_sem, seval, e10, e11]; refine hK _ _ ?_
       clear hK K; refine nx ?_
       refine cT ?_; refine nx ?_; refine rG hN hk noc [] [4, 5, 6] fun K hK => ?_; simp only [go_sem, seval]; refine hK _ _ ?_
       clear hK K; refine nx ?_
       refine AW.ret (mkRet [] [] rfl ?_ ?_)
       · simp [resOf, lk, wk, ← h2, getRes, U64, I, B, wkL]
       · simp [wkHp]
     · rw [if_neg c1] at h2
       have e12 : (((k : Int) == 9) && decide ((d.toNat : Int) > 1)) = false := by
         rw [Bool.and_eq_false_iff]
         simp only [beq_eq_false_iff_ne, decide_eq_false_iff_not]
         omega
       rcases bt ((k : Int) == 9) with e10 | e10
       all_goals
         rw [e10] at e12
         simp only [Bool.true_and, Bool.false_and] at e12
         refine nx ?_; refine rG hN hk noc [] [0, 1, 7, 8, 9, 38] fun K hK => ?_; simp only [go_sem, seval, e10, e12]; refine hK _ _ ?_
         clear hK K; refine nx ?_
         refine AW.condF rfl (AW.skip (qNext ?_))
         refine nx ?_; refine rG hN hk noc [] [0, 1, 7, 8, 9] fun K hK => ?_; simp only [go_sem, seval, e7, e8, e9]
         first | with_reducible refine hK _ _ ?_ | refine ⟨by omega, hK _ _ ?_⟩ | refine obK (hK _ _ ?_)
         clear hK K; refine nx ?_
         refine rG hN hk noc [] [0, 1, 7, 8, 9, 47] fun K hK => ?_; simp only [go_sem, seval]; refine hK _ _ ?_
         clear hK K; refine nx ?_
         refine AW.condB rfl (fun h => ?_) (fun h => AW.skip (qBlock (qNext ?_)))
         · simp only [decide_eq_true_eq] at h
           rw [if_pos (by omega)] at h2
           by_cases c3 : 0 < k ∧ d.toNat = 0
           · rw [if_pos c3] at h2
             have e13 : decide ((k : Int) > 0) = true := by simp; omega
             have e14 : ((d.toNat : Int) == 0) = true := by simp; omega
             refine nx ?_; refine rG hN hk noc [] [53] fun K hK => ?_; simp only [go_sem, seval, e13, e14]; refine hK _ _ ?_
             clear hK K; refine nx ?_
             refine cT ?_; refine nx ?_; refine rG hN hk noc [] [4, 5, 6] fun K hK => ?_; simp only [go_sem, seval]; refine hK _ _ ?_
             clear hK K; refine nx ?_
             refine AW.ret (mkRet [] [] rfl ?_ ?_)
             · simp [resOf, lk, wk, ← h2, getRes, U64, I, B, wkL]
             · simp [wkHp]
           · rw [if_neg c3] at h2
             have e15 : (decide ((k : Int) > 0) && ((d.toNat : Int) == 0)) = false := by
               rw [Bool.and_eq_false_iff]
               simp only [beq_eq_false_iff_ne, decide_eq_false_iff_not]
               omega
             rcases bt (decide ((k : Int) > 0)) with e13 | e13
             all_goals
               rw [e13] at e15
               simp only [Bool.true_and, Bool.false_and] at e15
               refine nx ?_; refine rG hN hk noc [] [0, 1, 7, 8, 53] fun K hK => ?_; simp only [go_sem, seval, e13, e15]; refine hK _ _ ?_
               clear hK K; refine nx ?_
               refine AW.condF rfl (AW.skip (qNext ?_))
               refine nx ?_; refine rG hN hk noc [] [4, 5, 6] fun K hK => ?_; simp only [go_sem, seval, e3, wrap64 (n := (at_ : Int) + k + 1) (by omega)]
               refine hK _ _ ?_; clear hK K; refine nx ?_
               refine AW.ret (mkRet [] [] rfl ?_ ?_)
               · simp [resOf, lk, wk, ← h2, getRes, U64, I, B, wkL]
               · simp [wkHp]
         · simp only [decide_eq_false_iff_not] at h
           rw [if_neg (by omega)] at h2
           refine nx ?_; refine rG hN hk noc [] [0, 1, 7, 8] fun K hK => ?_; simp only [go_sem, seval, wrap64 (n := (k : Int) + 1) (by omega)]
           refine hK _ _ ?_; clear hK K; refine nx ?_
           refine ⟨(k + 1, _), ⟨by omega, ?_⟩, by simp; omega, ⟨[], [], ⟨by simp [srcIds], by simp [srcIds], by simp⟩, by simp, by simp [wkEnv, wk, lk, I, U64]; rfl, by simp [wkHp]⟩⟩
           rw [← h2]
           simp only
           congr 1
           omega
   · rw [getGo, List.getElem?_eq_none (by omega)] at h2
     have e4 : decide ((at_ : Int) + k < b.length) = false := by simp; omega
     refine nx ?_; refine rG hN hk noc [] [0, 1, 7, 8, 23] fun K hK => ?_; simp only [go_sem, seval, e1, e2, e3, e4]; refine hK _ _ ?_
     clear hK K; refine nx ?_
     refine cF ?_
     refine AW.exit (qThen (qThen (qHere (qNext ?_))))
     refine nx ?_; refine rG hN hk noc [] [4, 5, 6] fun K hK => ?_; simp only [go_sem, seval]; refine hK _ _ ?_
     clear hK K; refine nx ?_
     refine AW.ret (mkRet [] [] rfl ?_ ?_)
     · simp [resOf, lk, wk, ← h2, getRes, U64, I, B, wkL]
     · simp [wkHp]
 · have e1 : decide ((k : Int) < 10) = false := by simp; omega
   obtain rfl : k = 10 := by omega
   rw [getGo] at h2
   refine nx ?_; refine rG hN hk noc [] [0, 1, 7, 8, 23] fun K hK => ?_; simp only [go_sem, seval, e1]; refine hK _ _ ?_
   clear hK K; refine nx ?_
   refine cF ?_
   refine AW.exit (qThen (qThen (qHere (qNext ?_))))
   refine nx ?_; refine rG hN hk noc [] [4, 5, 6] fun K hK => ?_; simp only [go_sem, seval]; refine hK _ _ ?_
   clear hK K; refine nx ?_
   refine AW.ret (mkRet [] [] rfl ?_ ?_)
   · simp [resOf, lk, wk, ← h2, getRes, U64, I, B, wkL]
   · simp [wkHp]
end Go.Proofs.YtceeklfmlheofaaGreat
