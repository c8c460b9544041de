/-
  Part 22 of the proof that logtidelaw45.ConsoleAnswer returns true for every list of bytes and every text, and leaves both as they were.
-/
import Derived.Test.YtffchapiaampmaaGreatDoorA08
import Derived.Test.YtffchapiaampmaaGreatDoorProg
import Derived.KernelRfl
set_option linter.unusedSimpArgs false
set_option linter.unusedVariables false
namespace Go.Proofs.YtffchapiaampmaaGreatDoor
open Go.Av
@[go_sem] theorem T2 : tabOf Tryz.prog 2 = some ⟨1, 8, (.int .i64), [.int .i64 0]⟩ := by kernel_rfl
@[go_sem] theorem D2 : descOf (tabOf Tryz.prog) 2 = some (.int .i64) := by kernel_rfl
@[go_sem] theorem T3 : tabOf Tryz.prog 3 = some ⟨1, 8, (.int .i64), [.int .i64 0]⟩ := by kernel_rfl
@[go_sem] theorem D3 : descOf (tabOf Tryz.prog) 3 = some (.int .i64) := by kernel_rfl
@[go_sem] theorem T4 : tabOf Tryz.prog 4 = some ⟨1, 1, .bool, [.bool false]⟩ := by kernel_rfl
@[go_sem] theorem D4 : descOf (tabOf Tryz.prog) 4 = some .bool := by kernel_rfl
@[go_sem] theorem T5 : tabOf Tryz.prog 5 = some ⟨1, 1, (.int .u8), [.int .u8 0]⟩ := by kernel_rfl
@[go_sem] theorem D5 : descOf (tabOf Tryz.prog) 5 = some (.int .u8) := by kernel_rfl
@[go_sem] theorem U5 : isU8 (tabOf Tryz.prog) 5 = true := by kernel_rfl
@[go_sem] theorem T6 : tabOf Tryz.prog 6 = some ⟨1, 1, (.int .u8), [.int .u8 0]⟩ := by kernel_rfl
@[go_sem] theorem D6 : descOf (tabOf Tryz.prog) 6 = some (.int .u8) := by kernel_rfl
@[go_sem] theorem U6 : isU8 (tabOf Tryz.prog) 6 = true := by kernel_rfl
@[go_sem] theorem T7 : tabOf Tryz.prog 7 = some ⟨4, 24, dsc Tryz.prog 7, [.int .i64 0, .int .i64 0, .bool false, .int .u8 0]⟩ := by kernel_rfl
@[go_sem] theorem A7 : aggD (dsc Tryz.prog 7) = true := by kernel_rfl
@[go_sem] theorem S7 : isStruct (dsc Tryz.prog 7) = true := by kernel_rfl
@[go_sem] theorem F7_0 : fieldOf (tabOf Tryz.prog) 7 0 = some (0, ⟨1, 8, (.int .i64), [.int .i64 0]⟩) := by kernel_rfl
@[go_sem] theorem F7_1 : fieldOf (tabOf Tryz.prog) 7 1 = some (1, ⟨1, 8, (.int .i64), [.int .i64 0]⟩) := by kernel_rfl
@[go_sem] theorem F7_2 : fieldOf (tabOf Tryz.prog) 7 2 = some (2, ⟨1, 1, .bool, [.bool false]⟩) := by kernel_rfl
@[go_sem] theorem F7_3 : fieldOf (tabOf Tryz.prog) 7 3 = some (3, ⟨1, 1, (.int .u8), [.int .u8 0]⟩) := by kernel_rfl
@[go_sem] theorem T8 : tabOf Tryz.prog 8 = some ⟨4, 24, dsc Tryz.prog 8, [.int .i64 0, .int .i64 0, .bool false, .int .u8 0]⟩ := by kernel_rfl
@[go_sem] theorem A8 : aggD (dsc Tryz.prog 8) = true := by kernel_rfl
@[go_sem] theorem S8 : isStruct (dsc Tryz.prog 8) = true := by kernel_rfl
@[go_sem] theorem F8_0 : fieldOf (tabOf Tryz.prog) 8 0 = some (0, ⟨1, 8, (.int .i64), [.int .i64 0]⟩) := by kernel_rfl
@[go_sem] theorem F8_1 : fieldOf (tabOf Tryz.prog) 8 1 = some (1, ⟨1, 8, (.int .i64), [.int .i64 0]⟩) := by kernel_rfl
@[go_sem] theorem F8_2 : fieldOf (tabOf Tryz.prog) 8 2 = some (2, ⟨1, 1, .bool, [.bool false]⟩) := by kernel_rfl
@[go_sem] theorem F8_3 : fieldOf (tabOf Tryz.prog) 8 3 = some (3, ⟨1, 1, (.int .u8), [.int .u8 0]⟩) := by kernel_rfl
@[go_sem] theorem T9 : tabOf Tryz.prog 9 = some ⟨1, 16, .string, [.string ⟨#[]⟩]⟩ := by kernel_rfl
@[go_sem] theorem D9 : descOf (tabOf Tryz.prog) 9 = some .string := by kernel_rfl
@[go_sem] theorem T10 : tabOf Tryz.prog 10 = some ⟨1, 16, .string, [.string ⟨#[]⟩]⟩ := by kernel_rfl
@[go_sem] theorem D10 : descOf (tabOf Tryz.prog) 10 = some .string := by kernel_rfl
@[go_sem] theorem T11 : tabOf Tryz.prog 11 = some ⟨1, 16, .string, [.string ⟨#[]⟩]⟩ := by kernel_rfl
@[go_sem] theorem D11 : descOf (tabOf Tryz.prog) 11 = some .string := by kernel_rfl
@[go_sem] theorem T12 : tabOf Tryz.prog 12 = some ⟨1, 8, (.int .u64), [.int .u64 0]⟩ := by kernel_rfl
@[go_sem] theorem D12 : descOf (tabOf Tryz.prog) 12 = some (.int .u64) := by kernel_rfl
@[go_sem] theorem T13 : tabOf Tryz.prog 13 = some ⟨2, 24, dsc Tryz.prog 13, [.string ⟨#[]⟩, .int .u64 0]⟩ := by kernel_rfl
@[go_sem] theorem A13 : aggD (dsc Tryz.prog 13) = true := by kernel_rfl
@[go_sem] theorem S13 : isStruct (dsc Tryz.prog 13) = true := by kernel_rfl
@[go_sem] theorem F13_0 : fieldOf (tabOf Tryz.prog) 13 0 = some (0, ⟨1, 16, .string, [.string ⟨#[]⟩]⟩) := by kernel_rfl
@[go_sem] theorem F13_1 : fieldOf (tabOf Tryz.prog) 13 1 = some (1, ⟨1, 8, (.int .u64), [.int .u64 0]⟩) := by kernel_rfl
@[go_sem] theorem T14 : tabOf Tryz.prog 14 = some ⟨2, 24, dsc Tryz.prog 14, [.string ⟨#[]⟩, .int .u64 0]⟩ := by kernel_rfl
@[go_sem] theorem A14 : aggD (dsc Tryz.prog 14) = true := by kernel_rfl
@[go_sem] theorem S14 : isStruct (dsc Tryz.prog 14) = true := by kernel_rfl
@[go_sem] theorem F14_0 : fieldOf (tabOf Tryz.prog) 14 0 = some (0, ⟨1, 16, .string, [.string ⟨#[]⟩]⟩) := by kernel_rfl
@[go_sem] theorem F14_1 : fieldOf (tabOf Tryz.prog) 14 1 = some (1, ⟨1, 8, (.int .u64), [.int .u64 0]⟩) := by kernel_rfl
@[go_sem] theorem T15 : tabOf Tryz.prog 15 = some ⟨1, 8, (.pointer 244), [.pointer none]⟩ := by kernel_rfl
@[go_sem] theorem D15 : descOf (tabOf Tryz.prog) 15 = some (.pointer 244) := by kernel_rfl
@[go_sem] theorem T16 : tabOf Tryz.prog 16 = some ⟨1, 8, (.pointer 247), [.pointer none]⟩ := by kernel_rfl
@[go_sem] theorem D16 : descOf (tabOf Tryz.prog) 16 = some (.pointer 247) := by kernel_rfl
@[go_sem] theorem T17 : tabOf Tryz.prog 17 = some ⟨1, 8, (.pointer 254), [.pointer none]⟩ := by kernel_rfl
@[go_sem] theorem D17 : descOf (tabOf Tryz.prog) 17 = some (.pointer 254) := by kernel_rfl
@[go_sem] theorem T18 : tabOf Tryz.prog 18 = some ⟨1, 8, dsc Tryz.prog 18, [.pointer none]⟩ := by kernel_rfl
@[go_sem] theorem A18 : aggD (dsc Tryz.prog 18) = true := by kernel_rfl
@[go_sem] theorem S18 : isStruct (dsc Tryz.prog 18) = true := by kernel_rfl
@[go_sem] theorem F18_0 : fieldOf (tabOf Tryz.prog) 18 0 = some (0, ⟨1, 8, (.pointer 254), [.pointer none]⟩) := by kernel_rfl
@[go_sem] theorem T19 : tabOf Tryz.prog 19 = some ⟨1, 8, dsc Tryz.prog 19, [.pointer none]⟩ := by kernel_rfl
@[go_sem] theorem A19 : aggD (dsc Tryz.prog 19) = true := by kernel_rfl
@[go_sem] theorem S19 : isStruct (dsc Tryz.prog 19) = true := by kernel_rfl
@[go_sem] theorem F19_0 : fieldOf (tabOf Tryz.prog) 19 0 = some (0, ⟨1, 8, (.pointer 254), [.pointer none]⟩) := by kernel_rfl
@[go_sem] theorem T21 : tabOf Tryz.prog 21 = some ⟨1, 4, (.int .i32), [.int .i32 0]⟩ := by kernel_rfl
@[go_sem] theorem D21 : descOf (tabOf Tryz.prog) 21 = some (.int .i32) := by kernel_rfl
@[go_sem] theorem T22 : tabOf Tryz.prog 22 = some ⟨1, 24, (.slice 5), [.slice none 0 0]⟩ := by kernel_rfl
@[go_sem] theorem D22 : descOf (tabOf Tryz.prog) 22 = some (.slice 5) := by kernel_rfl
@[go_sem] theorem E22 : Av.elemOf (tabOf Tryz.prog) 22 = some (5, ⟨1, 1, (.int .u8), [.int .u8 0]⟩) := by kernel_rfl
@[go_sem] theorem T24 : tabOf Tryz.prog 24 = some ⟨1, 8, (.pointer 48), [.pointer none]⟩ := by kernel_rfl
@[go_sem] theorem D24 : descOf (tabOf Tryz.prog) 24 = some (.pointer 48) := by kernel_rfl
@[go_sem] theorem T26 : tabOf Tryz.prog 26 = some ⟨1, 24, (.slice 28), [.slice none 0 0]⟩ := by kernel_rfl
@[go_sem] theorem D26 : descOf (tabOf Tryz.prog) 26 = some (.slice 28) := by kernel_rfl
@[go_sem] theorem E26 : Av.elemOf (tabOf Tryz.prog) 26 = some (28, ⟨5, 72, dsc Tryz.prog 28, [.int .i64 0, .string ⟨#[]⟩, .string ⟨#[]⟩, .int .i64 0, .slice none 0 0]⟩) := by kernel_rfl
@[go_sem] theorem T27 : tabOf Tryz.prog 27 = some ⟨5, 72, dsc Tryz.prog 27, [.int .i64 0, .string ⟨#[]⟩, .string ⟨#[]⟩, .int .i64 0, .slice none 0 0]⟩ := by kernel_rfl
@[go_sem] theorem A27 : aggD (dsc Tryz.prog 27) = true := by kernel_rfl
@[go_sem] theorem S27 : isStruct (dsc Tryz.prog 27) = true := by kernel_rfl
@[go_sem] theorem F27_0 : fieldOf (tabOf Tryz.prog) 27 0 = some (0, ⟨1, 8, (.int .i64), [.int .i64 0]⟩) := by kernel_rfl
@[go_sem] theorem F27_1 : fieldOf (tabOf Tryz.prog) 27 1 = some (1, ⟨1, 16, .string, [.string ⟨#[]⟩]⟩) := by kernel_rfl
@[go_sem] theorem F27_2 : fieldOf (tabOf Tryz.prog) 27 2 = some (2, ⟨1, 16, .string, [.string ⟨#[]⟩]⟩) := by kernel_rfl
@[go_sem] theorem F27_3 : fieldOf (tabOf Tryz.prog) 27 3 = some (3, ⟨1, 8, (.int .i64), [.int .i64 0]⟩) := by kernel_rfl
@[go_sem] theorem F27_4 : fieldOf (tabOf Tryz.prog) 27 4 = some (4, ⟨1, 24, (.slice 28), [.slice none 0 0]⟩) := by kernel_rfl
@[go_sem] theorem T28 : tabOf Tryz.prog 28 = some ⟨5, 72, dsc Tryz.prog 28, [.int .i64 0, .string ⟨#[]⟩, .string ⟨#[]⟩, .int .i64 0, .slice none 0 0]⟩ := by kernel_rfl
@[go_sem] theorem A28 : aggD (dsc Tryz.prog 28) = true := by kernel_rfl
@[go_sem] theorem S28 : isStruct (dsc Tryz.prog 28) = true := by kernel_rfl
@[go_sem] theorem F28_0 : fieldOf (tabOf Tryz.prog) 28 0 = some (0, ⟨1, 8, (.int .i64), [.int .i64 0]⟩) := by kernel_rfl
@[go_sem] theorem F28_1 : fieldOf (tabOf Tryz.prog) 28 1 = some (1, ⟨1, 16, .string, [.string ⟨#[]⟩]⟩) := by kernel_rfl
@[go_sem] theorem F28_2 : fieldOf (tabOf Tryz.prog) 28 2 = some (2, ⟨1, 16, .string, [.string ⟨#[]⟩]⟩) := by kernel_rfl
@[go_sem] theorem F28_3 : fieldOf (tabOf Tryz.prog) 28 3 = some (3, ⟨1, 8, (.int .i64), [.int .i64 0]⟩) := by kernel_rfl
@[go_sem] theorem F28_4 : fieldOf (tabOf Tryz.prog) 28 4 = some (4, ⟨1, 24, (.slice 28), [.slice none 0 0]⟩) := by kernel_rfl
@[go_sem] theorem T29 : tabOf Tryz.prog 29 = some ⟨1, 24, (.slice 52), [.slice none 0 0]⟩ := by kernel_rfl
@[go_sem] theorem D29 : descOf (tabOf Tryz.prog) 29 = some (.slice 52) := by kernel_rfl
@[go_sem] theorem E29 : Av.elemOf (tabOf Tryz.prog) 29 = some (52, ⟨7, 96, dsc Tryz.prog 52, [.bool false, .string ⟨#[]⟩, .int .i64 0, .string ⟨#[]⟩, .string ⟨#[]⟩, .int .i64 0, .slice none 0 0]⟩) := by kernel_rfl
@[go_sem] theorem T30 : tabOf Tryz.prog 30 = some ⟨1, 24, (.slice 9), [.slice none 0 0]⟩ := by kernel_rfl
@[go_sem] theorem D30 : descOf (tabOf Tryz.prog) 30 = some (.slice 9) := by kernel_rfl
@[go_sem] theorem E30 : Av.elemOf (tabOf Tryz.prog) 30 = some (9, ⟨1, 16, .string, [.string ⟨#[]⟩]⟩) := by kernel_rfl
@[go_sem] theorem T31 : tabOf Tryz.prog 31 = some ⟨1, 24, (.slice 55), [.slice none 0 0]⟩ := by kernel_rfl
@[go_sem] theorem D31 : descOf (tabOf Tryz.prog) 31 = some (.slice 55) := by kernel_rfl
@[go_sem] theorem E31 : Av.elemOf (tabOf Tryz.prog) 31 = some (55, ⟨2, 24, dsc Tryz.prog 55, [.int .i64 0, .string ⟨#[]⟩]⟩) := by kernel_rfl
@[go_sem] theorem T32 : tabOf Tryz.prog 32 = some ⟨19, 272, dsc Tryz.prog 32, [.int .i64 0, .string ⟨#[]⟩, .string ⟨#[]⟩, .int .i64 0, .slice none 0 0, .slice none 0 0, .int .i64 0, .int .i64 0, .bool false, .slice none 0 0, .slice none 0 0, .int .i64 0, .int .i64 0, .string ⟨#[]⟩, .string ⟨#[]⟩, .int .i64 0, .slice none 0 0, .string ⟨#[]⟩, .int .i64 0]⟩ := by kernel_rfl
@[go_sem] theorem A32 : aggD (dsc Tryz.prog 32) = true := by kernel_rfl
@[go_sem] theorem S32 : isStruct (dsc Tryz.prog 32) = true := by kernel_rfl
@[go_sem] theorem F32_0 : fieldOf (tabOf Tryz.prog) 32 0 = some (0, ⟨5, 72, dsc Tryz.prog 28, [.int .i64 0, .string ⟨#[]⟩, .string ⟨#[]⟩, .int .i64 0, .slice none 0 0]⟩) := by kernel_rfl
@[go_sem] theorem F32_1 : fieldOf (tabOf Tryz.prog) 32 1 = some (5, ⟨1, 24, (.slice 52), [.slice none 0 0]⟩) := by kernel_rfl
@[go_sem] theorem F32_2 : fieldOf (tabOf Tryz.prog) 32 2 = some (6, ⟨1, 8, (.int .i64), [.int .i64 0]⟩) := by kernel_rfl
@[go_sem] theorem F32_3 : fieldOf (tabOf Tryz.prog) 32 3 = some (7, ⟨1, 8, (.int .i64), [.int .i64 0]⟩) := by kernel_rfl
@[go_sem] theorem F32_4 : fieldOf (tabOf Tryz.prog) 32 4 = some (8, ⟨1, 1, .bool, [.bool false]⟩) := by kernel_rfl
@[go_sem] theorem F32_5 : fieldOf (tabOf Tryz.prog) 32 5 = some (9, ⟨1, 24, (.slice 9), [.slice none 0 0]⟩) := by kernel_rfl
@[go_sem] theorem F32_6 : fieldOf (tabOf Tryz.prog) 32 6 = some (10, ⟨1, 24, (.slice 55), [.slice none 0 0]⟩) := by kernel_rfl
@[go_sem] theorem F32_7 : fieldOf (tabOf Tryz.prog) 32 7 = some (11, ⟨1, 8, (.int .i64), [.int .i64 0]⟩) := by kernel_rfl
@[go_sem] theorem F32_8 : fieldOf (tabOf Tryz.prog) 32 8 = some (12, ⟨5, 72, dsc Tryz.prog 28, [.int .i64 0, .string ⟨#[]⟩, .string ⟨#[]⟩, .int .i64 0, .slice none 0 0]⟩) := by kernel_rfl
@[go_sem] theorem F32_9 : fieldOf (tabOf Tryz.prog) 32 9 = some (17, ⟨1, 16, .string, [.string ⟨#[]⟩]⟩) := by kernel_rfl
@[go_sem] theorem F32_10 : fieldOf (tabOf Tryz.prog) 32 10 = some (18, ⟨1, 8, (.int .i64), [.int .i64 0]⟩) := by kernel_rfl
@[go_sem] theorem T33 : tabOf Tryz.prog 33 = some ⟨19, 272, dsc Tryz.prog 33, [.int .i64 0, .string ⟨#[]⟩, .string ⟨#[]⟩, .int .i64 0, .slice none 0 0, .slice none 0 0, .int .i64 0, .int .i64 0, .bool false, .slice none 0 0, .slice none 0 0, .int .i64 0, .int .i64 0, .string ⟨#[]⟩, .string ⟨#[]⟩, .int .i64 0, .slice none 0 0, .string ⟨#[]⟩, .int .i64 0]⟩ := by kernel_rfl
@[go_sem] theorem A33 : aggD (dsc Tryz.prog 33) = true := by kernel_rfl
@[go_sem] theorem S33 : isStruct (dsc Tryz.prog 33) = true := by kernel_rfl
@[go_sem] theorem F33_0 : fieldOf (tabOf Tryz.prog) 33 0 = some (0, ⟨5, 72, dsc Tryz.prog 28, [.int .i64 0, .string ⟨#[]⟩, .string ⟨#[]⟩, .int .i64 0, .slice none 0 0]⟩) := by kernel_rfl
@[go_sem] theorem F33_1 : fieldOf (tabOf Tryz.prog) 33 1 = some (5, ⟨1, 24, (.slice 52), [.slice none 0 0]⟩) := by kernel_rfl
@[go_sem] theorem F33_2 : fieldOf (tabOf Tryz.prog) 33 2 = some (6, ⟨1, 8, (.int .i64), [.int .i64 0]⟩) := by kernel_rfl
@[go_sem] theorem F33_3 : fieldOf (tabOf Tryz.prog) 33 3 = some (7, ⟨1, 8, (.int .i64), [.int .i64 0]⟩) := by kernel_rfl
@[go_sem] theorem F33_4 : fieldOf (tabOf Tryz.prog) 33 4 = some (8, ⟨1, 1, .bool, [.bool false]⟩) := by kernel_rfl
@[go_sem] theorem F33_5 : fieldOf (tabOf Tryz.prog) 33 5 = some (9, ⟨1, 24, (.slice 9), [.slice none 0 0]⟩) := by kernel_rfl
@[go_sem] theorem F33_6 : fieldOf (tabOf Tryz.prog) 33 6 = some (10, ⟨1, 24, (.slice 55), [.slice none 0 0]⟩) := by kernel_rfl
@[go_sem] theorem F33_7 : fieldOf (tabOf Tryz.prog) 33 7 = some (11, ⟨1, 8, (.int .i64), [.int .i64 0]⟩) := by kernel_rfl
@[go_sem] theorem F33_8 : fieldOf (tabOf Tryz.prog) 33 8 = some (12, ⟨5, 72, dsc Tryz.prog 28, [.int .i64 0, .string ⟨#[]⟩, .string ⟨#[]⟩, .int .i64 0, .slice none 0 0]⟩) := by kernel_rfl
@[go_sem] theorem F33_9 : fieldOf (tabOf Tryz.prog) 33 9 = some (17, ⟨1, 16, .string, [.string ⟨#[]⟩]⟩) := by kernel_rfl
@[go_sem] theorem F33_10 : fieldOf (tabOf Tryz.prog) 33 10 = some (18, ⟨1, 8, (.int .i64), [.int .i64 0]⟩) := by kernel_rfl
@[go_sem] theorem T35 : tabOf Tryz.prog 35 = some ⟨1, 24, (.slice 62), [.slice none 0 0]⟩ := by kernel_rfl
@[go_sem] theorem D35 : descOf (tabOf Tryz.prog) 35 = some (.slice 62) := by kernel_rfl
@[go_sem] theorem E35 : Av.elemOf (tabOf Tryz.prog) 35 = some (62, ⟨10, 128, dsc Tryz.prog 62, [.int .i64 0, .int .i64 0, .int .i64 0, .int .i64 0, .slice none 0 0, .int .i64 0, .int .i64 0, .string ⟨#[]⟩, .string ⟨#[]⟩, .slice none 0 0]⟩) := by kernel_rfl
@[go_sem] theorem T37 : tabOf Tryz.prog 37 = some ⟨1, 24, (.slice 80), [.slice none 0 0]⟩ := by kernel_rfl
@[go_sem] theorem D37 : descOf (tabOf Tryz.prog) 37 = some (.slice 80) := by kernel_rfl
@[go_sem] theorem E37 : Av.elemOf (tabOf Tryz.prog) 37 = some (80, ⟨3, 56, dsc Tryz.prog 80, [.slice none 0 0, .slice none 0 0, .int .i64 0]⟩) := by kernel_rfl
@[go_sem] theorem T38 : tabOf Tryz.prog 38 = some ⟨1, 24, (.slice 83), [.slice none 0 0]⟩ := by kernel_rfl
@[go_sem] theorem D38 : descOf (tabOf Tryz.prog) 38 = some (.slice 83) := by kernel_rfl
@[go_sem] theorem E38 : Av.elemOf (tabOf Tryz.prog) 38 = some (83, ⟨20, 256, dsc Tryz.prog 83, [.int .i64 0, .int .i64 0, .int .i64 0, .int .i64 0, .slice none 0 0, .int .i64 0, .int .i64 0, .string ⟨#[]⟩, .string ⟨#[]⟩, .slice none 0 0, .int .i64 0, .int .i64 0, .int .i64 0, .int .i64 0, .slice none 0 0, .int .i64 0, .int .i64 0, .string ⟨#[]⟩, .string ⟨#[]⟩, .slice none 0 0]⟩) := by kernel_rfl
@[go_sem] theorem T39 : tabOf Tryz.prog 39 = some ⟨3, 72, dsc Tryz.prog 39, [.slice none 0 0, .slice none 0 0, .slice none 0 0]⟩ := by kernel_rfl
@[go_sem] theorem A39 : aggD (dsc Tryz.prog 39) = true := by kernel_rfl
@[go_sem] theorem S39 : isStruct (dsc Tryz.prog 39) = true := by kernel_rfl
@[go_sem] theorem F39_0 : fieldOf (tabOf Tryz.prog) 39 0 = some (0, ⟨1, 24, (.slice 62), [.slice none 0 0]⟩) := by kernel_rfl
@[go_sem] theorem F39_1 : fieldOf (tabOf Tryz.prog) 39 1 = some (1, ⟨1, 24, (.slice 80), [.slice none 0 0]⟩) := by kernel_rfl
@[go_sem] theorem F39_2 : fieldOf (tabOf Tryz.prog) 39 2 = some (2, ⟨1, 24, (.slice 83), [.slice none 0 0]⟩) := by kernel_rfl
@[go_sem] theorem T40 : tabOf Tryz.prog 40 = some ⟨3, 72, dsc Tryz.prog 40, [.slice none 0 0, .slice none 0 0, .slice none 0 0]⟩ := by kernel_rfl
@[go_sem] theorem A40 : aggD (dsc Tryz.prog 40) = true := by kernel_rfl
@[go_sem] theorem S40 : isStruct (dsc Tryz.prog 40) = true := by kernel_rfl
@[go_sem] theorem F40_0 : fieldOf (tabOf Tryz.prog) 40 0 = some (0, ⟨1, 24, (.slice 62), [.slice none 0 0]⟩) := by kernel_rfl
@[go_sem] theorem F40_1 : fieldOf (tabOf Tryz.prog) 40 1 = some (1, ⟨1, 24, (.slice 80), [.slice none 0 0]⟩) := by kernel_rfl
@[go_sem] theorem F40_2 : fieldOf (tabOf Tryz.prog) 40 2 = some (2, ⟨1, 24, (.slice 83), [.slice none 0 0]⟩) := by kernel_rfl
@[go_sem] theorem T41 : tabOf Tryz.prog 41 = some ⟨1, 8, (.int .i64), [.int .i64 0]⟩ := by kernel_rfl
@[go_sem] theorem D41 : descOf (tabOf Tryz.prog) 41 = some (.int .i64) := by kernel_rfl
@[go_sem] theorem T47 : tabOf Tryz.prog 47 = some ⟨2, 32, dsc Tryz.prog 47, [.slice none 0 0, .int .i64 0]⟩ := by kernel_rfl
@[go_sem] theorem A47 : aggD (dsc Tryz.prog 47) = true := by kernel_rfl
@[go_sem] theorem S47 : isStruct (dsc Tryz.prog 47) = true := by kernel_rfl
@[go_sem] theorem F47_0 : fieldOf (tabOf Tryz.prog) 47 0 = some (0, ⟨1, 24, (.slice 5), [.slice none 0 0]⟩) := by kernel_rfl
@[go_sem] theorem F47_1 : fieldOf (tabOf Tryz.prog) 47 1 = some (1, ⟨1, 8, (.int .i64), [.int .i64 0]⟩) := by kernel_rfl
@[go_sem] theorem T48 : tabOf Tryz.prog 48 = some ⟨2, 32, dsc Tryz.prog 48, [.slice none 0 0, .int .i64 0]⟩ := by kernel_rfl
@[go_sem] theorem A48 : aggD (dsc Tryz.prog 48) = true := by kernel_rfl
@[go_sem] theorem S48 : isStruct (dsc Tryz.prog 48) = true := by kernel_rfl
@[go_sem] theorem F48_0 : fieldOf (tabOf Tryz.prog) 48 0 = some (0, ⟨1, 24, (.slice 5), [.slice none 0 0]⟩) := by kernel_rfl
@[go_sem] theorem F48_1 : fieldOf (tabOf Tryz.prog) 48 1 = some (1, ⟨1, 8, (.int .i64), [.int .i64 0]⟩) := by kernel_rfl
@[go_sem] theorem T51 : tabOf Tryz.prog 51 = some ⟨7, 96, dsc Tryz.prog 51, [.bool false, .string ⟨#[]⟩, .int .i64 0, .string ⟨#[]⟩, .string ⟨#[]⟩, .int .i64 0, .slice none 0 0]⟩ := by kernel_rfl
@[go_sem] theorem A51 : aggD (dsc Tryz.prog 51) = true := by kernel_rfl
@[go_sem] theorem S51 : isStruct (dsc Tryz.prog 51) = true := by kernel_rfl
@[go_sem] theorem F51_0 : fieldOf (tabOf Tryz.prog) 51 0 = some (0, ⟨1, 1, .bool, [.bool false]⟩) := by kernel_rfl
@[go_sem] theorem F51_1 : fieldOf (tabOf Tryz.prog) 51 1 = some (1, ⟨1, 16, .string, [.string ⟨#[]⟩]⟩) := by kernel_rfl
@[go_sem] theorem F51_2 : fieldOf (tabOf Tryz.prog) 51 2 = some (2, ⟨5, 72, dsc Tryz.prog 28, [.int .i64 0, .string ⟨#[]⟩, .string ⟨#[]⟩, .int .i64 0, .slice none 0 0]⟩) := by kernel_rfl
@[go_sem] theorem T52 : tabOf Tryz.prog 52 = some ⟨7, 96, dsc Tryz.prog 52, [.bool false, .string ⟨#[]⟩, .int .i64 0, .string ⟨#[]⟩, .string ⟨#[]⟩, .int .i64 0, .slice none 0 0]⟩ := by kernel_rfl
@[go_sem] theorem A52 : aggD (dsc Tryz.prog 52) = true := by kernel_rfl
@[go_sem] theorem S52 : isStruct (dsc Tryz.prog 52) = true := by kernel_rfl
@[go_sem] theorem F52_0 : fieldOf (tabOf Tryz.prog) 52 0 = some (0, ⟨1, 1, .bool, [.bool false]⟩) := by kernel_rfl
@[go_sem] theorem F52_1 : fieldOf (tabOf Tryz.prog) 52 1 = some (1, ⟨1, 16, .string, [.string ⟨#[]⟩]⟩) := by kernel_rfl
@[go_sem] theorem F52_2 : fieldOf (tabOf Tryz.prog) 52 2 = some (2, ⟨5, 72, dsc Tryz.prog 28, [.int .i64 0, .string ⟨#[]⟩, .string ⟨#[]⟩, .int .i64 0, .slice none 0 0]⟩) := by kernel_rfl
@[go_sem] theorem T54 : tabOf Tryz.prog 54 = some ⟨2, 24, dsc Tryz.prog 54, [.int .i64 0, .string ⟨#[]⟩]⟩ := by kernel_rfl
@[go_sem] theorem A54 : aggD (dsc Tryz.prog 54) = true := by kernel_rfl
@[go_sem] theorem S54 : isStruct (dsc Tryz.prog 54) = true := by kernel_rfl
@[go_sem] theorem F54_0 : fieldOf (tabOf Tryz.prog) 54 0 = some (0, ⟨1, 8, (.int .i64), [.int .i64 0]⟩) := by kernel_rfl
@[go_sem] theorem F54_1 : fieldOf (tabOf Tryz.prog) 54 1 = some (1, ⟨1, 16, .string, [.string ⟨#[]⟩]⟩) := by kernel_rfl
@[go_sem] theorem T55 : tabOf Tryz.prog 55 = some ⟨2, 24, dsc Tryz.prog 55, [.int .i64 0, .string ⟨#[]⟩]⟩ := by kernel_rfl
@[go_sem] theorem A55 : aggD (dsc Tryz.prog 55) = true := by kernel_rfl
@[go_sem] theorem S55 : isStruct (dsc Tryz.prog 55) = true := by kernel_rfl
@[go_sem] theorem F55_0 : fieldOf (tabOf Tryz.prog) 55 0 = some (0, ⟨1, 8, (.int .i64), [.int .i64 0]⟩) := by kernel_rfl
@[go_sem] theorem F55_1 : fieldOf (tabOf Tryz.prog) 55 1 = some (1, ⟨1, 16, .string, [.string ⟨#[]⟩]⟩) := by kernel_rfl
@[go_sem] theorem T56 : tabOf Tryz.prog 56 = some ⟨1, 24, (.slice 58), [.slice none 0 0]⟩ := by kernel_rfl
@[go_sem] theorem D56 : descOf (tabOf Tryz.prog) 56 = some (.slice 58) := by kernel_rfl
@[go_sem] theorem E56 : Av.elemOf (tabOf Tryz.prog) 56 = some (58, ⟨1, 24, (.slice 64), [.slice none 0 0]⟩) := by kernel_rfl
@[go_sem] theorem T58 : tabOf Tryz.prog 58 = some ⟨1, 24, (.slice 64), [.slice none 0 0]⟩ := by kernel_rfl
@[go_sem] theorem D58 : descOf (tabOf Tryz.prog) 58 = some (.slice 64) := by kernel_rfl
@[go_sem] theorem E58 : Av.elemOf (tabOf Tryz.prog) 58 = some (64, ⟨11, 144, dsc Tryz.prog 64, [.string ⟨#[]⟩, .int .i64 0, .int .i64 0, .int .i64 0, .int .i64 0, .slice none 0 0, .int .i64 0, .int .i64 0, .string ⟨#[]⟩, .string ⟨#[]⟩, .slice none 0 0]⟩) := by kernel_rfl
@[go_sem] theorem T59 : tabOf Tryz.prog 59 = some ⟨1, 24, (.slice 111), [.slice none 0 0]⟩ := by kernel_rfl
@[go_sem] theorem D59 : descOf (tabOf Tryz.prog) 59 = some (.slice 111) := by kernel_rfl
@[go_sem] theorem E59 : Av.elemOf (tabOf Tryz.prog) 59 = some (111, ⟨3, 32, dsc Tryz.prog 111, [.int .i64 0, .int .i64 0, .string ⟨#[]⟩]⟩) := by kernel_rfl
@[go_sem] theorem T60 : tabOf Tryz.prog 60 = some ⟨1, 24, (.slice 149), [.slice none 0 0]⟩ := by kernel_rfl
@[go_sem] theorem D60 : descOf (tabOf Tryz.prog) 60 = some (.slice 149) := by kernel_rfl
@[go_sem] theorem E60 : Av.elemOf (tabOf Tryz.prog) 60 = some (149, ⟨2, 32, dsc Tryz.prog 149, [.string ⟨#[]⟩, .string ⟨#[]⟩]⟩) := by kernel_rfl
@[go_sem] theorem T61 : tabOf Tryz.prog 61 = some ⟨10, 128, dsc Tryz.prog 61, [.int .i64 0, .int .i64 0, .int .i64 0, .int .i64 0, .slice none 0 0, .int .i64 0, .int .i64 0, .string ⟨#[]⟩, .string ⟨#[]⟩, .slice none 0 0]⟩ := by kernel_rfl
@[go_sem] theorem A61 : aggD (dsc Tryz.prog 61) = true := by kernel_rfl
@[go_sem] theorem S61 : isStruct (dsc Tryz.prog 61) = true := by kernel_rfl
@[go_sem] theorem F61_0 : fieldOf (tabOf Tryz.prog) 61 0 = some (0, ⟨1, 8, (.int .i64), [.int .i64 0]⟩) := by kernel_rfl
@[go_sem] theorem F61_1 : fieldOf (tabOf Tryz.prog) 61 1 = some (1, ⟨1, 8, (.int .i64), [.int .i64 0]⟩) := by kernel_rfl
@[go_sem] theorem F61_2 : fieldOf (tabOf Tryz.prog) 61 2 = some (2, ⟨1, 8, (.int .i64), [.int .i64 0]⟩) := by kernel_rfl
@[go_sem] theorem F61_3 : fieldOf (tabOf Tryz.prog) 61 3 = some (3, ⟨1, 8, (.int .i64), [.int .i64 0]⟩) := by kernel_rfl
@[go_sem] theorem F61_4 : fieldOf (tabOf Tryz.prog) 61 4 = some (4, ⟨1, 24, (.slice 111), [.slice none 0 0]⟩) := by kernel_rfl
@[go_sem] theorem F61_5 : fieldOf (tabOf Tryz.prog) 61 5 = some (5, ⟨1, 8, (.int .i64), [.int .i64 0]⟩) := by kernel_rfl
@[go_sem] theorem F61_6 : fieldOf (tabOf Tryz.prog) 61 6 = some (6, ⟨1, 8, (.int .i64), [.int .i64 0]⟩) := by kernel_rfl
@[go_sem] theorem F61_7 : fieldOf (tabOf Tryz.prog) 61 7 = some (7, ⟨1, 16, .string, [.string ⟨#[]⟩]⟩) := by kernel_rfl
@[go_sem] theorem F61_8 : fieldOf (tabOf Tryz.prog) 61 8 = some (8, ⟨1, 16, .string, [.string ⟨#[]⟩]⟩) := by kernel_rfl
@[go_sem] theorem F61_9 : fieldOf (tabOf Tryz.prog) 61 9 = some (9, ⟨1, 24, (.slice 149), [.slice none 0 0]⟩) := by kernel_rfl
@[go_sem] theorem T62 : tabOf Tryz.prog 62 = some ⟨10, 128, dsc Tryz.prog 62, [.int .i64 0, .int .i64 0, .int .i64 0, .int .i64 0, .slice none 0 0, .int .i64 0, .int .i64 0, .string ⟨#[]⟩, .string ⟨#[]⟩, .slice none 0 0]⟩ := by kernel_rfl
@[go_sem] theorem A62 : aggD (dsc Tryz.prog 62) = true := by kernel_rfl
@[go_sem] theorem S62 : isStruct (dsc Tryz.prog 62) = true := by kernel_rfl
@[go_sem] theorem F62_0 : fieldOf (tabOf Tryz.prog) 62 0 = some (0, ⟨1, 8, (.int .i64), [.int .i64 0]⟩) := by kernel_rfl
@[go_sem] theorem F62_1 : fieldOf (tabOf Tryz.prog) 62 1 = some (1, ⟨1, 8, (.int .i64), [.int .i64 0]⟩) := by kernel_rfl
@[go_sem] theorem F62_2 : fieldOf (tabOf Tryz.prog) 62 2 = some (2, ⟨1, 8, (.int .i64), [.int .i64 0]⟩) := by kernel_rfl
@[go_sem] theorem F62_3 : fieldOf (tabOf Tryz.prog) 62 3 = some (3, ⟨1, 8, (.int .i64), [.int .i64 0]⟩) := by kernel_rfl
@[go_sem] theorem F62_4 : fieldOf (tabOf Tryz.prog) 62 4 = some (4, ⟨1, 24, (.slice 111), [.slice none 0 0]⟩) := by kernel_rfl
@[go_sem] theorem F62_5 : fieldOf (tabOf Tryz.prog) 62 5 = some (5, ⟨1, 8, (.int .i64), [.int .i64 0]⟩) := by kernel_rfl
@[go_sem] theorem F62_6 : fieldOf (tabOf Tryz.prog) 62 6 = some (6, ⟨1, 8, (.int .i64), [.int .i64 0]⟩) := by kernel_rfl
@[go_sem] theorem F62_7 : fieldOf (tabOf Tryz.prog) 62 7 = some (7, ⟨1, 16, .string, [.string ⟨#[]⟩]⟩) := by kernel_rfl
@[go_sem] theorem F62_8 : fieldOf (tabOf Tryz.prog) 62 8 = some (8, ⟨1, 16, .string, [.string ⟨#[]⟩]⟩) := by kernel_rfl
@[go_sem] theorem F62_9 : fieldOf (tabOf Tryz.prog) 62 9 = some (9, ⟨1, 24, (.slice 149), [.slice none 0 0]⟩) := by kernel_rfl
@[go_sem] theorem T63 : tabOf Tryz.prog 63 = some ⟨11, 144, dsc Tryz.prog 63, [.string ⟨#[]⟩, .int .i64 0, .int .i64 0, .int .i64 0, .int .i64 0, .slice none 0 0, .int .i64 0, .int .i64 0, .string ⟨#[]⟩, .string ⟨#[]⟩, .slice none 0 0]⟩ := by kernel_rfl
@[go_sem] theorem A63 : aggD (dsc Tryz.prog 63) = true := by kernel_rfl
@[go_sem] theorem S63 : isStruct (dsc Tryz.prog 63) = true := by kernel_rfl
@[go_sem] theorem F63_0 : fieldOf (tabOf Tryz.prog) 63 0 = some (0, ⟨1, 16, .string, [.string ⟨#[]⟩]⟩) := by kernel_rfl
@[go_sem] theorem F63_1 : fieldOf (tabOf Tryz.prog) 63 1 = some (1, ⟨10, 128, dsc Tryz.prog 62, [.int .i64 0, .int .i64 0, .int .i64 0, .int .i64 0, .slice none 0 0, .int .i64 0, .int .i64 0, .string ⟨#[]⟩, .string ⟨#[]⟩, .slice none 0 0]⟩) := by kernel_rfl
@[go_sem] theorem T64 : tabOf Tryz.prog 64 = some ⟨11, 144, dsc Tryz.prog 64, [.string ⟨#[]⟩, .int .i64 0, .int .i64 0, .int .i64 0, .int .i64 0, .slice none 0 0, .int .i64 0, .int .i64 0, .string ⟨#[]⟩, .string ⟨#[]⟩, .slice none 0 0]⟩ := by kernel_rfl
@[go_sem] theorem A64 : aggD (dsc Tryz.prog 64) = true := by kernel_rfl
@[go_sem] theorem S64 : isStruct (dsc Tryz.prog 64) = true := by kernel_rfl
@[go_sem] theorem F64_0 : fieldOf (tabOf Tryz.prog) 64 0 = some (0, ⟨1, 16, .string, [.string ⟨#[]⟩]⟩) := by kernel_rfl
@[go_sem] theorem F64_1 : fieldOf (tabOf Tryz.prog) 64 1 = some (1, ⟨10, 128, dsc Tryz.prog 62, [.int .i64 0, .int .i64 0, .int .i64 0, .int .i64 0, .slice none 0 0, .int .i64 0, .int .i64 0, .string ⟨#[]⟩, .string ⟨#[]⟩, .slice none 0 0]⟩) := by kernel_rfl
@[go_sem] theorem T70 : tabOf Tryz.prog 70 = some ⟨1, 8, (.pointer 75), [.pointer none]⟩ := by kernel_rfl
@[go_sem] theorem D70 : descOf (tabOf Tryz.prog) 70 = some (.pointer 75) := by kernel_rfl
@[go_sem] theorem T71 : tabOf Tryz.prog 71 = some ⟨1, 8, (.pointer 73), [.pointer none]⟩ := by kernel_rfl
@[go_sem] theorem D71 : descOf (tabOf Tryz.prog) 71 = some (.pointer 73) := by kernel_rfl
@[go_sem] theorem T72 : tabOf Tryz.prog 72 = some ⟨2, 32, dsc Tryz.prog 72, [.pointer none, .slice none 0 0]⟩ := by kernel_rfl
@[go_sem] theorem A72 : aggD (dsc Tryz.prog 72) = true := by kernel_rfl
@[go_sem] theorem S72 : isStruct (dsc Tryz.prog 72) = true := by kernel_rfl
@[go_sem] theorem F72_0 : fieldOf (tabOf Tryz.prog) 72 0 = some (0, ⟨1, 8, (.pointer 73), [.pointer none]⟩) := by kernel_rfl
@[go_sem] theorem F72_1 : fieldOf (tabOf Tryz.prog) 72 1 = some (1, ⟨1, 24, (.slice 5), [.slice none 0 0]⟩) := by kernel_rfl
@[go_sem] theorem T73 : tabOf Tryz.prog 73 = some ⟨2, 32, dsc Tryz.prog 73, [.pointer none, .slice none 0 0]⟩ := by kernel_rfl
@[go_sem] theorem A73 : aggD (dsc Tryz.prog 73) = true := by kernel_rfl
@[go_sem] theorem S73 : isStruct (dsc Tryz.prog 73) = true := by kernel_rfl
@[go_sem] theorem F73_0 : fieldOf (tabOf Tryz.prog) 73 0 = some (0, ⟨1, 8, (.pointer 73), [.pointer none]⟩) := by kernel_rfl
@[go_sem] theorem F73_1 : fieldOf (tabOf Tryz.prog) 73 1 = some (1, ⟨1, 24, (.slice 5), [.slice none 0 0]⟩) := by kernel_rfl
@[go_sem] theorem T74 : tabOf Tryz.prog 74 = some ⟨2, 32, dsc Tryz.prog 74, [.pointer none, .slice none 0 0]⟩ := by kernel_rfl
@[go_sem] theorem A74 : aggD (dsc Tryz.prog 74) = true := by kernel_rfl
@[go_sem] theorem S74 : isStruct (dsc Tryz.prog 74) = true := by kernel_rfl
@[go_sem] theorem F74_0 : fieldOf (tabOf Tryz.prog) 74 0 = some (0, ⟨2, 32, dsc Tryz.prog 73, [.pointer none, .slice none 0 0]⟩) := by kernel_rfl
@[go_sem] theorem T75 : tabOf Tryz.prog 75 = some ⟨2, 32, dsc Tryz.prog 75, [.pointer none, .slice none 0 0]⟩ := by kernel_rfl
@[go_sem] theorem A75 : aggD (dsc Tryz.prog 75) = true := by kernel_rfl
@[go_sem] theorem S75 : isStruct (dsc Tryz.prog 75) = true := by kernel_rfl
@[go_sem] theorem F75_0 : fieldOf (tabOf Tryz.prog) 75 0 = some (0, ⟨2, 32, dsc Tryz.prog 73, [.pointer none, .slice none 0 0]⟩) := by kernel_rfl
@[go_sem] theorem T78 : tabOf Tryz.prog 78 = some ⟨1, 24, (.slice 3), [.slice none 0 0]⟩ := by kernel_rfl
@[go_sem] theorem D78 : descOf (tabOf Tryz.prog) 78 = some (.slice 3) := by kernel_rfl
@[go_sem] theorem E78 : Av.elemOf (tabOf Tryz.prog) 78 = some (3, ⟨1, 8, (.int .i64), [.int .i64 0]⟩) := by kernel_rfl
@[go_sem] theorem T79 : tabOf Tryz.prog 79 = some ⟨3, 56, dsc Tryz.prog 79, [.slice none 0 0, .slice none 0 0, .int .i64 0]⟩ := by kernel_rfl
@[go_sem] theorem A79 : aggD (dsc Tryz.prog 79) = true := by kernel_rfl
@[go_sem] theorem S79 : isStruct (dsc Tryz.prog 79) = true := by kernel_rfl
@[go_sem] theorem F79_0 : fieldOf (tabOf Tryz.prog) 79 0 = some (0, ⟨1, 24, (.slice 9), [.slice none 0 0]⟩) := by kernel_rfl
@[go_sem] theorem F79_1 : fieldOf (tabOf Tryz.prog) 79 1 = some (1, ⟨1, 24, (.slice 3), [.slice none 0 0]⟩) := by kernel_rfl
@[go_sem] theorem F79_2 : fieldOf (tabOf Tryz.prog) 79 2 = some (2, ⟨1, 8, (.int .i64), [.int .i64 0]⟩) := by kernel_rfl
@[go_sem] theorem T80 : tabOf Tryz.prog 80 = some ⟨3, 56, dsc Tryz.prog 80, [.slice none 0 0, .slice none 0 0, .int .i64 0]⟩ := by kernel_rfl
@[go_sem] theorem A80 : aggD (dsc Tryz.prog 80) = true := by kernel_rfl
@[go_sem] theorem S80 : isStruct (dsc Tryz.prog 80) = true := by kernel_rfl
@[go_sem] theorem F80_0 : fieldOf (tabOf Tryz.prog) 80 0 = some (0, ⟨1, 24, (.slice 9), [.slice none 0 0]⟩) := by kernel_rfl
@[go_sem] theorem F80_1 : fieldOf (tabOf Tryz.prog) 80 1 = some (1, ⟨1, 24, (.slice 3), [.slice none 0 0]⟩) := by kernel_rfl
@[go_sem] theorem F80_2 : fieldOf (tabOf Tryz.prog) 80 2 = some (2, ⟨1, 8, (.int .i64), [.int .i64 0]⟩) := by kernel_rfl
@[go_sem] theorem T81 : tabOf Tryz.prog 81 = some ⟨1, 24, (.slice 20), [.slice none 0 0]⟩ := by kernel_rfl
@[go_sem] theorem D81 : descOf (tabOf Tryz.prog) 81 = some (.slice 20) := by kernel_rfl
@[go_sem] theorem T82 : tabOf Tryz.prog 82 = some ⟨20, 256, dsc Tryz.prog 82, [.int .i64 0, .int .i64 0, .int .i64 0, .int .i64 0, .slice none 0 0, .int .i64 0, .int .i64 0, .string ⟨#[]⟩, .string ⟨#[]⟩, .slice none 0 0, .int .i64 0, .int .i64 0, .int .i64 0, .int .i64 0, .slice none 0 0, .int .i64 0, .int .i64 0, .string ⟨#[]⟩, .string ⟨#[]⟩, .slice none 0 0]⟩ := by kernel_rfl
@[go_sem] theorem A82 : aggD (dsc Tryz.prog 82) = true := by kernel_rfl
@[go_sem] theorem S82 : isStruct (dsc Tryz.prog 82) = true := by kernel_rfl
@[go_sem] theorem F82_0 : fieldOf (tabOf Tryz.prog) 82 0 = some (0, ⟨10, 128, dsc Tryz.prog 62, [.int .i64 0, .int .i64 0, .int .i64 0, .int .i64 0, .slice none 0 0, .int .i64 0, .int .i64 0, .string ⟨#[]⟩, .string ⟨#[]⟩, .slice none 0 0]⟩) := by kernel_rfl
@[go_sem] theorem F82_1 : fieldOf (tabOf Tryz.prog) 82 1 = some (10, ⟨10, 128, dsc Tryz.prog 62, [.int .i64 0, .int .i64 0, .int .i64 0, .int .i64 0, .slice none 0 0, .int .i64 0, .int .i64 0, .string ⟨#[]⟩, .string ⟨#[]⟩, .slice none 0 0]⟩) := by kernel_rfl
@[go_sem] theorem T83 : tabOf Tryz.prog 83 = some ⟨20, 256, dsc Tryz.prog 83, [.int .i64 0, .int .i64 0, .int .i64 0, .int .i64 0, .slice none 0 0, .int .i64 0, .int .i64 0, .string ⟨#[]⟩, .string ⟨#[]⟩, .slice none 0 0, .int .i64 0, .int .i64 0, .int .i64 0, .int .i64 0, .slice none 0 0, .int .i64 0, .int .i64 0, .string ⟨#[]⟩, .string ⟨#[]⟩, .slice none 0 0]⟩ := by kernel_rfl
@[go_sem] theorem A83 : aggD (dsc Tryz.prog 83) = true := by kernel_rfl
@[go_sem] theorem S83 : isStruct (dsc Tryz.prog 83) = true := by kernel_rfl
@[go_sem] theorem F83_0 : fieldOf (tabOf Tryz.prog) 83 0 = some (0, ⟨10, 128, dsc Tryz.prog 62, [.int .i64 0, .int .i64 0, .int .i64 0, .int .i64 0, .slice none 0 0, .int .i64 0, .int .i64 0, .string ⟨#[]⟩, .string ⟨#[]⟩, .slice none 0 0]⟩) := by kernel_rfl
@[go_sem] theorem F83_1 : fieldOf (tabOf Tryz.prog) 83 1 = some (10, ⟨10, 128, dsc Tryz.prog 62, [.int .i64 0, .int .i64 0, .int .i64 0, .int .i64 0, .slice none 0 0, .int .i64 0, .int .i64 0, .string ⟨#[]⟩, .string ⟨#[]⟩, .slice none 0 0]⟩) := by kernel_rfl
@[go_sem] theorem T87 : tabOf Tryz.prog 87 = some ⟨1, 8, (.int .u64), [.int .u64 0]⟩ := by kernel_rfl
@[go_sem] theorem D87 : descOf (tabOf Tryz.prog) 87 = some (.int .u64) := by kernel_rfl
@[go_sem] theorem T98 : tabOf Tryz.prog 98 = some ⟨1, 24, (.slice 137), [.slice none 0 0]⟩ := by kernel_rfl
@[go_sem] theorem D98 : descOf (tabOf Tryz.prog) 98 = some (.slice 137) := by kernel_rfl
@[go_sem] theorem E98 : Av.elemOf (tabOf Tryz.prog) 98 = some (137, ⟨3, 40, dsc Tryz.prog 137, [.slice none 0 0, .int .i64 0, .int .i64 0]⟩) := by kernel_rfl
@[go_sem] theorem T101 : tabOf Tryz.prog 101 = some ⟨1, 24, (.slice 143), [.slice none 0 0]⟩ := by kernel_rfl
@[go_sem] theorem D101 : descOf (tabOf Tryz.prog) 101 = some (.slice 143) := by kernel_rfl
@[go_sem] theorem E101 : Av.elemOf (tabOf Tryz.prog) 101 = some (143, ⟨4, 96, dsc Tryz.prog 143, [.slice none 0 0, .slice none 0 0, .slice none 0 0, .slice none 0 0]⟩) := by kernel_rfl
@[go_sem] theorem T110 : tabOf Tryz.prog 110 = some ⟨3, 32, dsc Tryz.prog 110, [.int .i64 0, .int .i64 0, .string ⟨#[]⟩]⟩ := by kernel_rfl
@[go_sem] theorem A110 : aggD (dsc Tryz.prog 110) = true := by kernel_rfl
@[go_sem] theorem S110 : isStruct (dsc Tryz.prog 110) = true := by kernel_rfl
@[go_sem] theorem F110_0 : fieldOf (tabOf Tryz.prog) 110 0 = some (0, ⟨1, 8, (.int .i64), [.int .i64 0]⟩) := by kernel_rfl
@[go_sem] theorem F110_1 : fieldOf (tabOf Tryz.prog) 110 1 = some (1, ⟨1, 8, (.int .i64), [.int .i64 0]⟩) := by kernel_rfl
@[go_sem] theorem F110_2 : fieldOf (tabOf Tryz.prog) 110 2 = some (2, ⟨1, 16, .string, [.string ⟨#[]⟩]⟩) := by kernel_rfl
@[go_sem] theorem T111 : tabOf Tryz.prog 111 = some ⟨3, 32, dsc Tryz.prog 111, [.int .i64 0, .int .i64 0, .string ⟨#[]⟩]⟩ := by kernel_rfl
@[go_sem] theorem A111 : aggD (dsc Tryz.prog 111) = true := by kernel_rfl
@[go_sem] theorem S111 : isStruct (dsc Tryz.prog 111) = true := by kernel_rfl
@[go_sem] theorem F111_0 : fieldOf (tabOf Tryz.prog) 111 0 = some (0, ⟨1, 8, (.int .i64), [.int .i64 0]⟩) := by kernel_rfl
@[go_sem] theorem F111_1 : fieldOf (tabOf Tryz.prog) 111 1 = some (1, ⟨1, 8, (.int .i64), [.int .i64 0]⟩) := by kernel_rfl
@[go_sem] theorem F111_2 : fieldOf (tabOf Tryz.prog) 111 2 = some (2, ⟨1, 16, .string, [.string ⟨#[]⟩]⟩) := by kernel_rfl
@[go_sem] theorem T113 : tabOf Tryz.prog 113 = some ⟨1, 8, (.pointer 5), [.pointer none]⟩ := by kernel_rfl
@[go_sem] theorem D113 : descOf (tabOf Tryz.prog) 113 = some (.pointer 5) := by kernel_rfl
@[go_sem] theorem T118 : tabOf Tryz.prog 118 = some ⟨1, 24, (.slice 224), [.slice none 0 0]⟩ := by kernel_rfl
@[go_sem] theorem D118 : descOf (tabOf Tryz.prog) 118 = some (.slice 224) := by kernel_rfl
@[go_sem] theorem E118 : Av.elemOf (tabOf Tryz.prog) 118 = some (224, ⟨2, 2, dsc Tryz.prog 224, [.int .u8 0, .int .u8 0]⟩) := by kernel_rfl
@[go_sem] theorem T119 : tabOf Tryz.prog 119 = some ⟨1, 24, (.slice 121), [.slice none 0 0]⟩ := by kernel_rfl
@[go_sem] theorem D119 : descOf (tabOf Tryz.prog) 119 = some (.slice 121) := by kernel_rfl
@[go_sem] theorem E119 : Av.elemOf (tabOf Tryz.prog) 119 = some (121, ⟨6, 88, dsc Tryz.prog 121, [.int .i64 0, .slice none 0 0, .string ⟨#[]⟩, .slice none 0 0, .int .i64 0, .int .i64 0]⟩) := by kernel_rfl
@[go_sem] theorem T120 : tabOf Tryz.prog 120 = some ⟨6, 88, dsc Tryz.prog 120, [.int .i64 0, .slice none 0 0, .string ⟨#[]⟩, .slice none 0 0, .int .i64 0, .int .i64 0]⟩ := by kernel_rfl
@[go_sem] theorem A120 : aggD (dsc Tryz.prog 120) = true := by kernel_rfl
@[go_sem] theorem S120 : isStruct (dsc Tryz.prog 120) = true := by kernel_rfl
@[go_sem] theorem F120_0 : fieldOf (tabOf Tryz.prog) 120 0 = some (0, ⟨1, 8, (.int .i64), [.int .i64 0]⟩) := by kernel_rfl
@[go_sem] theorem F120_1 : fieldOf (tabOf Tryz.prog) 120 1 = some (1, ⟨1, 24, (.slice 224), [.slice none 0 0]⟩) := by kernel_rfl
@[go_sem] theorem F120_2 : fieldOf (tabOf Tryz.prog) 120 2 = some (2, ⟨1, 16, .string, [.string ⟨#[]⟩]⟩) := by kernel_rfl
@[go_sem] theorem F120_3 : fieldOf (tabOf Tryz.prog) 120 3 = some (3, ⟨1, 24, (.slice 121), [.slice none 0 0]⟩) := by kernel_rfl
@[go_sem] theorem F120_4 : fieldOf (tabOf Tryz.prog) 120 4 = some (4, ⟨1, 8, (.int .i64), [.int .i64 0]⟩) := by kernel_rfl
@[go_sem] theorem F120_5 : fieldOf (tabOf Tryz.prog) 120 5 = some (5, ⟨1, 8, (.int .i64), [.int .i64 0]⟩) := by kernel_rfl
@[go_sem] theorem T121 : tabOf Tryz.prog 121 = some ⟨6, 88, dsc Tryz.prog 121, [.int .i64 0, .slice none 0 0, .string ⟨#[]⟩, .slice none 0 0, .int .i64 0, .int .i64 0]⟩ := by kernel_rfl
@[go_sem] theorem A121 : aggD (dsc Tryz.prog 121) = true := by kernel_rfl
@[go_sem] theorem S121 : isStruct (dsc Tryz.prog 121) = true := by kernel_rfl
@[go_sem] theorem F121_0 : fieldOf (tabOf Tryz.prog) 121 0 = some (0, ⟨1, 8, (.int .i64), [.int .i64 0]⟩) := by kernel_rfl
@[go_sem] theorem F121_1 : fieldOf (tabOf Tryz.prog) 121 1 = some (1, ⟨1, 24, (.slice 224), [.slice none 0 0]⟩) := by kernel_rfl
@[go_sem] theorem F121_2 : fieldOf (tabOf Tryz.prog) 121 2 = some (2, ⟨1, 16, .string, [.string ⟨#[]⟩]⟩) := by kernel_rfl
@[go_sem] theorem F121_3 : fieldOf (tabOf Tryz.prog) 121 3 = some (3, ⟨1, 24, (.slice 121), [.slice none 0 0]⟩) := by kernel_rfl
@[go_sem] theorem F121_4 : fieldOf (tabOf Tryz.prog) 121 4 = some (4, ⟨1, 8, (.int .i64), [.int .i64 0]⟩) := by kernel_rfl
@[go_sem] theorem F121_5 : fieldOf (tabOf Tryz.prog) 121 5 = some (5, ⟨1, 8, (.int .i64), [.int .i64 0]⟩) := by kernel_rfl
@[go_sem] theorem T136 : tabOf Tryz.prog 136 = some ⟨3, 40, dsc Tryz.prog 136, [.slice none 0 0, .int .i64 0, .int .i64 0]⟩ := by kernel_rfl
@[go_sem] theorem A136 : aggD (dsc Tryz.prog 136) = true := by kernel_rfl
@[go_sem] theorem S136 : isStruct (dsc Tryz.prog 136) = true := by kernel_rfl
@[go_sem] theorem F136_0 : fieldOf (tabOf Tryz.prog) 136 0 = some (0, ⟨1, 24, (.slice 9), [.slice none 0 0]⟩) := by kernel_rfl
@[go_sem] theorem F136_1 : fieldOf (tabOf Tryz.prog) 136 1 = some (1, ⟨1, 8, (.int .i64), [.int .i64 0]⟩) := by kernel_rfl
@[go_sem] theorem F136_2 : fieldOf (tabOf Tryz.prog) 136 2 = some (2, ⟨1, 8, (.int .i64), [.int .i64 0]⟩) := by kernel_rfl
@[go_sem] theorem T137 : tabOf Tryz.prog 137 = some ⟨3, 40, dsc Tryz.prog 137, [.slice none 0 0, .int .i64 0, .int .i64 0]⟩ := by kernel_rfl
@[go_sem] theorem A137 : aggD (dsc Tryz.prog 137) = true := by kernel_rfl
@[go_sem] theorem S137 : isStruct (dsc Tryz.prog 137) = true := by kernel_rfl
@[go_sem] theorem F137_0 : fieldOf (tabOf Tryz.prog) 137 0 = some (0, ⟨1, 24, (.slice 9), [.slice none 0 0]⟩) := by kernel_rfl
@[go_sem] theorem F137_1 : fieldOf (tabOf Tryz.prog) 137 1 = some (1, ⟨1, 8, (.int .i64), [.int .i64 0]⟩) := by kernel_rfl
@[go_sem] theorem F137_2 : fieldOf (tabOf Tryz.prog) 137 2 = some (2, ⟨1, 8, (.int .i64), [.int .i64 0]⟩) := by kernel_rfl
@[go_sem] theorem T140 : tabOf Tryz.prog 140 = some ⟨1, 24, (.slice 4), [.slice none 0 0]⟩ := by kernel_rfl
@[go_sem] theorem D140 : descOf (tabOf Tryz.prog) 140 = some (.slice 4) := by kernel_rfl
@[go_sem] theorem E140 : Av.elemOf (tabOf Tryz.prog) 140 = some (4, ⟨1, 1, .bool, [.bool false]⟩) := by kernel_rfl
@[go_sem] theorem T141 : tabOf Tryz.prog 141 = some ⟨1, 24, (.slice 30), [.slice none 0 0]⟩ := by kernel_rfl
@[go_sem] theorem D141 : descOf (tabOf Tryz.prog) 141 = some (.slice 30) := by kernel_rfl
@[go_sem] theorem E141 : Av.elemOf (tabOf Tryz.prog) 141 = some (30, ⟨1, 24, (.slice 9), [.slice none 0 0]⟩) := by kernel_rfl
@[go_sem] theorem T142 : tabOf Tryz.prog 142 = some ⟨4, 96, dsc Tryz.prog 142, [.slice none 0 0, .slice none 0 0, .slice none 0 0, .slice none 0 0]⟩ := by kernel_rfl
@[go_sem] theorem A142 : aggD (dsc Tryz.prog 142) = true := by kernel_rfl
@[go_sem] theorem S142 : isStruct (dsc Tryz.prog 142) = true := by kernel_rfl
@[go_sem] theorem F142_0 : fieldOf (tabOf Tryz.prog) 142 0 = some (0, ⟨1, 24, (.slice 9), [.slice none 0 0]⟩) := by kernel_rfl
@[go_sem] theorem F142_1 : fieldOf (tabOf Tryz.prog) 142 1 = some (1, ⟨1, 24, (.slice 3), [.slice none 0 0]⟩) := by kernel_rfl
@[go_sem] theorem F142_2 : fieldOf (tabOf Tryz.prog) 142 2 = some (2, ⟨1, 24, (.slice 4), [.slice none 0 0]⟩) := by kernel_rfl
@[go_sem] theorem F142_3 : fieldOf (tabOf Tryz.prog) 142 3 = some (3, ⟨1, 24, (.slice 30), [.slice none 0 0]⟩) := by kernel_rfl
@[go_sem] theorem T143 : tabOf Tryz.prog 143 = some ⟨4, 96, dsc Tryz.prog 143, [.slice none 0 0, .slice none 0 0, .slice none 0 0, .slice none 0 0]⟩ := by kernel_rfl
@[go_sem] theorem A143 : aggD (dsc Tryz.prog 143) = true := by kernel_rfl
@[go_sem] theorem S143 : isStruct (dsc Tryz.prog 143) = true := by kernel_rfl
@[go_sem] theorem F143_0 : fieldOf (tabOf Tryz.prog) 143 0 = some (0, ⟨1, 24, (.slice 9), [.slice none 0 0]⟩) := by kernel_rfl
@[go_sem] theorem F143_1 : fieldOf (tabOf Tryz.prog) 143 1 = some (1, ⟨1, 24, (.slice 3), [.slice none 0 0]⟩) := by kernel_rfl
@[go_sem] theorem F143_2 : fieldOf (tabOf Tryz.prog) 143 2 = some (2, ⟨1, 24, (.slice 4), [.slice none 0 0]⟩) := by kernel_rfl
@[go_sem] theorem F143_3 : fieldOf (tabOf Tryz.prog) 143 3 = some (3, ⟨1, 24, (.slice 30), [.slice none 0 0]⟩) := by kernel_rfl
@[go_sem] theorem T147 : tabOf Tryz.prog 147 = some ⟨1, 8, (.int .u64), [.int .u64 0]⟩ := by kernel_rfl
@[go_sem] theorem D147 : descOf (tabOf Tryz.prog) 147 = some (.int .u64) := by kernel_rfl
@[go_sem] theorem T148 : tabOf Tryz.prog 148 = some ⟨2, 32, dsc Tryz.prog 148, [.string ⟨#[]⟩, .string ⟨#[]⟩]⟩ := by kernel_rfl
@[go_sem] theorem A148 : aggD (dsc Tryz.prog 148) = true := by kernel_rfl
@[go_sem] theorem S148 : isStruct (dsc Tryz.prog 148) = true := by kernel_rfl
@[go_sem] theorem F148_0 : fieldOf (tabOf Tryz.prog) 148 0 = some (0, ⟨1, 16, .string, [.string ⟨#[]⟩]⟩) := by kernel_rfl
@[go_sem] theorem F148_1 : fieldOf (tabOf Tryz.prog) 148 1 = some (1, ⟨1, 16, .string, [.string ⟨#[]⟩]⟩) := by kernel_rfl
@[go_sem] theorem T149 : tabOf Tryz.prog 149 = some ⟨2, 32, dsc Tryz.prog 149, [.string ⟨#[]⟩, .string ⟨#[]⟩]⟩ := by kernel_rfl
@[go_sem] theorem A149 : aggD (dsc Tryz.prog 149) = true := by kernel_rfl
@[go_sem] theorem S149 : isStruct (dsc Tryz.prog 149) = true := by kernel_rfl
@[go_sem] theorem F149_0 : fieldOf (tabOf Tryz.prog) 149 0 = some (0, ⟨1, 16, .string, [.string ⟨#[]⟩]⟩) := by kernel_rfl
@[go_sem] theorem F149_1 : fieldOf (tabOf Tryz.prog) 149 1 = some (1, ⟨1, 16, .string, [.string ⟨#[]⟩]⟩) := by kernel_rfl
@[go_sem] theorem T152 : tabOf Tryz.prog 152 = some ⟨4, 40, dsc Tryz.prog 152, [.string ⟨#[]⟩, .int .i64 0, .int .i64 0, .int .i64 0]⟩ := by kernel_rfl
@[go_sem] theorem A152 : aggD (dsc Tryz.prog 152) = true := by kernel_rfl
@[go_sem] theorem S152 : isStruct (dsc Tryz.prog 152) = true := by kernel_rfl
@[go_sem] theorem F152_0 : fieldOf (tabOf Tryz.prog) 152 0 = some (0, ⟨1, 16, .string, [.string ⟨#[]⟩]⟩) := by kernel_rfl
@[go_sem] theorem F152_1 : fieldOf (tabOf Tryz.prog) 152 1 = some (1, ⟨1, 8, (.int .i64), [.int .i64 0]⟩) := by kernel_rfl
@[go_sem] theorem F152_2 : fieldOf (tabOf Tryz.prog) 152 2 = some (2, ⟨1, 8, (.int .i64), [.int .i64 0]⟩) := by kernel_rfl
@[go_sem] theorem F152_3 : fieldOf (tabOf Tryz.prog) 152 3 = some (3, ⟨1, 8, (.int .i64), [.int .i64 0]⟩) := by kernel_rfl
@[go_sem] theorem T153 : tabOf Tryz.prog 153 = some ⟨4, 40, dsc Tryz.prog 153, [.string ⟨#[]⟩, .int .i64 0, .int .i64 0, .int .i64 0]⟩ := by kernel_rfl
@[go_sem] theorem A153 : aggD (dsc Tryz.prog 153) = true := by kernel_rfl
@[go_sem] theorem S153 : isStruct (dsc Tryz.prog 153) = true := by kernel_rfl
@[go_sem] theorem F153_0 : fieldOf (tabOf Tryz.prog) 153 0 = some (0, ⟨1, 16, .string, [.string ⟨#[]⟩]⟩) := by kernel_rfl
@[go_sem] theorem F153_1 : fieldOf (tabOf Tryz.prog) 153 1 = some (1, ⟨1, 8, (.int .i64), [.int .i64 0]⟩) := by kernel_rfl
@[go_sem] theorem F153_2 : fieldOf (tabOf Tryz.prog) 153 2 = some (2, ⟨1, 8, (.int .i64), [.int .i64 0]⟩) := by kernel_rfl
@[go_sem] theorem F153_3 : fieldOf (tabOf Tryz.prog) 153 3 = some (3, ⟨1, 8, (.int .i64), [.int .i64 0]⟩) := by kernel_rfl
@[go_sem] theorem T159 : tabOf Tryz.prog 159 = some ⟨2, 16, dsc Tryz.prog 159, [.int .i64 0, .int .i64 0]⟩ := by kernel_rfl
@[go_sem] theorem A159 : aggD (dsc Tryz.prog 159) = true := by kernel_rfl
@[go_sem] theorem S159 : isStruct (dsc Tryz.prog 159) = true := by kernel_rfl
@[go_sem] theorem F159_0 : fieldOf (tabOf Tryz.prog) 159 0 = some (0, ⟨1, 8, (.int .i64), [.int .i64 0]⟩) := by kernel_rfl
@[go_sem] theorem F159_1 : fieldOf (tabOf Tryz.prog) 159 1 = some (1, ⟨1, 8, (.int .i64), [.int .i64 0]⟩) := by kernel_rfl
@[go_sem] theorem T160 : tabOf Tryz.prog 160 = some ⟨2, 16, dsc Tryz.prog 160, [.int .i64 0, .int .i64 0]⟩ := by kernel_rfl
@[go_sem] theorem A160 : aggD (dsc Tryz.prog 160) = true := by kernel_rfl
@[go_sem] theorem S160 : isStruct (dsc Tryz.prog 160) = true := by kernel_rfl
@[go_sem] theorem F160_0 : fieldOf (tabOf Tryz.prog) 160 0 = some (0, ⟨1, 8, (.int .i64), [.int .i64 0]⟩) := by kernel_rfl
@[go_sem] theorem F160_1 : fieldOf (tabOf Tryz.prog) 160 1 = some (1, ⟨1, 8, (.int .i64), [.int .i64 0]⟩) := by kernel_rfl
@[go_sem] theorem T161 : tabOf Tryz.prog 161 = some ⟨1, 24, (.slice 167), [.slice none 0 0]⟩ := by kernel_rfl
@[go_sem] theorem D161 : descOf (tabOf Tryz.prog) 161 = some (.slice 167) := by kernel_rfl
@[go_sem] theorem E161 : Av.elemOf (tabOf Tryz.prog) 161 = some (167, ⟨3, 32, dsc Tryz.prog 167, [.string ⟨#[]⟩, .int .i64 0, .int .i64 0]⟩) := by kernel_rfl
@[go_sem] theorem T162 : tabOf Tryz.prog 162 = some ⟨3, 40, dsc Tryz.prog 162, [.int .i64 0, .int .i64 0, .slice none 0 0]⟩ := by kernel_rfl
@[go_sem] theorem A162 : aggD (dsc Tryz.prog 162) = true := by kernel_rfl
@[go_sem] theorem S162 : isStruct (dsc Tryz.prog 162) = true := by kernel_rfl
@[go_sem] theorem F162_0 : fieldOf (tabOf Tryz.prog) 162 0 = some (0, ⟨2, 16, dsc Tryz.prog 160, [.int .i64 0, .int .i64 0]⟩) := by kernel_rfl
@[go_sem] theorem F162_1 : fieldOf (tabOf Tryz.prog) 162 1 = some (2, ⟨1, 24, (.slice 167), [.slice none 0 0]⟩) := by kernel_rfl
@[go_sem] theorem T163 : tabOf Tryz.prog 163 = some ⟨3, 40, dsc Tryz.prog 163, [.int .i64 0, .int .i64 0, .slice none 0 0]⟩ := by kernel_rfl
@[go_sem] theorem A163 : aggD (dsc Tryz.prog 163) = true := by kernel_rfl
@[go_sem] theorem S163 : isStruct (dsc Tryz.prog 163) = true := by kernel_rfl
@[go_sem] theorem F163_0 : fieldOf (tabOf Tryz.prog) 163 0 = some (0, ⟨2, 16, dsc Tryz.prog 160, [.int .i64 0, .int .i64 0]⟩) := by kernel_rfl
@[go_sem] theorem F163_1 : fieldOf (tabOf Tryz.prog) 163 1 = some (2, ⟨1, 24, (.slice 167), [.slice none 0 0]⟩) := by kernel_rfl
@[go_sem] theorem T166 : tabOf Tryz.prog 166 = some ⟨3, 32, dsc Tryz.prog 166, [.string ⟨#[]⟩, .int .i64 0, .int .i64 0]⟩ := by kernel_rfl
@[go_sem] theorem A166 : aggD (dsc Tryz.prog 166) = true := by kernel_rfl
@[go_sem] theorem S166 : isStruct (dsc Tryz.prog 166) = true := by kernel_rfl
@[go_sem] theorem F166_0 : fieldOf (tabOf Tryz.prog) 166 0 = some (0, ⟨1, 16, .string, [.string ⟨#[]⟩]⟩) := by kernel_rfl
@[go_sem] theorem F166_1 : fieldOf (tabOf Tryz.prog) 166 1 = some (1, ⟨2, 16, dsc Tryz.prog 160, [.int .i64 0, .int .i64 0]⟩) := by kernel_rfl
@[go_sem] theorem T167 : tabOf Tryz.prog 167 = some ⟨3, 32, dsc Tryz.prog 167, [.string ⟨#[]⟩, .int .i64 0, .int .i64 0]⟩ := by kernel_rfl
@[go_sem] theorem A167 : aggD (dsc Tryz.prog 167) = true := by kernel_rfl
@[go_sem] theorem S167 : isStruct (dsc Tryz.prog 167) = true := by kernel_rfl
@[go_sem] theorem F167_0 : fieldOf (tabOf Tryz.prog) 167 0 = some (0, ⟨1, 16, .string, [.string ⟨#[]⟩]⟩) := by kernel_rfl
@[go_sem] theorem F167_1 : fieldOf (tabOf Tryz.prog) 167 1 = some (1, ⟨2, 16, dsc Tryz.prog 160, [.int .i64 0, .int .i64 0]⟩) := by kernel_rfl
@[go_sem] theorem T178 : tabOf Tryz.prog 178 = some ⟨1, 8, .unsafePointer, [.pointer none]⟩ := by kernel_rfl
@[go_sem] theorem D178 : descOf (tabOf Tryz.prog) 178 = some .unsafePointer := by kernel_rfl
@[go_sem] theorem T185 : tabOf Tryz.prog 185 = some ⟨1, 24, (.slice 207), [.slice none 0 0]⟩ := by kernel_rfl
@[go_sem] theorem D185 : descOf (tabOf Tryz.prog) 185 = some (.slice 207) := by kernel_rfl
@[go_sem] theorem E185 : Av.elemOf (tabOf Tryz.prog) 185 = some (207, ⟨4, 48, dsc Tryz.prog 207, [.int .i64 0, .int .i64 0, .int .i64 0, .slice none 0 0]⟩) := by kernel_rfl
@[go_sem] theorem T187 : tabOf Tryz.prog 187 = some ⟨32, 256, (.array 32 3), (List.replicate 32 (.int .i64 0))⟩ := by kernel_rfl
@[go_sem] theorem D187 : descOf (tabOf Tryz.prog) 187 = some (.array 32 3) := by kernel_rfl
@[go_sem] theorem R187 : arrOf (tabOf Tryz.prog) 187 = some (32, ⟨1, 8, (.int .i64), [.int .i64 0]⟩) := by kernel_rfl
@[go_sem] theorem T188 : tabOf Tryz.prog 188 = some ⟨35, 280, dsc Tryz.prog 188, (List.replicate 35 (.int .i64 0))⟩ := by kernel_rfl
@[go_sem] theorem A188 : aggD (dsc Tryz.prog 188) = true := by kernel_rfl
@[go_sem] theorem S188 : isStruct (dsc Tryz.prog 188) = true := by kernel_rfl
@[go_sem] theorem F188_0 : fieldOf (tabOf Tryz.prog) 188 0 = some (0, ⟨1, 8, (.int .i64), [.int .i64 0]⟩) := by kernel_rfl
@[go_sem] theorem F188_1 : fieldOf (tabOf Tryz.prog) 188 1 = some (1, ⟨1, 8, (.int .i64), [.int .i64 0]⟩) := by kernel_rfl
@[go_sem] theorem F188_2 : fieldOf (tabOf Tryz.prog) 188 2 = some (2, ⟨1, 8, (.int .i64), [.int .i64 0]⟩) := by kernel_rfl
@[go_sem] theorem F188_3 : fieldOf (tabOf Tryz.prog) 188 3 = some (3, ⟨32, 256, (.array 32 3), (List.replicate 32 (.int .i64 0))⟩) := by kernel_rfl
@[go_sem] theorem T189 : tabOf Tryz.prog 189 = some ⟨35, 280, dsc Tryz.prog 189, (List.replicate 35 (.int .i64 0))⟩ := by kernel_rfl
@[go_sem] theorem A189 : aggD (dsc Tryz.prog 189) = true := by kernel_rfl
@[go_sem] theorem S189 : isStruct (dsc Tryz.prog 189) = true := by kernel_rfl
@[go_sem] theorem F189_0 : fieldOf (tabOf Tryz.prog) 189 0 = some (0, ⟨1, 8, (.int .i64), [.int .i64 0]⟩) := by kernel_rfl
@[go_sem] theorem F189_1 : fieldOf (tabOf Tryz.prog) 189 1 = some (1, ⟨1, 8, (.int .i64), [.int .i64 0]⟩) := by kernel_rfl
@[go_sem] theorem F189_2 : fieldOf (tabOf Tryz.prog) 189 2 = some (2, ⟨1, 8, (.int .i64), [.int .i64 0]⟩) := by kernel_rfl
@[go_sem] theorem F189_3 : fieldOf (tabOf Tryz.prog) 189 3 = some (3, ⟨32, 256, (.array 32 3), (List.replicate 32 (.int .i64 0))⟩) := by kernel_rfl
@[go_sem] theorem T196 : tabOf Tryz.prog 196 = some ⟨24, 24, (.array 24 5), (List.replicate 24 (.int .u8 0))⟩ := by kernel_rfl
@[go_sem] theorem D196 : descOf (tabOf Tryz.prog) 196 = some (.array 24 5) := by kernel_rfl
@[go_sem] theorem R196 : arrOf (tabOf Tryz.prog) 196 = some (24, ⟨1, 1, (.int .u8), [.int .u8 0]⟩) := by kernel_rfl
@[go_sem] theorem T206 : tabOf Tryz.prog 206 = some ⟨4, 48, dsc Tryz.prog 206, [.int .i64 0, .int .i64 0, .int .i64 0, .slice none 0 0]⟩ := by kernel_rfl
@[go_sem] theorem A206 : aggD (dsc Tryz.prog 206) = true := by kernel_rfl
@[go_sem] theorem S206 : isStruct (dsc Tryz.prog 206) = true := by kernel_rfl
@[go_sem] theorem F206_0 : fieldOf (tabOf Tryz.prog) 206 0 = some (0, ⟨1, 8, (.int .i64), [.int .i64 0]⟩) := by kernel_rfl
@[go_sem] theorem F206_1 : fieldOf (tabOf Tryz.prog) 206 1 = some (1, ⟨1, 8, (.int .i64), [.int .i64 0]⟩) := by kernel_rfl
@[go_sem] theorem F206_2 : fieldOf (tabOf Tryz.prog) 206 2 = some (2, ⟨1, 8, (.int .i64), [.int .i64 0]⟩) := by kernel_rfl
@[go_sem] theorem F206_3 : fieldOf (tabOf Tryz.prog) 206 3 = some (3, ⟨1, 24, (.slice 224), [.slice none 0 0]⟩) := by kernel_rfl
@[go_sem] theorem T207 : tabOf Tryz.prog 207 = some ⟨4, 48, dsc Tryz.prog 207, [.int .i64 0, .int .i64 0, .int .i64 0, .slice none 0 0]⟩ := by kernel_rfl
@[go_sem] theorem A207 : aggD (dsc Tryz.prog 207) = true := by kernel_rfl
@[go_sem] theorem S207 : isStruct (dsc Tryz.prog 207) = true := by kernel_rfl
@[go_sem] theorem F207_0 : fieldOf (tabOf Tryz.prog) 207 0 = some (0, ⟨1, 8, (.int .i64), [.int .i64 0]⟩) := by kernel_rfl
@[go_sem] theorem F207_1 : fieldOf (tabOf Tryz.prog) 207 1 = some (1, ⟨1, 8, (.int .i64), [.int .i64 0]⟩) := by kernel_rfl
@[go_sem] theorem F207_2 : fieldOf (tabOf Tryz.prog) 207 2 = some (2, ⟨1, 8, (.int .i64), [.int .i64 0]⟩) := by kernel_rfl
@[go_sem] theorem F207_3 : fieldOf (tabOf Tryz.prog) 207 3 = some (3, ⟨1, 24, (.slice 224), [.slice none 0 0]⟩) := by kernel_rfl
@[go_sem] theorem T208 : tabOf Tryz.prog 208 = some ⟨1, 24, (.slice 140), [.slice none 0 0]⟩ := by kernel_rfl
@[go_sem] theorem D208 : descOf (tabOf Tryz.prog) 208 = some (.slice 140) := by kernel_rfl
@[go_sem] theorem E208 : Av.elemOf (tabOf Tryz.prog) 208 = some (140, ⟨1, 24, (.slice 4), [.slice none 0 0]⟩) := by kernel_rfl
@[go_sem] theorem T209 : tabOf Tryz.prog 209 = some ⟨1, 24, (.slice 189), [.slice none 0 0]⟩ := by kernel_rfl
@[go_sem] theorem D209 : descOf (tabOf Tryz.prog) 209 = some (.slice 189) := by kernel_rfl
@[go_sem] theorem E209 : Av.elemOf (tabOf Tryz.prog) 209 = some (189, ⟨35, 280, dsc Tryz.prog 189, (List.replicate 35 (.int .i64 0))⟩) := by kernel_rfl
@[go_sem] theorem T213 : tabOf Tryz.prog 213 = some ⟨20, 160, (.array 20 147), (List.replicate 20 (.int .u64 0))⟩ := by kernel_rfl
@[go_sem] theorem D213 : descOf (tabOf Tryz.prog) 213 = some (.array 20 147) := by kernel_rfl
@[go_sem] theorem R213 : arrOf (tabOf Tryz.prog) 213 = some (20, ⟨1, 8, (.int .u64), [.int .u64 0]⟩) := by kernel_rfl
@[go_sem] theorem T214 : tabOf Tryz.prog 214 = some ⟨1, 4, (.int .u32), [.int .u32 0]⟩ := by kernel_rfl
@[go_sem] theorem D214 : descOf (tabOf Tryz.prog) 214 = some (.int .u32) := by kernel_rfl
@[go_sem] theorem T215 : tabOf Tryz.prog 215 = some ⟨65, 65, (.array 65 5), (List.replicate 65 (.int .u8 0))⟩ := by kernel_rfl
@[go_sem] theorem D215 : descOf (tabOf Tryz.prog) 215 = some (.array 65 5) := by kernel_rfl
@[go_sem] theorem R215 : arrOf (tabOf Tryz.prog) 215 = some (65, ⟨1, 1, (.int .u8), [.int .u8 0]⟩) := by kernel_rfl
@[go_sem] theorem T223 : tabOf Tryz.prog 223 = some ⟨2, 2, dsc Tryz.prog 223, [.int .u8 0, .int .u8 0]⟩ := by kernel_rfl
@[go_sem] theorem A223 : aggD (dsc Tryz.prog 223) = true := by kernel_rfl
@[go_sem] theorem S223 : isStruct (dsc Tryz.prog 223) = true := by kernel_rfl
@[go_sem] theorem F223_0 : fieldOf (tabOf Tryz.prog) 223 0 = some (0, ⟨1, 1, (.int .u8), [.int .u8 0]⟩) := by kernel_rfl
@[go_sem] theorem F223_1 : fieldOf (tabOf Tryz.prog) 223 1 = some (1, ⟨1, 1, (.int .u8), [.int .u8 0]⟩) := by kernel_rfl
@[go_sem] theorem T224 : tabOf Tryz.prog 224 = some ⟨2, 2, dsc Tryz.prog 224, [.int .u8 0, .int .u8 0]⟩ := by kernel_rfl
@[go_sem] theorem A224 : aggD (dsc Tryz.prog 224) = true := by kernel_rfl
@[go_sem] theorem S224 : isStruct (dsc Tryz.prog 224) = true := by kernel_rfl
@[go_sem] theorem F224_0 : fieldOf (tabOf Tryz.prog) 224 0 = some (0, ⟨1, 1, (.int .u8), [.int .u8 0]⟩) := by kernel_rfl
@[go_sem] theorem F224_1 : fieldOf (tabOf Tryz.prog) 224 1 = some (1, ⟨1, 1, (.int .u8), [.int .u8 0]⟩) := by kernel_rfl
@[go_sem] theorem T227 : tabOf Tryz.prog 227 = some ⟨256, 256, (.array 256 4), (List.replicate 256 (.bool false))⟩ := by kernel_rfl
@[go_sem] theorem D227 : descOf (tabOf Tryz.prog) 227 = some (.array 256 4) := by kernel_rfl
@[go_sem] theorem R227 : arrOf (tabOf Tryz.prog) 227 = some (256, ⟨1, 1, .bool, [.bool false]⟩) := by kernel_rfl
@[go_sem] theorem T228 : tabOf Tryz.prog 228 = some ⟨256, 256, (.array 256 4), (List.replicate 256 (.bool false))⟩ := by kernel_rfl
@[go_sem] theorem D228 : descOf (tabOf Tryz.prog) 228 = some (.array 256 4) := by kernel_rfl
@[go_sem] theorem R228 : arrOf (tabOf Tryz.prog) 228 = some (256, ⟨1, 1, .bool, [.bool false]⟩) := by kernel_rfl
@[go_sem] theorem T234 : tabOf Tryz.prog 234 = some ⟨32, 32, (.array 32 5), (List.replicate 32 (.int .u8 0))⟩ := by kernel_rfl
@[go_sem] theorem D234 : descOf (tabOf Tryz.prog) 234 = some (.array 32 5) := by kernel_rfl
@[go_sem] theorem R234 : arrOf (tabOf Tryz.prog) 234 = some (32, ⟨1, 1, (.int .u8), [.int .u8 0]⟩) := by kernel_rfl
@[go_sem] theorem T235 : tabOf Tryz.prog 235 = some ⟨64, 64, (.array 64 5), (List.replicate 64 (.int .u8 0))⟩ := by kernel_rfl
@[go_sem] theorem D235 : descOf (tabOf Tryz.prog) 235 = some (.array 64 5) := by kernel_rfl
@[go_sem] theorem R235 : arrOf (tabOf Tryz.prog) 235 = some (64, ⟨1, 1, (.int .u8), [.int .u8 0]⟩) := by kernel_rfl
@[go_sem] theorem T243 : tabOf Tryz.prog 243 = some ⟨4, 40, dsc Tryz.prog 243, [.pointer none, .pointer none, .pointer none, .string ⟨#[]⟩]⟩ := by kernel_rfl
@[go_sem] theorem A243 : aggD (dsc Tryz.prog 243) = true := by kernel_rfl
@[go_sem] theorem S243 : isStruct (dsc Tryz.prog 243) = true := by kernel_rfl
@[go_sem] theorem F243_0 : fieldOf (tabOf Tryz.prog) 243 0 = some (0, ⟨1, 8, (.pointer 254), [.pointer none]⟩) := by kernel_rfl
@[go_sem] theorem F243_1 : fieldOf (tabOf Tryz.prog) 243 1 = some (1, ⟨1, 8, (.pointer 254), [.pointer none]⟩) := by kernel_rfl
@[go_sem] theorem F243_2 : fieldOf (tabOf Tryz.prog) 243 2 = some (2, ⟨1, 8, (.pointer 254), [.pointer none]⟩) := by kernel_rfl
@[go_sem] theorem F243_3 : fieldOf (tabOf Tryz.prog) 243 3 = some (3, ⟨1, 16, .string, [.string ⟨#[]⟩]⟩) := by kernel_rfl
@[go_sem] theorem T244 : tabOf Tryz.prog 244 = some ⟨4, 40, dsc Tryz.prog 244, [.pointer none, .pointer none, .pointer none, .string ⟨#[]⟩]⟩ := by kernel_rfl
@[go_sem] theorem A244 : aggD (dsc Tryz.prog 244) = true := by kernel_rfl
@[go_sem] theorem S244 : isStruct (dsc Tryz.prog 244) = true := by kernel_rfl
@[go_sem] theorem F244_0 : fieldOf (tabOf Tryz.prog) 244 0 = some (0, ⟨1, 8, (.pointer 254), [.pointer none]⟩) := by kernel_rfl
@[go_sem] theorem F244_1 : fieldOf (tabOf Tryz.prog) 244 1 = some (1, ⟨1, 8, (.pointer 254), [.pointer none]⟩) := by kernel_rfl
@[go_sem] theorem F244_2 : fieldOf (tabOf Tryz.prog) 244 2 = some (2, ⟨1, 8, (.pointer 254), [.pointer none]⟩) := by kernel_rfl
@[go_sem] theorem F244_3 : fieldOf (tabOf Tryz.prog) 244 3 = some (3, ⟨1, 16, .string, [.string ⟨#[]⟩]⟩) := by kernel_rfl
@[go_sem] theorem T245 : tabOf Tryz.prog 245 = some ⟨0, 0, (.array 0 16), []⟩ := by kernel_rfl
@[go_sem] theorem D245 : descOf (tabOf Tryz.prog) 245 = some (.array 0 16) := by kernel_rfl
@[go_sem] theorem R245 : arrOf (tabOf Tryz.prog) 245 = some (0, ⟨1, 8, (.pointer 247), [.pointer none]⟩) := by kernel_rfl
@[go_sem] theorem T246 : tabOf Tryz.prog 246 = some ⟨0, 0, dsc Tryz.prog 246, []⟩ := by kernel_rfl
@[go_sem] theorem A246 : aggD (dsc Tryz.prog 246) = true := by kernel_rfl
@[go_sem] theorem S246 : isStruct (dsc Tryz.prog 246) = true := by kernel_rfl
@[go_sem] theorem F246_0 : fieldOf (tabOf Tryz.prog) 246 0 = some (0, ⟨0, 0, (.array 0 16), []⟩) := by kernel_rfl
@[go_sem] theorem T247 : tabOf Tryz.prog 247 = some ⟨0, 0, dsc Tryz.prog 247, []⟩ := by kernel_rfl
@[go_sem] theorem A247 : aggD (dsc Tryz.prog 247) = true := by kernel_rfl
@[go_sem] theorem S247 : isStruct (dsc Tryz.prog 247) = true := by kernel_rfl
@[go_sem] theorem F247_0 : fieldOf (tabOf Tryz.prog) 247 0 = some (0, ⟨0, 0, (.array 0 16), []⟩) := by kernel_rfl
@[go_sem] theorem T248 : tabOf Tryz.prog 248 = some ⟨1, 1, (.int .u8), [.int .u8 0]⟩ := by kernel_rfl
@[go_sem] theorem D248 : descOf (tabOf Tryz.prog) 248 = some (.int .u8) := by kernel_rfl
@[go_sem] theorem U248 : isU8 (tabOf Tryz.prog) 248 = true := by kernel_rfl
@[go_sem] theorem T249 : tabOf Tryz.prog 249 = some ⟨1, 1, (.int .u8), [.int .u8 0]⟩ := by kernel_rfl
@[go_sem] theorem D249 : descOf (tabOf Tryz.prog) 249 = some (.int .u8) := by kernel_rfl
@[go_sem] theorem U249 : isU8 (tabOf Tryz.prog) 249 = true := by kernel_rfl
@[go_sem] theorem T251 : tabOf Tryz.prog 251 = some ⟨1, 4, (.int .i32), [.int .i32 0]⟩ := by kernel_rfl
@[go_sem] theorem D251 : descOf (tabOf Tryz.prog) 251 = some (.int .i32) := by kernel_rfl
@[go_sem] theorem T252 : tabOf Tryz.prog 252 = some ⟨1, 4, (.int .i32), [.int .i32 0]⟩ := by kernel_rfl
@[go_sem] theorem D252 : descOf (tabOf Tryz.prog) 252 = some (.int .i32) := by kernel_rfl
@[go_sem] theorem T253 : tabOf Tryz.prog 253 = some ⟨11, 48, dsc Tryz.prog 253, [.int .u64 0, .int .u64 0, .int .u32 0, .int .u8 0, .int .u8 0, .int .u8 0, .int .u8 0, .nilFunc, .pointer none, .int .i32 0, .int .i32 0]⟩ := by kernel_rfl
@[go_sem] theorem A253 : aggD (dsc Tryz.prog 253) = true := by kernel_rfl
@[go_sem] theorem S253 : isStruct (dsc Tryz.prog 253) = true := by kernel_rfl
@[go_sem] theorem F253_0 : fieldOf (tabOf Tryz.prog) 253 0 = some (0, ⟨1, 8, (.int .u64), [.int .u64 0]⟩) := by kernel_rfl
@[go_sem] theorem F253_1 : fieldOf (tabOf Tryz.prog) 253 1 = some (1, ⟨1, 8, (.int .u64), [.int .u64 0]⟩) := by kernel_rfl
@[go_sem] theorem F253_2 : fieldOf (tabOf Tryz.prog) 253 2 = some (2, ⟨1, 4, (.int .u32), [.int .u32 0]⟩) := by kernel_rfl
@[go_sem] theorem F253_3 : fieldOf (tabOf Tryz.prog) 253 3 = some (3, ⟨1, 1, (.int .u8), [.int .u8 0]⟩) := by kernel_rfl
@[go_sem] theorem F253_4 : fieldOf (tabOf Tryz.prog) 253 4 = some (4, ⟨1, 1, (.int .u8), [.int .u8 0]⟩) := by kernel_rfl
@[go_sem] theorem F253_5 : fieldOf (tabOf Tryz.prog) 253 5 = some (5, ⟨1, 1, (.int .u8), [.int .u8 0]⟩) := by kernel_rfl
@[go_sem] theorem F253_6 : fieldOf (tabOf Tryz.prog) 253 6 = some (6, ⟨1, 1, (.int .u8), [.int .u8 0]⟩) := by kernel_rfl
@[go_sem] theorem F253_8 : fieldOf (tabOf Tryz.prog) 253 8 = some (8, ⟨1, 8, (.pointer 5), [.pointer none]⟩) := by kernel_rfl
@[go_sem] theorem F253_9 : fieldOf (tabOf Tryz.prog) 253 9 = some (9, ⟨1, 4, (.int .i32), [.int .i32 0]⟩) := by kernel_rfl
@[go_sem] theorem F253_10 : fieldOf (tabOf Tryz.prog) 253 10 = some (10, ⟨1, 4, (.int .i32), [.int .i32 0]⟩) := by kernel_rfl
@[go_sem] theorem T254 : tabOf Tryz.prog 254 = some ⟨11, 48, dsc Tryz.prog 254, [.int .u64 0, .int .u64 0, .int .u32 0, .int .u8 0, .int .u8 0, .int .u8 0, .int .u8 0, .nilFunc, .pointer none, .int .i32 0, .int .i32 0]⟩ := by kernel_rfl
@[go_sem] theorem A254 : aggD (dsc Tryz.prog 254) = true := by kernel_rfl
@[go_sem] theorem S254 : isStruct (dsc Tryz.prog 254) = true := by kernel_rfl
@[go_sem] theorem F254_0 : fieldOf (tabOf Tryz.prog) 254 0 = some (0, ⟨1, 8, (.int .u64), [.int .u64 0]⟩) := by kernel_rfl
@[go_sem] theorem F254_1 : fieldOf (tabOf Tryz.prog) 254 1 = some (1, ⟨1, 8, (.int .u64), [.int .u64 0]⟩) := by kernel_rfl
@[go_sem] theorem F254_2 : fieldOf (tabOf Tryz.prog) 254 2 = some (2, ⟨1, 4, (.int .u32), [.int .u32 0]⟩) := by kernel_rfl
@[go_sem] theorem F254_3 : fieldOf (tabOf Tryz.prog) 254 3 = some (3, ⟨1, 1, (.int .u8), [.int .u8 0]⟩) := by kernel_rfl
@[go_sem] theorem F254_4 : fieldOf (tabOf Tryz.prog) 254 4 = some (4, ⟨1, 1, (.int .u8), [.int .u8 0]⟩) := by kernel_rfl
@[go_sem] theorem F254_5 : fieldOf (tabOf Tryz.prog) 254 5 = some (5, ⟨1, 1, (.int .u8), [.int .u8 0]⟩) := by kernel_rfl
@[go_sem] theorem F254_6 : fieldOf (tabOf Tryz.prog) 254 6 = some (6, ⟨1, 1, (.int .u8), [.int .u8 0]⟩) := by kernel_rfl
@[go_sem] theorem F254_8 : fieldOf (tabOf Tryz.prog) 254 8 = some (8, ⟨1, 8, (.pointer 5), [.pointer none]⟩) := by kernel_rfl
@[go_sem] theorem F254_9 : fieldOf (tabOf Tryz.prog) 254 9 = some (9, ⟨1, 4, (.int .i32), [.int .i32 0]⟩) := by kernel_rfl
@[go_sem] theorem F254_10 : fieldOf (tabOf Tryz.prog) 254 10 = some (10, ⟨1, 4, (.int .i32), [.int .i32 0]⟩) := by kernel_rfl
theorem isAgg_mk (a b : Nat) (d : TypeDesc) (z : List Value) : TI.isAgg ⟨a, b, d, z⟩ = aggD d := rfl
attribute [go_sem ↓] isAgg_mk A7 A8 A13 A14 A18 A19 A27 A28 A32 A33 A39 A40 A47 A48 A51 A52 A54 A55 A61 A62 A63 A64 A72 A73 A74 A75 A79 A80 A82 A83 A110 A111 A120 A121 A136 A137 A142 A143 A148 A149 A152 A153 A159 A160 A162 A163 A166 A167 A188 A189 A206 A207 A223 A224 A243 A244 A246 A247 A253 A254
theorem mixed : Tryz.prog.follows .mixedOrders = true := by kernel_rfl
section
variable {C : Ctx} {Q : Exit → Nat → AS → Prop} {n : Nat} {s : AS}
theorem rG {N k : Nat} (hN : C.N = N) (hk : C.k = k) (orc : Nat → Option Orc) (ks keep : List Nat) {id : Nat} {ops : Array Oper}
   (h : ∀ K : Nat → AS → Prop, (∀ n s, Q .normal n s → K n s) → RegC Tryz.prog orc ks n ops keep K s) (hks : ks = List.range k := by rfl) (hok : regOk N ops false = true := by decide +kernel) : AW Tryz.prog C (.region id ops false) Q n s := AW.rc mixed hN hk orc ks keep hks hok h
theorem rD {N k : Nat} (hN : C.N = N) (hk : C.k = k) (orc : Nat → Option Orc) (ks keep : List Nat) {id : Nat} {ops : Array Oper}
   (h : ∀ (K : Nat → AS → Prop) (tok : List Go.Av.Touch → Prop), (∀ ts, touchesOk (masks ops.toList []) ts = true → tok ts) → (∀ n s, Q .normal n s → K n s) → RegCD Tryz.prog orc ks n ops keep tok K s) (hks : ks = List.range k := by rfl) (hok : regOk N ops true = true := by decide +kernel) : AW Tryz.prog C (.region id ops true) Q n s := AW.rcd mixed hN hk orc ks keep hks hok h
end
end Go.Proofs.YtffchapiaampmaaGreatDoor
