/- Part 18 of the proof of PlanSkipsOnlyWhatCannotMatch. -/
import Derived.Test.YtpkhodjlnodagaaGreatDoorB04
import Derived.Test.YtpkhodjlnodagaaGreatDoorProg
import Derived.KernelRfl
set_option linter.unusedSimpArgs false
set_option linter.unusedVariables false
set_option linter.unusedSectionVars false
namespace Go.Proofs.YtpkhodjlnodagaaGreatDoor
open Go.Av
@[go_sem] theorem T3:Ao Tryz.prog 3=some ⟨1,8,(.int .i64),[.int .i64 0]⟩:=by kernel_rfl
@[go_sem] theorem D3:Bl (Ao Tryz.prog) 3=some (.int .i64):=by kernel_rfl
@[go_sem] theorem T4:Ao Tryz.prog 4=some ⟨1,1,.bool,[.bool false]⟩:=by kernel_rfl
@[go_sem] theorem T5:Ao Tryz.prog 5=some ⟨1,1,(.int .u8),[.int .u8 0]⟩:=by kernel_rfl
@[go_sem] theorem D5:Bl (Ao Tryz.prog) 5=some (.int .u8):=by kernel_rfl
@[go_sem] theorem U5:Ly (Ao Tryz.prog) 5=true:=by kernel_rfl
@[go_sem] theorem T9:Ao Tryz.prog 9=some ⟨1,16,.string,[.string ⟨#[]⟩]⟩:=by kernel_rfl
@[go_sem] theorem D9:Bl (Ao Tryz.prog) 9=some .string:=by kernel_rfl
@[go_sem] theorem T22:Ao Tryz.prog 22=some ⟨1,24,(.slice 5),[.slice none 0 0]⟩:=by kernel_rfl
@[go_sem] theorem D22:Bl (Ao Tryz.prog) 22=some (.slice 5):=by kernel_rfl
@[go_sem] theorem E22:Av.elemOf (Ao Tryz.prog) 22=some (5,⟨1,1,(.int .u8),[.int .u8 0]⟩):=by kernel_rfl
@[go_sem] theorem T24:Ao Tryz.prog 24=some ⟨1,24,(.slice 26),[.slice none 0 0]⟩:=by kernel_rfl
@[go_sem] theorem D24:Bl (Ao Tryz.prog) 24=some (.slice 26):=by kernel_rfl
@[go_sem] theorem E24:Av.elemOf (Ao Tryz.prog) 24=some (26,⟨5,72,dsc Tryz.prog 26,[.int .i64 0,.string ⟨#[]⟩,.string ⟨#[]⟩,.int .i64 0,.slice none 0 0]⟩):=by kernel_rfl
@[go_sem] theorem T26:Ao Tryz.prog 26=some ⟨5,72,dsc Tryz.prog 26,[.int .i64 0,.string ⟨#[]⟩,.string ⟨#[]⟩,.int .i64 0,.slice none 0 0]⟩:=by kernel_rfl
@[go_sem] theorem A26:Dw (dsc Tryz.prog 26)=true:=by kernel_rfl
@[go_sem] theorem S26:CT (dsc Tryz.prog 26)=true:=by kernel_rfl
@[go_sem] theorem F26_0:A1 (Ao Tryz.prog) 26 0=some (0,⟨1,8,(.int .i64),[.int .i64 0]⟩):=by kernel_rfl
@[go_sem] theorem F26_1:A1 (Ao Tryz.prog) 26 1=some (1,⟨1,16,.string,[.string ⟨#[]⟩]⟩):=by kernel_rfl
@[go_sem] theorem F26_2:A1 (Ao Tryz.prog) 26 2=some (2,⟨1,16,.string,[.string ⟨#[]⟩]⟩):=by kernel_rfl
@[go_sem] theorem F26_3:A1 (Ao Tryz.prog) 26 3=some (3,⟨1,8,(.int .i64),[.int .i64 0]⟩):=by kernel_rfl
@[go_sem] theorem F26_4:A1 (Ao Tryz.prog) 26 4=some (4,⟨1,24,(.slice 26),[.slice none 0 0]⟩):=by kernel_rfl
@[go_sem] theorem T27:Ao Tryz.prog 27=some ⟨1,24,(.slice 100),[.slice none 0 0]⟩:=by kernel_rfl
@[go_sem] theorem D27:Bl (Ao Tryz.prog) 27=some (.slice 100):=by kernel_rfl
@[go_sem] theorem E27:Av.elemOf (Ao Tryz.prog) 27=some (100,⟨7,96,dsc Tryz.prog 100,[.bool false,.string ⟨#[]⟩,.int .i64 0,.string ⟨#[]⟩,.string ⟨#[]⟩,.int .i64 0,.slice none 0 0]⟩):=by kernel_rfl
@[go_sem] theorem T28:Ao Tryz.prog 28=some ⟨1,24,(.slice 9),[.slice none 0 0]⟩:=by kernel_rfl
@[go_sem] theorem D28:Bl (Ao Tryz.prog) 28=some (.slice 9):=by kernel_rfl
@[go_sem] theorem E28:Av.elemOf (Ao Tryz.prog) 28=some (9,⟨1,16,.string,[.string ⟨#[]⟩]⟩):=by kernel_rfl
@[go_sem] theorem T29:Ao Tryz.prog 29=some ⟨1,24,(.slice 103),[.slice none 0 0]⟩:=by kernel_rfl
@[go_sem] theorem D29:Bl (Ao Tryz.prog) 29=some (.slice 103):=by kernel_rfl
@[go_sem] theorem E29:Av.elemOf (Ao Tryz.prog) 29=some (103,⟨2,24,dsc Tryz.prog 103,[.int .i64 0,.string ⟨#[]⟩]⟩):=by kernel_rfl
@[go_sem] theorem T31:Ao Tryz.prog 31=some ⟨19,272,dsc Tryz.prog 31,[.int .i64 0,.string ⟨#[]⟩,.string ⟨#[]⟩,.int .i64 0,.slice none 0 0,.slice none 0 0,.int .i64 0,.int .i64 0,.bool false,.slice none 0 0,.slice none 0 0,.int .i64 0,.int .i64 0,.string ⟨#[]⟩,.string ⟨#[]⟩,.int .i64 0,.slice none 0 0,.string ⟨#[]⟩,.int .i64 0]⟩:=by kernel_rfl
@[go_sem] theorem A31:Dw (dsc Tryz.prog 31)=true:=by kernel_rfl
@[go_sem] theorem S31:CT (dsc Tryz.prog 31)=true:=by kernel_rfl
@[go_sem] theorem F31_0:A1 (Ao Tryz.prog) 31 0=some (0,⟨5,72,dsc Tryz.prog 26,[.int .i64 0,.string ⟨#[]⟩,.string ⟨#[]⟩,.int .i64 0,.slice none 0 0]⟩):=by kernel_rfl
@[go_sem] theorem F31_1:A1 (Ao Tryz.prog) 31 1=some (5,⟨1,24,(.slice 100),[.slice none 0 0]⟩):=by kernel_rfl
@[go_sem] theorem F31_2:A1 (Ao Tryz.prog) 31 2=some (6,⟨1,8,(.int .i64),[.int .i64 0]⟩):=by kernel_rfl
@[go_sem] theorem F31_3:A1 (Ao Tryz.prog) 31 3=some (7,⟨1,8,(.int .i64),[.int .i64 0]⟩):=by kernel_rfl
@[go_sem] theorem F31_4:A1 (Ao Tryz.prog) 31 4=some (8,⟨1,1,.bool,[.bool false]⟩):=by kernel_rfl
@[go_sem] theorem F31_5:A1 (Ao Tryz.prog) 31 5=some (9,⟨1,24,(.slice 9),[.slice none 0 0]⟩):=by kernel_rfl
@[go_sem] theorem F31_6:A1 (Ao Tryz.prog) 31 6=some (10,⟨1,24,(.slice 103),[.slice none 0 0]⟩):=by kernel_rfl
@[go_sem] theorem F31_7:A1 (Ao Tryz.prog) 31 7=some (11,⟨1,8,(.int .i64),[.int .i64 0]⟩):=by kernel_rfl
@[go_sem] theorem F31_8:A1 (Ao Tryz.prog) 31 8=some (12,⟨5,72,dsc Tryz.prog 26,[.int .i64 0,.string ⟨#[]⟩,.string ⟨#[]⟩,.int .i64 0,.slice none 0 0]⟩):=by kernel_rfl
@[go_sem] theorem F31_9:A1 (Ao Tryz.prog) 31 9=some (17,⟨1,16,.string,[.string ⟨#[]⟩]⟩):=by kernel_rfl
@[go_sem] theorem F31_10:A1 (Ao Tryz.prog) 31 10=some (18,⟨1,8,(.int .i64),[.int .i64 0]⟩):=by kernel_rfl
@[go_sem] theorem T32:Ao Tryz.prog 32=some ⟨1,24,(.slice 56),[.slice none 0 0]⟩:=by kernel_rfl
@[go_sem] theorem D32:Bl (Ao Tryz.prog) 32=some (.slice 56):=by kernel_rfl
@[go_sem] theorem E32:Av.elemOf (Ao Tryz.prog) 32=some (56,⟨10,128,dsc Tryz.prog 56,[.int .i64 0,.int .i64 0,.int .i64 0,.int .i64 0,.slice none 0 0,.int .i64 0,.int .i64 0,.string ⟨#[]⟩,.string ⟨#[]⟩,.slice none 0 0]⟩):=by kernel_rfl
@[go_sem] theorem D33:Bl (Ao Tryz.prog) 33=some (.slice 22):=by kernel_rfl
@[go_sem] theorem E33:Av.elemOf (Ao Tryz.prog) 33=some (22,⟨1,24,(.slice 5),[.slice none 0 0]⟩):=by kernel_rfl
@[go_sem] theorem T38:Ao Tryz.prog 38=some ⟨3,24,dsc Tryz.prog 38,[.int .i64 0,.int .i64 0,.int .i64 0]⟩:=by kernel_rfl
@[go_sem] theorem A38:Dw (dsc Tryz.prog 38)=true:=by kernel_rfl
@[go_sem] theorem S38:CT (dsc Tryz.prog 38)=true:=by kernel_rfl
@[go_sem] theorem F38_0:A1 (Ao Tryz.prog) 38 0=some (0,⟨1,8,(.int .i64),[.int .i64 0]⟩):=by kernel_rfl
@[go_sem] theorem F38_1:A1 (Ao Tryz.prog) 38 1=some (1,⟨1,8,(.int .i64),[.int .i64 0]⟩):=by kernel_rfl
@[go_sem] theorem F38_2:A1 (Ao Tryz.prog) 38 2=some (2,⟨1,8,(.int .i64),[.int .i64 0]⟩):=by kernel_rfl
@[go_sem] theorem T43:Ao Tryz.prog 43=some ⟨1,24,(.slice 3),[.slice none 0 0]⟩:=by kernel_rfl
@[go_sem] theorem D43:Bl (Ao Tryz.prog) 43=some (.slice 3):=by kernel_rfl
@[go_sem] theorem E43:Av.elemOf (Ao Tryz.prog) 43=some (3,⟨1,8,(.int .i64),[.int .i64 0]⟩):=by kernel_rfl
@[go_sem] theorem T53:Ao Tryz.prog 53=some ⟨1,24,(.slice 156),[.slice none 0 0]⟩:=by kernel_rfl
@[go_sem] theorem D53:Bl (Ao Tryz.prog) 53=some (.slice 156):=by kernel_rfl
@[go_sem] theorem E53:Av.elemOf (Ao Tryz.prog) 53=some (156,⟨3,32,dsc Tryz.prog 156,[.int .i64 0,.int .i64 0,.string ⟨#[]⟩]⟩):=by kernel_rfl
@[go_sem] theorem T54:Ao Tryz.prog 54=some ⟨1,24,(.slice 203),[.slice none 0 0]⟩:=by kernel_rfl
@[go_sem] theorem D54:Bl (Ao Tryz.prog) 54=some (.slice 203):=by kernel_rfl
@[go_sem] theorem E54:Av.elemOf (Ao Tryz.prog) 54=some (203,⟨2,32,dsc Tryz.prog 203,[.string ⟨#[]⟩,.string ⟨#[]⟩]⟩):=by kernel_rfl
@[go_sem] theorem T56:Ao Tryz.prog 56=some ⟨10,128,dsc Tryz.prog 56,[.int .i64 0,.int .i64 0,.int .i64 0,.int .i64 0,.slice none 0 0,.int .i64 0,.int .i64 0,.string ⟨#[]⟩,.string ⟨#[]⟩,.slice none 0 0]⟩:=by kernel_rfl
@[go_sem] theorem A56:Dw (dsc Tryz.prog 56)=true:=by kernel_rfl
@[go_sem] theorem S56:CT (dsc Tryz.prog 56)=true:=by kernel_rfl
@[go_sem] theorem F56_0:A1 (Ao Tryz.prog) 56 0=some (0,⟨1,8,(.int .i64),[.int .i64 0]⟩):=by kernel_rfl
@[go_sem] theorem F56_1:A1 (Ao Tryz.prog) 56 1=some (1,⟨1,8,(.int .i64),[.int .i64 0]⟩):=by kernel_rfl
@[go_sem] theorem F56_2:A1 (Ao Tryz.prog) 56 2=some (2,⟨1,8,(.int .i64),[.int .i64 0]⟩):=by kernel_rfl
@[go_sem] theorem F56_3:A1 (Ao Tryz.prog) 56 3=some (3,⟨1,8,(.int .i64),[.int .i64 0]⟩):=by kernel_rfl
@[go_sem] theorem F56_4:A1 (Ao Tryz.prog) 56 4=some (4,⟨1,24,(.slice 156),[.slice none 0 0]⟩):=by kernel_rfl
@[go_sem] theorem F56_5:A1 (Ao Tryz.prog) 56 5=some (5,⟨1,8,(.int .i64),[.int .i64 0]⟩):=by kernel_rfl
@[go_sem] theorem F56_6:A1 (Ao Tryz.prog) 56 6=some (6,⟨1,8,(.int .i64),[.int .i64 0]⟩):=by kernel_rfl
@[go_sem] theorem F56_7:A1 (Ao Tryz.prog) 56 7=some (7,⟨1,16,.string,[.string ⟨#[]⟩]⟩):=by kernel_rfl
@[go_sem] theorem F56_8:A1 (Ao Tryz.prog) 56 8=some (8,⟨1,16,.string,[.string ⟨#[]⟩]⟩):=by kernel_rfl
@[go_sem] theorem F56_9:A1 (Ao Tryz.prog) 56 9=some (9,⟨1,24,(.slice 203),[.slice none 0 0]⟩):=by kernel_rfl
@[go_sem] theorem D58:Bl (Ao Tryz.prog) 58=some (.slice 32):=by kernel_rfl
@[go_sem] theorem E58:Av.elemOf (Ao Tryz.prog) 58=some (32,⟨1,24,(.slice 56),[.slice none 0 0]⟩):=by kernel_rfl
@[go_sem] theorem T65:Ao Tryz.prog 65=some ⟨1,8,(.int .u64),[.int .u64 0]⟩:=by kernel_rfl
@[go_sem] theorem D65:Bl (Ao Tryz.prog) 65=some (.int .u64):=by kernel_rfl
@[go_sem] theorem T67:Ao Tryz.prog 67=some ⟨1,4,(.int .u32),[.int .u32 0]⟩:=by kernel_rfl
@[go_sem] theorem D67:Bl (Ao Tryz.prog) 67=some (.int .u32):=by kernel_rfl
@[go_sem] theorem D75:Bl (Ao Tryz.prog) 75=some (.slice 43):=by kernel_rfl
@[go_sem] theorem E75:Av.elemOf (Ao Tryz.prog) 75=some (43,⟨1,24,(.slice 3),[.slice none 0 0]⟩):=by kernel_rfl
@[go_sem] theorem T98:Ao Tryz.prog 98=some ⟨2,32,dsc Tryz.prog 98,[.slice none 0 0,.int .i64 0]⟩:=by kernel_rfl
@[go_sem] theorem S98:CT (dsc Tryz.prog 98)=true:=by kernel_rfl
@[go_sem] theorem F98_0:A1 (Ao Tryz.prog) 98 0=some (0,⟨1,24,(.slice 5),[.slice none 0 0]⟩):=by kernel_rfl
@[go_sem] theorem F98_1:A1 (Ao Tryz.prog) 98 1=some (1,⟨1,8,(.int .i64),[.int .i64 0]⟩):=by kernel_rfl
@[go_sem] theorem T100:Ao Tryz.prog 100=some ⟨7,96,dsc Tryz.prog 100,[.bool false,.string ⟨#[]⟩,.int .i64 0,.string ⟨#[]⟩,.string ⟨#[]⟩,.int .i64 0,.slice none 0 0]⟩:=by kernel_rfl
@[go_sem] theorem S100:CT (dsc Tryz.prog 100)=true:=by kernel_rfl
@[go_sem] theorem F100_0:A1 (Ao Tryz.prog) 100 0=some (0,⟨1,1,.bool,[.bool false]⟩):=by kernel_rfl
@[go_sem] theorem F100_1:A1 (Ao Tryz.prog) 100 1=some (1,⟨1,16,.string,[.string ⟨#[]⟩]⟩):=by kernel_rfl
@[go_sem] theorem F100_2:A1 (Ao Tryz.prog) 100 2=some (2,⟨5,72,dsc Tryz.prog 26,[.int .i64 0,.string ⟨#[]⟩,.string ⟨#[]⟩,.int .i64 0,.slice none 0 0]⟩):=by kernel_rfl
@[go_sem] theorem T103:Ao Tryz.prog 103=some ⟨2,24,dsc Tryz.prog 103,[.int .i64 0,.string ⟨#[]⟩]⟩:=by kernel_rfl
@[go_sem] theorem A103:Dw (dsc Tryz.prog 103)=true:=by kernel_rfl
@[go_sem] theorem S103:CT (dsc Tryz.prog 103)=true:=by kernel_rfl
@[go_sem] theorem F103_0:A1 (Ao Tryz.prog) 103 0=some (0,⟨1,8,(.int .i64),[.int .i64 0]⟩):=by kernel_rfl
@[go_sem] theorem F103_1:A1 (Ao Tryz.prog) 103 1=some (1,⟨1,16,.string,[.string ⟨#[]⟩]⟩):=by kernel_rfl
@[go_sem] theorem D104:Bl (Ao Tryz.prog) 104=some (.slice 106):=by kernel_rfl
@[go_sem] theorem E104:Av.elemOf (Ao Tryz.prog) 104=some (106,⟨1,24,(.slice 108),[.slice none 0 0]⟩):=by kernel_rfl
@[go_sem] theorem T106:Ao Tryz.prog 106=some ⟨1,24,(.slice 108),[.slice none 0 0]⟩:=by kernel_rfl
@[go_sem] theorem D106:Bl (Ao Tryz.prog) 106=some (.slice 108):=by kernel_rfl
@[go_sem] theorem E106:Av.elemOf (Ao Tryz.prog) 106=some (108,⟨11,144,dsc Tryz.prog 108,[.string ⟨#[]⟩,.int .i64 0,.int .i64 0,.int .i64 0,.int .i64 0,.slice none 0 0,.int .i64 0,.int .i64 0,.string ⟨#[]⟩,.string ⟨#[]⟩,.slice none 0 0]⟩):=by kernel_rfl
@[go_sem] theorem T108:Ao Tryz.prog 108=some ⟨11,144,dsc Tryz.prog 108,[.string ⟨#[]⟩,.int .i64 0,.int .i64 0,.int .i64 0,.int .i64 0,.slice none 0 0,.int .i64 0,.int .i64 0,.string ⟨#[]⟩,.string ⟨#[]⟩,.slice none 0 0]⟩:=by kernel_rfl
@[go_sem] theorem A108:Dw (dsc Tryz.prog 108)=true:=by kernel_rfl
@[go_sem] theorem S108:CT (dsc Tryz.prog 108)=true:=by kernel_rfl
@[go_sem] theorem F108_0:A1 (Ao Tryz.prog) 108 0=some (0,⟨1,16,.string,[.string ⟨#[]⟩]⟩):=by kernel_rfl
@[go_sem] theorem F108_1:A1 (Ao Tryz.prog) 108 1=some (1,⟨10,128,dsc Tryz.prog 56,[.int .i64 0,.int .i64 0,.int .i64 0,.int .i64 0,.slice none 0 0,.int .i64 0,.int .i64 0,.string ⟨#[]⟩,.string ⟨#[]⟩,.slice none 0 0]⟩):=by kernel_rfl
@[go_sem] theorem D113:Bl (Ao Tryz.prog) 113=some (.int .u64):=by kernel_rfl
@[go_sem] theorem T120:Ao Tryz.prog 120=some ⟨2,32,dsc Tryz.prog 120,[.slice none 0 0,.bool false]⟩:=by kernel_rfl
@[go_sem] theorem S120:CT (dsc Tryz.prog 120)=true:=by kernel_rfl
@[go_sem] theorem F120_0:A1 (Ao Tryz.prog) 120 0=some (0,⟨1,24,(.slice 5),[.slice none 0 0]⟩):=by kernel_rfl
@[go_sem] theorem F120_1:A1 (Ao Tryz.prog) 120 1=some (1,⟨1,1,.bool,[.bool false]⟩):=by kernel_rfl
@[go_sem] theorem T122:Ao Tryz.prog 122=some ⟨2,32,dsc Tryz.prog 122,[.slice none 0 0,.bool false]⟩:=by kernel_rfl
@[go_sem] theorem S122:CT (dsc Tryz.prog 122)=true:=by kernel_rfl
@[go_sem] theorem F122_0:A1 (Ao Tryz.prog) 122 0=some (0,⟨2,32,dsc Tryz.prog 120,[.slice none 0 0,.bool false]⟩):=by kernel_rfl
@[go_sem] theorem T137:Ao Tryz.prog 137=some ⟨1,24,(.slice 65),[.slice none 0 0]⟩:=by kernel_rfl
@[go_sem] theorem D137:Bl (Ao Tryz.prog) 137=some (.slice 65):=by kernel_rfl
@[go_sem] theorem E137:Av.elemOf (Ao Tryz.prog) 137=some (65,⟨1,8,(.int .u64),[.int .u64 0]⟩):=by kernel_rfl
@[go_sem] theorem T139:Ao Tryz.prog 139=some ⟨2,32,dsc Tryz.prog 139,[.int .i64 0,.slice none 0 0]⟩:=by kernel_rfl
@[go_sem] theorem A139:Dw (dsc Tryz.prog 139)=true:=by kernel_rfl
@[go_sem] theorem S139:CT (dsc Tryz.prog 139)=true:=by kernel_rfl
@[go_sem] theorem F139_0:A1 (Ao Tryz.prog) 139 0=some (0,⟨1,8,(.int .i64),[.int .i64 0]⟩):=by kernel_rfl
@[go_sem] theorem F139_1:A1 (Ao Tryz.prog) 139 1=some (1,⟨1,24,(.slice 65),[.slice none 0 0]⟩):=by kernel_rfl
@[go_sem] theorem T144:Ao Tryz.prog 144=some ⟨7,168,(.array 7 43),[.slice none 0 0,.slice none 0 0,.slice none 0 0,.slice none 0 0,.slice none 0 0,.slice none 0 0,.slice none 0 0]⟩:=by kernel_rfl
@[go_sem] theorem D144:Bl (Ao Tryz.prog) 144=some (.array 7 43):=by kernel_rfl
@[go_sem] theorem D148:Bl (Ao Tryz.prog) 148=some (.slice 53):=by kernel_rfl
@[go_sem] theorem E148:Av.elemOf (Ao Tryz.prog) 148=some (53,⟨1,24,(.slice 156),[.slice none 0 0]⟩):=by kernel_rfl
@[go_sem] theorem E151:Av.elemOf (Ao Tryz.prog) 151=some (54,⟨1,24,(.slice 203),[.slice none 0 0]⟩):=by kernel_rfl
@[go_sem] theorem T156:Ao Tryz.prog 156=some ⟨3,32,dsc Tryz.prog 156,[.int .i64 0,.int .i64 0,.string ⟨#[]⟩]⟩:=by kernel_rfl
@[go_sem] theorem A156:Dw (dsc Tryz.prog 156)=true:=by kernel_rfl
@[go_sem] theorem S156:CT (dsc Tryz.prog 156)=true:=by kernel_rfl
@[go_sem] theorem F156_0:A1 (Ao Tryz.prog) 156 0=some (0,⟨1,8,(.int .i64),[.int .i64 0]⟩):=by kernel_rfl
@[go_sem] theorem F156_1:A1 (Ao Tryz.prog) 156 1=some (1,⟨1,8,(.int .i64),[.int .i64 0]⟩):=by kernel_rfl
@[go_sem] theorem F156_2:A1 (Ao Tryz.prog) 156 2=some (2,⟨1,16,.string,[.string ⟨#[]⟩]⟩):=by kernel_rfl
@[go_sem] theorem D188:Bl (Ao Tryz.prog) 188=some (.slice 217):=by kernel_rfl
@[go_sem] theorem E188:Av.elemOf (Ao Tryz.prog) 188=some (217,⟨2,16,dsc Tryz.prog 217,[.int .i64 0,.int .u32 0]⟩):=by kernel_rfl
@[go_sem] theorem T192:Ao Tryz.prog 192=some ⟨2,16,dsc Tryz.prog 192,[.int .i64 0,.int .i64 0]⟩:=by kernel_rfl
@[go_sem] theorem A192:Dw (dsc Tryz.prog 192)=true:=by kernel_rfl
@[go_sem] theorem S192:CT (dsc Tryz.prog 192)=true:=by kernel_rfl
@[go_sem] theorem F192_0:A1 (Ao Tryz.prog) 192 0=some (0,⟨1,8,(.int .i64),[.int .i64 0]⟩):=by kernel_rfl
@[go_sem] theorem F192_1:A1 (Ao Tryz.prog) 192 1=some (1,⟨1,8,(.int .i64),[.int .i64 0]⟩):=by kernel_rfl
@[go_sem] theorem T201:Ao Tryz.prog 201=some ⟨4,96,(.array 4 43),[.slice none 0 0,.slice none 0 0,.slice none 0 0,.slice none 0 0]⟩:=by kernel_rfl
@[go_sem] theorem D201:Bl (Ao Tryz.prog) 201=some (.array 4 43):=by kernel_rfl
@[go_sem] theorem T203:Ao Tryz.prog 203=some ⟨2,32,dsc Tryz.prog 203,[.string ⟨#[]⟩,.string ⟨#[]⟩]⟩:=by kernel_rfl
@[go_sem] theorem A203:Dw (dsc Tryz.prog 203)=true:=by kernel_rfl
@[go_sem] theorem S203:CT (dsc Tryz.prog 203)=true:=by kernel_rfl
@[go_sem] theorem F203_0:A1 (Ao Tryz.prog) 203 0=some (0,⟨1,16,.string,[.string ⟨#[]⟩]⟩):=by kernel_rfl
@[go_sem] theorem F203_1:A1 (Ao Tryz.prog) 203 1=some (1,⟨1,16,.string,[.string ⟨#[]⟩]⟩):=by kernel_rfl
@[go_sem] theorem T217:Ao Tryz.prog 217=some ⟨2,16,dsc Tryz.prog 217,[.int .i64 0,.int .u32 0]⟩:=by kernel_rfl
@[go_sem] theorem A217:Dw (dsc Tryz.prog 217)=true:=by kernel_rfl
@[go_sem] theorem S217:CT (dsc Tryz.prog 217)=true:=by kernel_rfl
@[go_sem] theorem F217_0:A1 (Ao Tryz.prog) 217 0=some (0,⟨1,8,(.int .i64),[.int .i64 0]⟩):=by kernel_rfl
@[go_sem] theorem F217_1:A1 (Ao Tryz.prog) 217 1=some (1,⟨1,4,(.int .u32),[.int .u32 0]⟩):=by kernel_rfl
@[go_sem] theorem T219:Ao Tryz.prog 219=some ⟨1,8,(.pointer 221),[.pointer none]⟩:=by kernel_rfl
@[go_sem] theorem T221:Ao Tryz.prog 221=some ⟨2,32,dsc Tryz.prog 221,[.slice none 0 0,.bool false]⟩:=by kernel_rfl
@[go_sem] theorem S221:CT (dsc Tryz.prog 221)=true:=by kernel_rfl
@[go_sem] theorem F221_0:A1 (Ao Tryz.prog) 221 0=some (0,⟨1,24,(.slice 5),[.slice none 0 0]⟩):=by kernel_rfl
@[go_sem] theorem F221_1:A1 (Ao Tryz.prog) 221 1=some (1,⟨1,1,.bool,[.bool false]⟩):=by kernel_rfl
@[go_sem] theorem D225:Bl (Ao Tryz.prog) 225=some (.slice 261):=by kernel_rfl
@[go_sem] theorem E225:Av.elemOf (Ao Tryz.prog) 225=some (261,⟨2,16,dsc Tryz.prog 261,[.int .i64 0,.int .i64 0]⟩):=by kernel_rfl
@[go_sem] theorem T232:Ao Tryz.prog 232=some ⟨2,32,dsc Tryz.prog 232,[.slice none 0 0,.bool false]⟩:=by kernel_rfl
@[go_sem] theorem S232:CT (dsc Tryz.prog 232)=true:=by kernel_rfl
@[go_sem] theorem F232_0:A1 (Ao Tryz.prog) 232 0=some (0,⟨1,24,(.slice 5),[.slice none 0 0]⟩):=by kernel_rfl
@[go_sem] theorem F232_1:A1 (Ao Tryz.prog) 232 1=some (1,⟨1,1,.bool,[.bool false]⟩):=by kernel_rfl
@[go_sem] theorem T234:Ao Tryz.prog 234=some ⟨4,32,(.array 4 233),[.nilFunc,.nilFunc,.nilFunc,.nilFunc]⟩:=by kernel_rfl
@[go_sem] theorem Wc:Bl (Ao Tryz.prog) 234=some (.array 4 233):=by kernel_rfl
@[go_sem] theorem D256:Bl (Ao Tryz.prog) 256=some (.slice 65):=by kernel_rfl
@[go_sem] theorem E256:Av.elemOf (Ao Tryz.prog) 256=some (65,⟨1,8,(.int .u64),[.int .u64 0]⟩):=by kernel_rfl
@[go_sem] theorem T261:Ao Tryz.prog 261=some ⟨2,16,dsc Tryz.prog 261,[.int .i64 0,.int .i64 0]⟩:=by kernel_rfl
@[go_sem] theorem A261:Dw (dsc Tryz.prog 261)=true:=by kernel_rfl
@[go_sem] theorem F261_0:A1 (Ao Tryz.prog) 261 0=some (0,⟨1,8,(.int .i64),[.int .i64 0]⟩):=by kernel_rfl
@[go_sem] theorem F261_1:A1 (Ao Tryz.prog) 261 1=some (1,⟨1,8,(.int .i64),[.int .i64 0]⟩):=by kernel_rfl
@[go_sem] theorem T267:Ao Tryz.prog 267=some ⟨4,32,(.array 4 243),[.nilFunc,.nilFunc,.nilFunc,.nilFunc]⟩:=by kernel_rfl
@[go_sem] theorem V4:Bl (Ao Tryz.prog) 267=some (.array 4 243):=by kernel_rfl
theorem Aap(a b:Nat)(d:TypeDesc)(z:List Value):TI.isAgg ⟨a,b,d,z⟩=Dw d:=rfl
attribute [go_sem ↓] Aap A26 A31 A38 A56 A103 A108 A139 A156 A192 A203 A217 A261
theorem Bh:Tryz.prog.follows .mixedOrders=true:=by kernel_rfl
section
variable {C : Ctx} {Q : Exit → Nat → AS → Prop} {n : Nat} {s : AS}
theorem rG{N k:Nat}(hN:C.N=N)(hk:C.k=k)(orc:Nat→Option Orc)(ks keep:List Nat){id:Nat}{ops:Array Oper}
   (h: ∀ K:Nat→AS→Prop,(∀ n s,Q .normal n s→K n s)→Ha Tryz.prog orc ks n ops keep K s) (hks:ks=List.range k:=by rfl) (hok:Ct N ops false=true:=by decide+kernel):AW Tryz.prog C (.region id ops false) Q n s:=Fj Bh hN hk orc ks keep hks hok h
theorem rD{N k:Nat}(hN:C.N=N)(hk:C.k=k)(orc:Nat→Option Orc)(ks keep:List Nat){id:Nat}{ops:Array Oper}
   (h: ∀ (K:Nat→AS→Prop) (tok:List Go.Av.Touch→Prop),(∀ ts,BS (CA ops.toList []) ts=true→tok ts)→(∀ n s,Q .normal n s→K n s)→G0 Tryz.prog orc ks n ops keep tok K s) (hks:ks=List.range k:=by rfl) (hok:Ct N ops true=true:=by decide+kernel):AW Tryz.prog C (.region id ops true) Q n s:=Jx Bh hN hk orc ks keep hks hok h
theorem aT{A:Prop}(h:True∧A):A:=h.2
theorem Af{G G':Prop}{N k n':Nat}{s':AS}{p:Prop}{id:Nat}{ops:Array Oper}(keep:List Nat)(h:G')(orc:Nat→Option Orc:=noc)(ks:List Nat:=[])[i:Nx G (AW Tryz.prog C (.region id ops false) Q n s)]
   (hN:C.N=N:=by with_reducible assumption) (hk:C.k=k:=by with_reducible assumption) (hr: ∀ K:Nat→AS→Prop,(p∧K n' s')→Ha Tryz.prog orc ks n ops keep K s:=by intro K h;simp only[go_sem,seval];first|with_reducible exact h|with_reducible exact aT h|exact h|exact aT h) (hp:p:=by(try clear hqX);(repeat' (with_reducible refine And.intro ?_ ?_))<;>first|with_reducible exact True.intro|omega|exact B2 _|exact FA aS|exact IJ aS|exact ID aS|exact IG aS|with_reducible assumption|decide|(simp;done)|(simp;omega)) (hj:Nx (Q .normal n' s') G':=by infer_instance)
   (hks:ks=List.range k:=by rfl) (hok:Ct N ops false=true:=by decide+kernel):G:=
 i.h (Fj Bh hN hk orc ks keep hks hok fun K hK=>hr K ⟨hp,hK _ _ (hj.h h)⟩)
theorem AL{G G':Prop}{N k n':Nat}{s':AS}{p:Prop}{id:Nat}{ops:Array Oper}(keep:List Nat)(h:G')(orc:Nat→Option Orc:=noc)(ks:List Nat:=[])[i:Nx G (AW Tryz.prog C (.region id ops false) Q n s)]
   (hN:C.N=N:=by with_reducible assumption) (hk:C.k=k:=by with_reducible assumption) (hr: ∀ K:Nat→AS→Prop,(p∧K n' s')→Ha Tryz.prog orc ks n ops keep K s:=by intro K h;simp only[go_sem,seval];(try simp (disch:=omega) only[au]);first|with_reducible exact h|with_reducible exact aT h|exact h|exact aT h) (hp:p:=by(try clear hqX);(repeat' (with_reducible refine And.intro ?_ ?_))<;>first|with_reducible exact True.intro|omega|exact B2 _|exact FA aS|exact IJ aS|exact ID aS|exact IG aS|with_reducible assumption|decide|(simp;done)|(simp;omega)) (hj:Nx (Q .normal n' s') G':=by infer_instance)
   (hks:ks=List.range k:=by rfl) (hok:Ct N ops false=true:=by decide+kernel):G:=
 i.h (Fj Bh hN hk orc ks keep hks hok fun K hK=>hr K ⟨hp,hK _ _ (hj.h h)⟩)
theorem Do{G G':Prop}{N k n':Nat}{s':AS}{p:Prop}{id:Nat}{ops:Array Oper}(keep:List Nat)(h:G')(orc:Nat→Option Orc:=noc)(ks:List Nat:=[])[i:Nx G (AW Tryz.prog C (.region id ops false) Q n s)]
   (hN:C.N=N:=by with_reducible assumption) (hk:C.k=k:=by with_reducible assumption) (hr: ∀ K:Nat→AS→Prop,(p∧K n' s')→Ha Tryz.prog orc ks n ops keep K s:=by intro K h;simp only[go_sem,seval,hx];first|with_reducible exact h|with_reducible exact aT h|exact h|exact aT h) (hp:p:=by(try clear hqX);(repeat' (with_reducible refine And.intro ?_ ?_))<;>first|with_reducible exact True.intro|omega|exact B2 _|exact FA aS|exact IJ aS|exact ID aS|exact IG aS|with_reducible assumption|decide|(simp;done)|(simp;omega)) (hj:Nx (Q .normal n' s') G':=by infer_instance)
   (hks:ks=List.range k:=by rfl) (hok:Ct N ops false=true:=by decide+kernel):G:=
 i.h (Fj Bh hN hk orc ks keep hks hok fun K hK=>hr K ⟨hp,hK _ _ (hj.h h)⟩)
theorem AD{G G':Prop}{N k n':Nat}{s':AS}{p:Prop}{id:Nat}{ops:Array Oper}(keep:List Nat)(h:G')(orc:Nat→Option Orc:=noc)(ks:List Nat:=[])[i:Nx G (AW Tryz.prog C (.region id ops false) Q n s)]
   (hN:C.N=N:=by with_reducible assumption) (hk:C.k=k:=by with_reducible assumption) (hr: ∀ K:Nat→AS→Prop,(p∧K n' s')→Ha Tryz.prog orc ks n ops keep K s:=by intro K h;simp only[go_sem,seval,F];first|with_reducible exact h|with_reducible exact aT h|exact h|exact aT h) (hp:p:=by(try clear hqX);(repeat' (with_reducible refine And.intro ?_ ?_))<;>first|with_reducible exact True.intro|omega|exact B2 _|exact FA aS|exact IJ aS|exact ID aS|exact IG aS|with_reducible assumption|decide|(simp;done)|(simp;omega)) (hj:Nx (Q .normal n' s') G':=by infer_instance)
   (hks:ks=List.range k:=by rfl) (hok:Ct N ops false=true:=by decide+kernel):G:=
 i.h (Fj Bh hN hk orc ks keep hks hok fun K hK=>hr K ⟨hp,hK _ _ (hj.h h)⟩)
theorem A6{G G':Prop}{N k n':Nat}{s':AS}{p:Prop}{id:Nat}{ops:Array Oper}(keep:List Nat)(h:G')(orc:Nat→Option Orc:=noc)(ks:List Nat:=[])[i:Nx G (AW Tryz.prog C (.region id ops false) Q n s)]
   (hN:C.N=N:=by with_reducible assumption) (hk:C.k=k:=by with_reducible assumption) (hr: ∀ K:Nat→AS→Prop,(p∧K n' s')→Ha Tryz.prog orc ks n ops keep K s:=by intro K h;simp only[go_sem,seval,F];(try simp (disch:=omega) only[au]);first|with_reducible exact h|with_reducible exact aT h|exact h|exact aT h) (hp:p:=by(try clear hqX);(repeat' (with_reducible refine And.intro ?_ ?_))<;>first|with_reducible exact True.intro|omega|exact B2 _|exact FA aS|exact IJ aS|exact ID aS|exact IG aS|with_reducible assumption|decide|(simp;done)|(simp;omega)) (hj:Nx (Q .normal n' s') G':=by infer_instance)
   (hks:ks=List.range k:=by rfl) (hok:Ct N ops false=true:=by decide+kernel):G:=
 i.h (Fj Bh hN hk orc ks keep hks hok fun K hK=>hr K ⟨hp,hK _ _ (hj.h h)⟩)
theorem Dg{G G':Prop}{N k n':Nat}{s':AS}{p:Prop}{id:Nat}{ops:Array Oper}(keep:List Nat)(h:G')(orc:Nat→Option Orc:=noc)(ks:List Nat:=[])[i:Nx G (AW Tryz.prog C (.region id ops false) Q n s)]
   (hN:C.N=N:=by with_reducible assumption) (hk:C.k=k:=by with_reducible assumption) (hr: ∀ K:Nat→AS→Prop,(p∧K n' s')→Ha Tryz.prog orc ks n ops keep K s:=by intro K h;simp only[go_sem,reduceIte,Nat.reduceAdd,Nat.reduceMul,Nat.reduceEqDiff,reduceCtorEq,Nat.reduceSub,Nat.reduceLeDiff,Nat.reducePow];(try simp (disch:=omega) only[au]);first|with_reducible exact h|with_reducible exact aT h|exact h|exact aT h) (hp:p:=by(try clear hqX);(repeat' (with_reducible refine And.intro ?_ ?_))<;>first|with_reducible exact True.intro|omega|exact B2 _|exact FA aS|exact IJ aS|exact ID aS|exact IG aS|with_reducible assumption|decide|(simp;done)|(simp;omega)) (hj:Nx (Q .normal n' s') G':=by infer_instance)
   (hks:ks=List.range k:=by rfl) (hok:Ct N ops false=true:=by decide+kernel):G:=
 i.h (Fj Bh hN hk orc ks keep hks hok fun K hK=>hr K ⟨hp,hK _ _ (hj.h h)⟩)
theorem BB{G G':Prop}{N k n':Nat}{s':AS}{p:Prop}{id:Nat}{ops:Array Oper}(keep:List Nat)(h:G')(orc:Nat→Option Orc:=noc)(ks:List Nat:=[])[i:Nx G (AW Tryz.prog C (.region id ops false) Q n s)]
   (hN:C.N=N:=by with_reducible assumption) (hk:C.k=k:=by with_reducible assumption) (hr: ∀ K:Nat→AS→Prop,(p∧K n' s')→Ha Tryz.prog orc ks n ops keep K s:=by intro K h;simp only[go_sem,reduceIte,Nat.reduceAdd,Nat.reduceMul,Nat.reduceEqDiff,reduceCtorEq,Nat.reduceSub,Nat.reduceLeDiff,Nat.reducePow,F];(try simp (disch:=omega) only[au]);first|with_reducible exact h|with_reducible exact aT h|exact h|exact aT h) (hp:p:=by(try clear hqX);(repeat' (with_reducible refine And.intro ?_ ?_))<;>first|with_reducible exact True.intro|omega|exact B2 _|exact FA aS|exact IJ aS|exact ID aS|exact IG aS|with_reducible assumption|decide|(simp;done)|(simp;omega)) (hj:Nx (Q .normal n' s') G':=by infer_instance)
   (hks:ks=List.range k:=by rfl) (hok:Ct N ops false=true:=by decide+kernel):G:=
 i.h (Fj Bh hN hk orc ks keep hks hok fun K hK=>hr K ⟨hp,hK _ _ (hj.h h)⟩)
theorem IB{G G':Prop}{N k n':Nat}{s':AS}{p:Prop}{id:Nat}{ops:Array Oper}(keep:List Nat)(h:G')(orc:Nat→Option Orc:=noc)(ks:List Nat:=[])[i:Nx G (AW Tryz.prog C (.region id ops true) Q n s)]
   (hN:C.N=N:=by with_reducible assumption) (hk:C.k=k:=by with_reducible assumption) (hr: ∀ (K:Nat→AS→Prop) (tok:List Go.Av.Touch→Prop),(∀ ts,BS (CA ops.toList []) ts=true→tok ts)→(p∧K n' s')→G0 Tryz.prog orc ks n ops keep tok K s:=by intro K tok htok h;simp only[go_sem,seval];(try simp (disch:=omega) only[au]);refine⟨htok _ dK,?_⟩;first|with_reducible exact h|with_reducible exact aT h|exact h|exact aT h) (hp:p:=by(try clear hqX);(repeat' (with_reducible refine And.intro ?_ ?_))<;>first|with_reducible exact True.intro|omega|exact B2 _|exact FA aS|exact IJ aS|exact ID aS|exact IG aS|with_reducible assumption|decide|(simp;done)|(simp;omega)) (hj:Nx (Q .normal n' s') G':=by infer_instance)
   (hks:ks=List.range k:=by rfl) (hok:Ct N ops true=true:=by decide+kernel):G:=
 i.h (Jx Bh hN hk orc ks keep hks hok fun K tok htok hK=>hr K tok htok ⟨hp,hK _ _ (hj.h h)⟩)
theorem DI{G G':Prop}{N k n':Nat}{s':AS}{p:Prop}{id:Nat}{ops:Array Oper}(keep:List Nat)(h:G')(orc:Nat→Option Orc:=noc)(ks:List Nat:=[])[i:Nx G (AW Tryz.prog C (.region id ops true) Q n s)]
   (hN:C.N=N:=by with_reducible assumption) (hk:C.k=k:=by with_reducible assumption) (hr: ∀ (K:Nat→AS→Prop) (tok:List Go.Av.Touch→Prop),(∀ ts,BS (CA ops.toList []) ts=true→tok ts)→(p∧K n' s')→G0 Tryz.prog orc ks n ops keep tok K s:=by intro K tok htok h;simp only[go_sem,seval,F];(try simp (disch:=omega) only[au]);refine⟨htok _ dK,?_⟩;first|with_reducible exact h|with_reducible exact aT h|exact h|exact aT h) (hp:p:=by(try clear hqX);(repeat' (with_reducible refine And.intro ?_ ?_))<;>first|with_reducible exact True.intro|omega|exact B2 _|exact FA aS|exact IJ aS|exact ID aS|exact IG aS|with_reducible assumption|decide|(simp;done)|(simp;omega)) (hj:Nx (Q .normal n' s') G':=by infer_instance)
   (hks:ks=List.range k:=by rfl) (hok:Ct N ops true=true:=by decide+kernel):G:=
 i.h (Jx Bh hN hk orc ks keep hks hok fun K tok htok hK=>hr K tok htok ⟨hp,hK _ _ (hj.h h)⟩)
theorem dtyL{G G':Prop}{N k n':Nat}{s':AS}{p:Prop}{id:Nat}{ops:Array Oper}(keep:List Nat)(h:G')(orc:Nat→Option Orc:=noc)(ks:List Nat:=[])[i:Nx G (AW Tryz.prog C (.region id ops true) Q n s)]
   (hN:C.N=N:=by with_reducible assumption) (hk:C.k=k:=by with_reducible assumption) (hr: ∀ (K:Nat→AS→Prop) (tok:List Go.Av.Touch→Prop),(∀ ts,BS (CA ops.toList []) ts=true→tok ts)→(p∧K n' s')→G0 Tryz.prog orc ks n ops keep tok K s:=by intro K tok htok h;simp only[go_sem,reduceIte,Nat.reduceAdd,Nat.reduceMul,Nat.reduceEqDiff,reduceCtorEq,Nat.reduceSub,Nat.reduceLeDiff,Nat.reducePow];(try simp (disch:=omega) only[au]);refine⟨htok _ dK,?_⟩;first|with_reducible exact h|with_reducible exact aT h|exact h|exact aT h) (hp:p:=by(try clear hqX);(repeat' (with_reducible refine And.intro ?_ ?_))<;>first|with_reducible exact True.intro|omega|exact B2 _|exact FA aS|exact IJ aS|exact ID aS|exact IG aS|with_reducible assumption|decide|(simp;done)|(simp;omega)) (hj:Nx (Q .normal n' s') G':=by infer_instance)
   (hks:ks=List.range k:=by rfl) (hok:Ct N ops true=true:=by decide+kernel):G:=
 i.h (Jx Bh hN hk orc ks keep hks hok fun K tok htok hK=>hr K tok htok ⟨hp,hK _ _ (hj.h h)⟩)
theorem PR{G G':Prop}{N k n':Nat}{s':AS}{p:Prop}{id:Nat}{ops:Array Oper}(keep:List Nat)(h:G')(orc:Nat→Option Orc:=noc)(ks:List Nat:=[])[i:Nx G (AW Tryz.prog C (.region id ops true) Q n s)]
   (hN:C.N=N:=by with_reducible assumption) (hk:C.k=k:=by with_reducible assumption) (hr: ∀ (K:Nat→AS→Prop) (tok:List Go.Av.Touch→Prop),(∀ ts,BS (CA ops.toList []) ts=true→tok ts)→(p∧K n' s')→G0 Tryz.prog orc ks n ops keep tok K s:=by intro K tok htok h;simp only[go_sem,reduceIte,Nat.reduceAdd,Nat.reduceMul,Nat.reduceEqDiff,reduceCtorEq,Nat.reduceSub,Nat.reduceLeDiff,Nat.reducePow,F];(try simp (disch:=omega) only[au]);refine⟨htok _ dK,?_⟩;first|with_reducible exact h|with_reducible exact aT h|exact h|exact aT h) (hp:p:=by(try clear hqX);(repeat' (with_reducible refine And.intro ?_ ?_))<;>first|with_reducible exact True.intro|omega|exact B2 _|exact FA aS|exact IJ aS|exact ID aS|exact IG aS|with_reducible assumption|decide|(simp;done)|(simp;omega)) (hj:Nx (Q .normal n' s') G':=by infer_instance)
   (hks:ks=List.range k:=by rfl) (hok:Ct N ops true=true:=by decide+kernel):G:=
 i.h (Jx Bh hN hk orc ks keep hks hok fun K tok htok hK=>hr K tok htok ⟨hp,hK _ _ (hj.h h)⟩)
end
theorem exT{N k:Nat}{R:Res→Prop}{A B:Res→Ctx→Prop}(oc:Nat→Nat→Option Orc)(kt:Nat→List Nat)(hb:EX N k R B)
   (st: ∀ (OC:Nat→Nat→Option Orc) (KT:Nat→List Nat),OC=oc→KT=kt→ ∀ x C,C.N=N→C.k=k→B x C→A x C:=by intro OC KT hO hT xX C hN hk hqX;(repeat first|(with_reducible first|apply s1|apply s2|apply s5|apply s6|refine s7 ?_|apply s3|apply s4|apply s8|apply s9)|refine AX rfl ?_|refine Ay rfl ?_|(refine Ww Bh hN hk OC KT [0] rfl dK (fun K hK=>?_);simp only[go_sem,seval,hO,hT];(iterate 3 (try simp (disch:=omega) only[au];try simp only[go_sem,seval,hO,hT]));(first|with_reducible refine hK _ _ ?_|refine obK (hK _ _ ?_));clear hK K)|(refine Wt Bh hN hk OC KT [0] rfl dK (fun K tok htok hK=>?_);simp only[go_sem,seval,hO,hT];(iterate 3 (try simp (disch:=omega) only[au];try simp only[go_sem,seval,hO,hT]));refine⟨htok _ dK,?_⟩;(first|with_reducible refine hK _ _ ?_|refine obK (hK _ _ ?_));clear hK K htok tok));exact hqX):EX N k R A:=
 EX.step (st oc kt rfl rfl) hb
theorem exF{N k:Nat}{R:Res→Prop}{A B:Res→Ctx→Prop}(oc:Nat→Nat→Option Orc)(kt:Nat→List Nat)(hb:EX N k R B)
   (st: ∀ (OC:Nat→Nat→Option Orc) (KT:Nat→List Nat),OC=oc→KT=kt→ ∀ x C,C.N=N→C.k=k→B x C→A x C:=by intro OC KT hO hT xX C hN hk hqX;(repeat first|(with_reducible first|apply s1|apply s2|apply s5|apply s6|refine s7 ?_|apply s3|apply s4|apply s8|apply s9)|refine AX rfl ?_|refine Ay rfl ?_|(refine Ww Bh hN hk OC KT [0] rfl dK (fun K hK=>?_);simp only[go_sem,seval,hO,hT,F];(iterate 3 (try simp (disch:=omega) only[au];try simp only[go_sem,seval,hO,hT,F]));(first|with_reducible refine hK _ _ ?_|refine obK (hK _ _ ?_));clear hK K)|(refine Wt Bh hN hk OC KT [0] rfl dK (fun K tok htok hK=>?_);simp only[go_sem,seval,hO,hT,F];(iterate 3 (try simp (disch:=omega) only[au];try simp only[go_sem,seval,hO,hT,F]));refine⟨htok _ dK,?_⟩;(first|with_reducible refine hK _ _ ?_|refine obK (hK _ _ ?_));clear hK K htok tok));exact hqX):EX N k R A:=
 EX.step (st oc kt rfl rfl) hb
theorem Dd{N k:Nat}{R:Res→Prop}{A B:Res→Ctx→Prop}(kp:List Nat)(hb:EX N k R B)(orc:Nat→Option Orc:=noc)(ks:List Nat:=[])
   (st: ∀ (OC:Nat→Option Orc) (KP:List Nat),OC=orc→KP=kp→ ∀ x C,C.N=N→C.k=k→B x C→A x C:=by intro OC KP hO hT xX C hN hk hqX;(repeat first|(with_reducible first|apply s1|apply s2|apply s5|apply s6|refine s7 ?_|apply s3|apply s4|apply s8|apply s9)|refine AX rfl ?_|refine Ay rfl ?_);refine rG hN hk OC _ KP fun K hK=>?_;simp only[go_sem,seval,hO,hT];(first|with_reducible refine hK _ _ ?_|refine obK (hK _ _ ?_));clear hK K;(repeat first|(with_reducible first|apply s1|apply s2|apply s5|apply s6|refine s7 ?_|apply s3|apply s4|apply s8|apply s9)|refine AX rfl ?_|refine Ay rfl ?_);exact hqX):EX N k R A:=
 EX.step (st orc kp rfl rfl) hb
theorem Gc{N k:Nat}{R:Res→Prop}{A B:Res→Ctx→Prop}(kp:List Nat)(hb:EX N k R B)(orc:Nat→Option Orc:=noc)(ks:List Nat:=[])
   (st: ∀ (OC:Nat→Option Orc) (KP:List Nat),OC=orc→KP=kp→ ∀ x C,C.N=N→C.k=k→B x C→A x C:=by intro OC KP hO hT xX C hN hk hqX;(repeat first|(with_reducible first|apply s1|apply s2|apply s5|apply s6|refine s7 ?_|apply s3|apply s4|apply s8|apply s9)|refine AX rfl ?_|refine Ay rfl ?_);refine rG hN hk OC _ KP fun K hK=>?_;simp only[go_sem,seval,hO,hT];(try simp (disch:=omega) only[au]);(first|with_reducible refine hK _ _ ?_|refine obK (hK _ _ ?_));clear hK K;(repeat first|(with_reducible first|apply s1|apply s2|apply s5|apply s6|refine s7 ?_|apply s3|apply s4|apply s8|apply s9)|refine AX rfl ?_|refine Ay rfl ?_);exact hqX):EX N k R A:=
 EX.step (st orc kp rfl rfl) hb
theorem exXx{N k:Nat}{R:Res→Prop}{A B:Res→Ctx→Prop}(kp:List Nat)(hb:EX N k R B)(orc:Nat→Option Orc:=noc)(ks:List Nat:=[])
   (st: ∀ (OC:Nat→Option Orc) (KP:List Nat),OC=orc→KP=kp→ ∀ x C,C.N=N→C.k=k→B x C→A x C:=by intro OC KP hO hT xX C hN hk hqX;(repeat first|(with_reducible first|apply s1|apply s2|apply s5|apply s6|refine s7 ?_|apply s3|apply s4|apply s8|apply s9)|refine AX rfl ?_|refine Ay rfl ?_);refine rG hN hk OC _ KP fun K hK=>?_;simp only[go_sem,seval,hx,hO,hT];(first|with_reducible refine hK _ _ ?_|refine obK (hK _ _ ?_));clear hK K;(repeat first|(with_reducible first|apply s1|apply s2|apply s5|apply s6|refine s7 ?_|apply s3|apply s4|apply s8|apply s9)|refine AX rfl ?_|refine Ay rfl ?_);exact hqX):EX N k R A:=
 EX.step (st orc kp rfl rfl) hb
theorem exFx{N k:Nat}{R:Res→Prop}{A B:Res→Ctx→Prop}(kp:List Nat)(hb:EX N k R B)(orc:Nat→Option Orc:=noc)(ks:List Nat:=[])
   (st: ∀ (OC:Nat→Option Orc) (KP:List Nat),OC=orc→KP=kp→ ∀ x C,C.N=N→C.k=k→B x C→A x C:=by intro OC KP hO hT xX C hN hk hqX;(repeat first|(with_reducible first|apply s1|apply s2|apply s5|apply s6|refine s7 ?_|apply s3|apply s4|apply s8|apply s9)|refine AX rfl ?_|refine Ay rfl ?_);refine rG hN hk OC _ KP fun K hK=>?_;simp only[go_sem,seval,F,hO,hT];(first|with_reducible refine hK _ _ ?_|refine obK (hK _ _ ?_));clear hK K;(repeat first|(with_reducible first|apply s1|apply s2|apply s5|apply s6|refine s7 ?_|apply s3|apply s4|apply s8|apply s9)|refine AX rfl ?_|refine Ay rfl ?_);exact hqX):EX N k R A:=
 EX.step (st orc kp rfl rfl) hb
theorem EF{N k:Nat}{R:Res→Prop}{A B:Res→Ctx→Prop}(kp:List Nat)(hb:EX N k R B)(orc:Nat→Option Orc:=noc)(ks:List Nat:=[])
   (st: ∀ (OC:Nat→Option Orc) (KP:List Nat),OC=orc→KP=kp→ ∀ x C,C.N=N→C.k=k→B x C→A x C:=by intro OC KP hO hT xX C hN hk hqX;(repeat first|(with_reducible first|apply s1|apply s2|apply s5|apply s6|refine s7 ?_|apply s3|apply s4|apply s8|apply s9)|refine AX rfl ?_|refine Ay rfl ?_);refine rG hN hk OC _ KP fun K hK=>?_;simp only[go_sem,seval,F,hO,hT];(try simp (disch:=omega) only[au]);(first|with_reducible refine hK _ _ ?_|refine obK (hK _ _ ?_));clear hK K;(repeat first|(with_reducible first|apply s1|apply s2|apply s5|apply s6|refine s7 ?_|apply s3|apply s4|apply s8|apply s9)|refine AX rfl ?_|refine Ay rfl ?_);exact hqX):EX N k R A:=
 EX.step (st orc kp rfl rfl) hb
theorem NI{N k:Nat}{R:Res→Prop}{A B:Res→Ctx→Prop}(hb:EX N k R B)(st: ∀ x C,C.N=N→C.k=k→B x C→A x C:=by intro xX C hN hk hqX;(repeat first|(with_reducible first|apply s1|apply s2|apply s5|apply s6|refine s7 ?_|apply s3|apply s4|apply s8|apply s9)|refine AX rfl ?_|refine Ay rfl ?_);exact hqX):EX N k R A:=EX.step st hb
theorem Dx{T:Tab}{rv:List ResultVar}{r:AV}{hs':List (Option Ent)}{k:Nat}{l:List AV}{p:Prop}{s:AS}(ids:List (Option Nat))(D:List Nat)(h1:AY T s rv=some (l,p):=by rfl)(hr:wk (lkh s.hp) ids D (Az l) r:=by simp[Az,lk,lkh,I,str,B,U8,U64,U32]<;>omega)(hh:Am (lkh s.hp) ids D (hs'.zipIdx.map fun x=>(x.2,x.1)):=by first|(simp[Am,Ai,Ak,lkh];done)|simp[Am,Ai,Ak,lkh,I,str])
   (h2:p:=by simp) (hi:IdsOk ids D k (hs'.zipIdx.map fun x=>(x.2,x.1)):=by exact⟨by simp[Al],by simp[Al],sP⟩) (hl:ids.length=hs'.length:=by simp):Di T rv r hs' k .ret 0 s:=BY ids D h1 hr hh h2 hi hl
theorem D6{T:Tab}{rv:List ResultVar}{r:AV}{hs':List (Option Ent)}{k:Nat}{l:List AV}{p:Prop}{s:AS}(ids:List (Option Nat))(D:List Nat)(h1:AY T s rv=some (l,p):=by rfl)(hr:wk (lkh s.hp) ids D (Az l) r:=by simp[Az,lk,lkh,wk,wkL,wkE,I,str,B,U8,U64,U32]<;>omega)(hh:Am (lkh s.hp) ids D (hs'.zipIdx.map fun x=>(x.2,x.1)):=by first|(simp[Am,Ai,Ak,lkh];done)|(simp[Am,Ai,Ak,lkh,AF,AN,I,str];done)|simp[Am,Ai,Ak,wkL,wk,wkE,lkh,I,str])
   (h2:p:=by simp) (hi:IdsOk ids D k (hs'.zipIdx.map fun x=>(x.2,x.1)):=by exact⟨by simp[Al],by simp[Al],sP⟩) (hl:ids.length=hs'.length:=by simp):Di T rv r hs' k .ret 0 s:=BY ids D h1 hr hh h2 hi hl
theorem Ea{s:AS}{k n':Nat}{s':AS}(ids:List (Option Nat))(D:List Nat)(he:AK (lkh s.hp) ids D s.env s'.env:=by simp[AK,lk,lkh,I,str,B,U8,U64,U32]<;>omega)(hh:Am (lkh s.hp) ids D s'.hp:=by first|(simp[Am,Ai,Ak,lkh];done)|simp[Am,Ai,Ak,lkh,I,str])(hi:IdsOk ids D k s'.hp:=by exact⟨by simp[Al],by simp[Al],by first|(simp;done)|rfl⟩)(hl:ids.length≤n':=by simp):Wk k s n' s':=CL ids D he hh hi hl
theorem Oa{s:AS}{k n':Nat}{s':AS}(ids:List (Option Nat))(D:List Nat)(he:AK (lkh s.hp) ids D s.env s'.env:=by simp[AK,lk,lkh,I,str,B,U8,U64,U32,hs]<;>omega)(hh:Am (lkh s.hp) ids D s'.hp:=by first|(simp[Am,Ai,Ak,lkh,hs];done)|simp[Am,Ai,Ak,lkh,I,str,hs])(hi:IdsOk ids D k s'.hp:=by exact⟨by simp[Al],by simp[Al],by first|(simp;done)|rfl⟩)(hl:ids.length≤n':=by simp):Wk k s n' s':=CL ids D he hh hi hl
theorem KJ{s:AS}{k n':Nat}{s':AS}(ids:List (Option Nat))(D:List Nat)(he:AK (lkh s.hp) ids D s.env s'.env:=by simp[AK,wk,wkL,wkE,lk,I,str,B,U8,U64,U32]<;>omega)(hh:Am (lkh s.hp) ids D s'.hp:=by first|(simp[Am,Ai,Ak,lkh];done)|(simp[Am,Ai,Ak,lkh,AF,AN,I,str];done)|simp[Am,Ai,Ak,wkL,wk,wkE,lkh,I,str])(hi:IdsOk ids D k s'.hp:=by exact⟨by simp[Al],by simp[Al],by first|(simp;done)|rfl⟩)(hl:ids.length≤n':=by simp):Wk k s n' s':=CL ids D he hh hi hl
theorem G1{s:AS}{k n':Nat}{s':AS}(ids:List (Option Nat))(D:List Nat)(he:AK (lkh s.hp) ids D s.env s'.env:=by simp[AK,wk,wkL,wkE,lk,I,str,B,U8,U64,U32,hs]<;>omega)(hh:Am (lkh s.hp) ids D s'.hp:=by first|(simp[Am,Ai,Ak,lkh,hs];done)|(simp[Am,Ai,Ak,lkh,AF,AN,I,str,hs];done)|simp[Am,Ai,Ak,wkL,wk,wkE,lkh,I,str,hs])(hi:IdsOk ids D k s'.hp:=by exact⟨by simp[Al],by simp[Al],by first|(simp;done)|rfl⟩)(hl:ids.length≤n':=by simp):Wk k s n' s':=CL ids D he hh hi hl
theorem E7{s:AS}{k n':Nat}{s':AS}(ids:List (Option Nat))(D:List Nat)(he:AK (lkh s.hp) ids D s.env s'.env:=by simp[AK,lk,lkh,I,str,B,U8,U64,U32];first|done|omega)(hh:Am (lkh s.hp) ids D s'.hp:=by simp[Am,Ai,Ak,lkh,I,str])(hi:IdsOk ids D k s'.hp:=by exact⟨by simp[Al],by simp[Al],by first|(simp;done)|rfl⟩)(hl:ids.length≤n':=by simp):Wk k s n' s':=CL ids D he hh hi hl
theorem acN{g:FuncId}{fn:Func}{c:Code}{az:List AV}{hs hs':List (Option Ent)}{r:AV}(N k:Nat)(hf:Tryz.prog.funcs[g]? =some fn){rv:List ResultVar}(h: ∀ C:Ctx,C.N=N→C.k=k→AW Tryz.prog C c (Di (Ao Tryz.prog) rv r hs' k) k ⟨Ei 0 az,FN 0 hs⟩)(hb:fn.body=some c:=by rfl)(hname:(fn.name== "runtime.NumGoroutine")=false:=by rfl)(hN:fn.ntmps=N:=by rfl)(has:az.length≤N:=by simp)(hk:hs.length=k:=by rfl)(hrv:fn.results=rv.toArray:=by rfl):Ad Tryz.prog g az hs r hs':=Ahm N k hf hb hname hN has hk hrv h
theorem AO{p:Prop}{s:AS}{k n':Nat}{s':AS}(hs:p)(ids:List (Option Nat))(D:List Nat)(he:p→AK (lkh s.hp) ids D s.env s'.env:=by intro hs;simp[AK,lk,lkh,I,str,B,U8,U64,U32,hs];first|done|omega)(hh:p→Am (lkh s.hp) ids D s'.hp:=by intro hs;simp[Am,Ai,Ak,lkh,I,str,hs])(hi:IdsOk ids D k s'.hp:=by exact⟨by simp[Al],by simp[Al],by first|(simp;done)|rfl⟩)(hl:ids.length≤n':=by simp):Wk k s n' s':=CL ids D (he hs) (hh hs) hi hl
theorem Cz{p:Prop}{s:AS}{k n':Nat}{s':AS}(hs:p)(ids:List (Option Nat))(D:List Nat)(he:p→AK (lkh s.hp) ids D s.env s'.env:=by intro hs;simp[AK,lk,lkh,I,str,B,U8,U64,U32,hs]<;>omega)(hh:p→Am (lkh s.hp) ids D s'.hp:=by intro hs;first|(simp[Am,Ai,Ak,lkh,hs];done)|simp[Am,Ai,Ak,lkh,I,str,hs])(hi:IdsOk ids D k s'.hp:=by exact⟨by simp[Al],by simp[Al],by first|(simp;done)|rfl⟩)(hl:ids.length≤n':=by simp):Wk k s n' s':=CL ids D (he hs) (hh hs) hi hl
theorem Fm{p:Prop}{s:AS}{k n':Nat}{s':AS}(hs:p)(ids:List (Option Nat))(D:List Nat)(he:p→AK (lkh s.hp) ids D s.env s'.env:=by intro hs;simp[AK,wk,wkL,wkE,lk,I,str,B,U8,U64,U32,hs]<;>omega)(hh:p→Am (lkh s.hp) ids D s'.hp:=by intro hs;first|(simp[Am,Ai,Ak,lkh,hs];done)|(simp[Am,Ai,Ak,lkh,AF,AN,I,str,hs];done)|simp[Am,Ai,Ak,wkL,wk,wkE,lkh,I,str,hs])(hi:IdsOk ids D k s'.hp:=by exact⟨by simp[Al],by simp[Al],by first|(simp;done)|rfl⟩)(hl:ids.length≤n':=by simp):Wk k s n' s':=CL ids D (he hs) (hh hs) hi hl
theorem Bk{p:Prop}{s:AS}{k n':Nat}{s':AS}(hs:p)(ids:List (Option Nat))(D:List Nat)(he:p→AK (lkh s.hp) ids D s.env s'.env:=by intro hs;simp[AK,wk,wkL,lk,lkh,I,str,B,U64,hs])(hh:p→Am (lkh s.hp) ids D s'.hp:=by intro hs;simp[Am,Ai,Ak,lkh,I,str,B,hs])(hi:IdsOk ids D k s'.hp:=by exact⟨by simp[Al],by simp[Al],by first|(simp;done)|rfl⟩)(hl:ids.length≤n':=by simp):Wk k s n' s':=CL ids D (he hs) (hh hs) hi hl
theorem Hb{p:Prop}{s:AS}{k n':Nat}{s':AS}(hs:p)(ids:List (Option Nat))(D:List Nat)(he:p→AK (lkh s.hp) ids D s.env s'.env:=by intro hs;simp[AK,lk,lkh,I,str,B,U64,hs])(hh:p→Am (lkh s.hp) ids D s'.hp:=by intro hs;simp[Am,Ai,Ak,lkh,I,str,B,hs])(hi:IdsOk ids D k s'.hp:=by exact⟨by simp[Al],by simp[Al],by first|(simp;done)|rfl⟩)(hl:ids.length≤n':=by simp):Wk k s n' s':=CL ids D (he hs) (hh hs) hi hl
theorem B0{p:Prop}{T:Tab}{rv:List ResultVar}{r:AV}{hs':List (Option Ent)}{k:Nat}{l:List AV}{q:Prop}{s:AS}(hs:p)(ids:List (Option Nat))(D:List Nat)(h1:AY T s rv=some (l,q):=by rfl)(hr:p→wk (lkh s.hp) ids D (Az l) r:=by intro hs;simp[Az,lk,wk,wkL,wkE,I,str,B,U8,U64,U32,hs])(hh:p→Am (lkh s.hp) ids D (hs'.zipIdx.map fun x=>(x.2,x.1)):=by intro hs;first|(simp[Am,Ai,Ak,lkh,hs];done)|simp[Am,Ai,Ak,lkh,I,str,B,hs])
   (h2:q:=by simp) (hi:IdsOk ids D k (hs'.zipIdx.map fun x=>(x.2,x.1)):=by exact⟨by simp[Al],by simp[Al],sP⟩) (hl:ids.length=hs'.length:=by simp):Di T rv r hs' k .ret 0 s:=BY ids D h1 (hr hs) (hh hs) h2 hi hl
end Go.Proofs.YtpkhodjlnodagaaGreatDoor
