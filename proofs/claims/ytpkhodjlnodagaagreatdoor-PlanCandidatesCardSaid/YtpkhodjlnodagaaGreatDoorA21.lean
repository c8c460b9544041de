/- Part 21 of the proof of PlanCandidates. -/
import Derived.Test.YtpkhodjlnodagaaGreatDoorA04
import Derived.Test.YtpkhodjlnodagaaGreatDoorA20
set_option linter.unusedSimpArgs false
set_option linter.unusedVariables false
set_option linter.unusedSectionVars false
namespace Go.Proofs.YtpkhodjlnodagaaGreatDoor
open Go.Av
set_option maxHeartbeats 4000000
attribute [local irreducible] Af
def Bu(l:List Int):List (List AV):=l.map fun n=>[U64 n]
theorem ND(l:List Int):(Bu l).length=l.length:=by simp[Bu]
theorem W7(l:List Int)(i:Nat):(Bu l)[i]? =(l[i]?).map (fun s=>[U64 s]):=by simp[Bu]
@[simp] theorem Ac2(k:Nat)(l:List Int):AA k (Bu l)=true:=by
 simp only[AA,Bu,List.all_map,List.all_eq_true]
 intro x _
 rfl
theorem WS(L:List Nat)(l:List Int):BK L (Bu l)=Bu l:=by
 simp only[BK,Bu,List.map_map]
 apply List.map_congr_left
 intro x _
 rfl
theorem Vn(l:List Int)(s:Int):Bu l++[[AV.val (.int .u64 s)]]=Bu (l++[s]):=by simp[Bu,U64]
@[simp] theorem AhI(l:List Int):Ex (Bu l)=true:=by
 simp only[Ex,Bu,List.all_map,List.all_eq_true]
 intro x _
 rfl
theorem Xh(ρ:Nat→Nat)(l:List Int):(Bu l).map (BJ ρ)=Bu l:=EB ρ (Ac2 0 l)
@[simp] theorem Ahk:Ak []=[]:=rfl
@[simp] theorem Ahd:Ay []=[]:=rfl
@[simp] theorem FH:Ab []=[]:=rfl
@[simp] theorem Ahn:Bu []=[]:=rfl
attribute [go_sem] ND W7 WS Vn Xh
theorem W2(n:Int):0≤IntKind.u32.wrap n∧IntKind.u32.wrap n<4294967296:=⟨Int.emod_nonneg _ (by decide),Int.emod_lt_of_pos _ (by decide)⟩
theorem ZO(n:Nat):List.replicate n [AV.val (.int .u64 0)]=Bu (List.replicate n 0):=by simp[Bu,U64]
attribute [go_sem] ZO
theorem AfA(m:Nat)(h1:1≤m)(h2:m≤65536):Af Tryz.prog 206 [I m,I 3] [] (.tup [.agg [I 3,.osl 0 ((m+63) / 64) 1],I 0]) [some ⟨65,1,Bu (List.replicate ((m+63) / 64) 0)⟩]:=by
 refine acN 27 0 Tryz.func206 fun C hN hk=>?_
 have b1:decide ((m:Int)<1)=false:=HB (by omega)
 have b2:decide ((m:Int)>65536)=false:=Fg (by omega)
 have w1:=As (n:=(m:Int)+63) (by omega)
 have w2:((m:Int)+63).tdiv 64=(((m+63) / 64:Nat):Int):=by
   rw[Int.tdiv_eq_ediv_of_nonneg (by omega)];omega
 have w3:=As (n:=(((m+63) / 64:Nat):Int)) (by omega)
 refine Ah [0,1,4] ?_
 refine rG hN hk noc [] [0,1,4,19] fun K hK=>?_;simp only[go_sem,seval,b1,b2]
 try simp (disch:=omega) only[au]
 try simp only[go_sem,seval,b1,b2]
 iterate 3 try(simp (disch:=omega) only[au];try simp only[go_sem,seval,b1,b2])
 refine hK _ _ ?_;clear hK K;refine nx ?_;refine cF ?_;have F:=And.intro w1 (And.intro w2 w3);refine A5 [4,5] ?_;clear F
 refine AW.ret (B0 [some 1] [] (by simp only[AY,go_sem,seval];rfl) (by simp[Ax,lk,lkh,wk,wkL,wkE,I,str,B,U8,U64,U32]<;>omega) (by first|(simp[Am,Ai,Aj,lkh];done)|(simp[Am,Ai,Aj,lkh,AE,AO,I,str];done)|simp[Am,Ai,Aj,wkL,wk,wkE,lkh,I,str]))
theorem TH(h:Nat)(b:List Int)(h1:1≤h)(h2:h≤8)(hb:1≤b.length)(hb2:b.length≤1024):Af Tryz.prog 144 [.agg [I h,.sl 1 (Bu b)]] [] (I 0) []:=by
 refine acN 23 0 Tryz.func144 fun C hN hk=>?_
 have b1:decide ((h:Int)<1)=false:=HB (by omega)
 have b2:decide ((h:Int)>8)=false:=Fg (by omega)
 have b3:decide ((b.length:Int)<1)=false:=HB (by omega)
 have b4:decide ((b.length:Int)>1024)=false:=Fg (by omega)
 refine Ah [1] ?_
 refine rG hN hk noc [] [22] fun K hK=>?_;simp only[go_sem,seval,b1,b2,b3,b4]
 try simp (disch:=omega) only[au]
 try simp only[go_sem,seval,b1,b2,b3,b4]
 iterate 3 try(simp (disch:=omega) only[au];try simp only[go_sem,seval,b1,b2,b3,b4])
 (first|with_reducible refine hK _ _ ?_|refine obK (hK _ _ ?_));clear hK K;refine nx ?_
 refine cF ?_;refine Ah [2] ?_
 refine AW.ret (En [] [])
end Go.Proofs.YtpkhodjlnodagaaGreatDoor
