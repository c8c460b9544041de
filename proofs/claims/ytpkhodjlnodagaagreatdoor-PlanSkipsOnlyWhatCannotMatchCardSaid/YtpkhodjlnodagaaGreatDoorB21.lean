/- Part 21 of the proof of PlanSkipsOnlyWhatCannotMatch. -/
import Derived.Test.YtpkhodjlnodagaaGreatDoorB04
import Derived.Test.YtpkhodjlnodagaaGreatDoorB20
set_option linter.unusedSimpArgs false
set_option linter.unusedVariables false
set_option linter.unusedSectionVars false
namespace Go.Proofs.YtpkhodjlnodagaaGreatDoor
open Go.Av
set_option maxHeartbeats 4000000
attribute [local irreducible] Ad
def BN(l:List Int):List (List AV):=l.map fun n=>[U64 n]
theorem NF(l:List Int):(BN l).length=l.length:=by simp[BN]
theorem W1(l:List Int)(i:Nat):(BN l)[i]? =(l[i]?).map (fun s=>[U64 s]):=by simp[BN]
@[simp] theorem Aeq(k:Nat)(l:List Int):AB k (BN l)=true:=by
 simp only[AB,BN,List.all_map,List.all_eq_true]
 intro x _
 rfl
theorem Xo(L:List Nat)(l:List Int):BF L (BN l)=BN l:=by
 simp only[BF,BN,List.map_map]
 apply List.map_congr_left
 intro x _
 rfl
theorem Vy(l:List Int)(s:Int):BN l++[[AV.val (.int .u64 s)]]=BN (l++[s]):=by simp[BN,U64]
@[simp] theorem Aje(l:List Int):EC (BN l)=true:=by
 simp only[EC,BN,List.all_map,List.all_eq_true]
 intro x _
 rfl
theorem Xj(ρ:Nat→Nat)(l:List Int):(BN l).map (BK ρ)=BN l:=DT ρ (Aeq 0 l)
@[simp] theorem AiL:An []=[]:=rfl
@[simp] theorem Aie:Au []=[]:=rfl
@[simp] theorem FV:Ab []=[]:=rfl
@[simp] theorem Aii:BN []=[]:=rfl
attribute [go_sem] NF W1 Xo Vy Xj
theorem WV(n:Int):0≤IntKind.u32.wrap n∧IntKind.u32.wrap n<4294967296:=⟨Int.emod_nonneg _ dC,Int.emod_lt_of_pos _ dC⟩
theorem Zr(n:Nat):List.replicate n [AV.val (.int .u64 0)]=BN (List.replicate n 0):=by simp[BN,U64]
attribute [go_sem] Zr
theorem AgA(m:Nat)(h1:1≤m)(h2:m≤65536):Ad Tryz.prog 206 [I m,I 3] [] (.tup [.agg [I 3,.osl 0 ((m+63) / 64) 1],I 0]) [some ⟨65,1,BN (List.replicate ((m+63) / 64) 0)⟩]:=by
 refine acN 27 0 Tryz.func206 fun C hN hk=>?_
 have b1:decide ((m:Int)<1)=false:=GP oM
 have b2:decide ((m:Int)>65536)=false:=EV oM
 have w1:=Ar (n:=(m:Int)+63) oM
 have w2:((m:Int)+63).tdiv 64=(((m+63) / 64:Nat):Int):=by
   rw[Int.tdiv_eq_ediv_of_nonneg oM];omega
 have w3:=Ar (n:=(((m+63) / 64:Nat):Int)) oM
 refine Af [0,1,4] ?_
 refine rG hN hk noc [] [0,1,4,19] fun K hK=>?_;simp only[go_sem,seval,b1,b2]
 try simp (disch:=omega) only[au]
 try simp only[go_sem,seval,b1,b2]
 iterate 3 try(simp (disch:=omega) only[au];try simp only[go_sem,seval,b1,b2])
 refine hK _ _ ?_;clear hK K;refine nx ?_;refine cF ?_;have F:=And.intro w1 (And.intro w2 w3);refine A6 [4,5] ?_;clear F
 refine AW.ret (BY [some 1] [] (by simp only[AY,go_sem,seval];rfl) (by simp[Az,lk,lkh,wk,wkL,wkE,I,str,B,U8,U64,U32]<;>omega) (by first|(simp[Am,Ai,Ak,lkh];done)|(simp[Am,Ai,Ak,lkh,AF,AN,I,str];done)|simp[Am,Ai,Ak,wkL,wk,wkE,lkh,I,str]))
theorem Adt(h:Nat)(b:List Int)(h1:1≤h)(h2:h≤8)(hb:1≤b.length)(hb2:b.length≤1024):Ad Tryz.prog 144 [.agg [I h,.sl 1 (BN b)]] [] (I 0) []:=by
 refine acN 23 0 Tryz.func144 fun C hN hk=>?_
 have b1:decide ((h:Int)<1)=false:=GP oM
 have b2:decide ((h:Int)>8)=false:=EV oM
 have b3:decide ((b.length:Int)<1)=false:=GP oM
 have b4:decide ((b.length:Int)>1024)=false:=EV oM
 refine Af [1] ?_
 refine rG hN hk noc [] [22] fun K hK=>?_;simp only[go_sem,seval,b1,b2,b3,b4]
 try simp (disch:=omega) only[au]
 try simp only[go_sem,seval,b1,b2,b3,b4]
 iterate 3 try(simp (disch:=omega) only[au];try simp only[go_sem,seval,b1,b2,b3,b4])
 (first|with_reducible refine hK _ _ ?_|refine obK (hK _ _ ?_));clear hK K;refine nx ?_
 refine cF ?_;refine Af [2] ?_
 refine AW.ret (D6 [] [])
end Go.Proofs.YtpkhodjlnodagaaGreatDoor
