/- Part 29 of the proof of PlanSkipsOnlyWhatCannotMatch. -/
import Derived.Test.YtpkhodjlnodagaaGreatDoorB14
import Derived.Test.YtpkhodjlnodagaaGreatDoorB28
set_option linter.unusedSimpArgs false
set_option linter.unusedVariables false
set_option linter.unusedSectionVars false
namespace Go.Proofs.YtpkhodjlnodagaaGreatDoor
open Go.Av
set_option maxHeartbeats 4000000
set_option maxRecDepth 10000
attribute [local irreducible] XH XO Ae Ad AU
def pfx(s p:S):Bool:=decide (p.length≤s.length)&&(s.take p.length==p)
theorem AhF(s p:S):Ae Tryz.prog 65 [str s,str p] (fun r=>r=B (pfx s p)):=by
 refine Ax 18 Tryz.func65 ?_
 refine Aa 0 [0,1] ?_
 refine Ah 1 ?_
 refine Ac 6 ?_
 refine Cn 10 (fun g10=>?_) (fun g10=>?_)
 any_goals(refine A2 8 ?_;refine XO.done [4] ?_;refine Aq ?_;((refine Bo ?_;simp only[Az,B,pfx];first|(have:p.length≤s.length:=oM;simp[this];done)|(have: ¬ p.length≤s.length:=oM;simp[this];done))))
theorem AbL(s p:S):Ae Tryz.prog 28 [str s,str p] (fun r=>r=B (pfx s p)):=by
 refine Ax 8 Tryz.func28 ?_
 refine Aa 0 [0,1] ?_
 refine Ah 1 ?_
 refine Ac 2 ?_
 refine AG (AhF _ _) ?_;rintro _ rfl
 refine Ac 1 ?_
 refine XO.done [4] ?_
 refine Aq ?_;(exact Bi rfl)
theorem AeJ(s:S):Ae Tryz.prog 207 [str s] (fun r=>r=B false):=by
 refine Ax 6 Tryz.func207 ?_
 refine Aa 0 [0] ?_
 refine Aa 1 [2] ?_
 refine Aq ?_;((refine Bo ?_;simp[Az,B]))
theorem Ye(s:S):Ae Tryz.prog 169 [str s] (fun r=>r=B false):=by
 refine Ax 6 Tryz.func169 ?_
 refine Aa 0 [0] ?_
 refine Aa 1 [2] ?_
 refine Aq ?_;((refine Bo ?_;simp[Az,B]))
theorem U4(s t:S):Ae Tryz.prog 168 [str s,str t] (fun r=>r=B (Op.bytesLess s t)):=by
 refine Ax 17 Tryz.func168 ?_
 refine Aa 0 [0,1] ?_
 refine Ah 1 ?_
 refine Ac 1 ?_
 refine AG (AeJ _) ?_;rintro _ rfl
 refine Ac 1 ?_
 refine BQ 7 ?_
 refine Ac 1 ?_
 refine Ac 1 ?_
 refine Ac 3 ?_
 refine BQ 12 ?_
 refine Ac 5 ?_
 refine XO.done [4] ?_
 refine Aq ?_;(exact Bi rfl)
theorem fd2(a:Int)(h:0≤a):a.fdiv (2^min 1 64)=a / 2:=by
 show a.fdiv 2=_
 rw[Int.fdiv_eq_ediv_of_nonneg _ dC]
theorem VW{α:Type}(l:List α)(i:Nat):(∃ x,l[i]? =some x∧i<l.length)∨l.length≤i:=by
 rcases Nat.lt_or_ge i l.length with h|h
 · exact .inl ⟨l[i],List.getElem?_eq_getElem h,h⟩
 · exact .inr h
theorem Bz{α:Type}{l:List α}{i:Nat}{x d:α}(h:l[i]? =some x):l.getD i d=x:=by simp[List.getD,h]
theorem Agl(d:List S)(w:S)(hd:d.length≤2^40):Ae Tryz.prog 112 [.sl 1 (Au d),str w] (fun r=>r= .tup [I (CD d w),B (DV d w)]):=by
 refine Ax 54 Tryz.func112 ?_
 refine Aa 0 [0,1] ?_
 refine Aa 1 [0,1,6] ?_
 refine Aa 2 [0,1,6,7,8] ?_
 refine A8 0 (fun s:Nat×Nat=>⟨[(0,.sl 1 (Au d)),(1,str w),(6,I d.length),(7,I s.1),(8,I s.2)],[]⟩) (fun s=>s.1≤s.2∧s.2≤d.length∧ ∃ f,s.2-s.1≤f∧FR d w f s.1 s.2=CD d w) (fun s=>s.2-s.1) (0,d.length) (E7 [] []) ?_ (h0:=⟨sP,sP,d.length,sP,rfl⟩);rintro⟨i,j⟩ hI0 Y0 hY0;skip
 refine XW.at 3 ?_;obtain⟨m1,m2,f,m3,m4⟩:=hI0;simp only at m1 m2 m3 m4
 refine Aa 3 [0,1,6,7,8,15] ?_
 first|refine CF 15 ?_|refine A3 15 ?_|refine AC 15 (fun c15=>?_) (fun c15=>?_)|refine Bx 15 (fun c15=>?_) (fun c15=>?_)
 refine XW.at 4 ?_;obtain⟨g,rfl⟩: ∃ g,f=g+1:=⟨f-1,oM⟩;rw[FR,if_pos oM]at m4;have hx:((i:Int)+j).fdiv (2^min 1 64)=(((i+j) / 2:Nat):Int):=(by rw[fd2 _ oM];omega);obtain⟨x,hx2,_⟩:=Bm d ((i+j) / 2) oM;rw[Bz hx2]at m4
 refine A4 4 [0,1,6,7,8,9] ?_
 refine XW.at 5 ?_;have hx:=hx2
 refine Ah 5 ?_
 refine Aw 5 ?_
 refine AG (U4 _ _) ?_;rintro _ rfl
 refine XO.done [0,1,6,7,8,9,27] ?_
 first|refine CF 27 ?_|refine A3 27 ?_|refine AC 27 (fun c27=>?_) (fun c27=>?_)|refine Bx 27 (fun c27=>?_) (fun c27=>?_)
 refine XW.at 6 ?_;rw[if_pos c27]at m4
 refine AQ 6 [0,1,6,7,8] ?_
 any_goals(refine XW.at 7 ?_;rw[if_neg (by simp[c27])]at m4;refine Aa 7 [0,1,6,7,8] ?_)
 any_goals(refine XH.le ?_;first|(refine hY0 ((i+j) / 2+1,j) ?_ ?_ _ _ (CL [] [] ?_ ?_);(next=>exact⟨by simp only;omega,m2,g,by simp only;omega,m4⟩);(next=>first|omega|(simp;done)|(simp;omega));(next=>simp[AK,lk,lkh,I,str,B,U8,U64,U32];first|done|omega);(next=>simp[Am,Ai,Ak,lkh,I,str]))|(refine hY0 (i,(i+j) / 2) ?_ ?_ _ _ (CL [] [] ?_ ?_);(next=>exact⟨by simp only;omega,by simp only;omega,g,by simp only;omega,m4⟩);(next=>first|omega|(simp;done)|(simp;omega));(next=>simp[AK,lk,lkh,I,str,B,U8,U64,U32];first|done|omega);(next=>simp[Am,Ai,Ak,lkh,I,str])))
 refine XW.at 8 ?_;have hij:i=j:=oM;subst hij;have m5:CD d w=i:=(by rw[← m4];cases f<;>simp[FR]);rcases VW d i with ⟨x,hx,hlt⟩|hlt<;>first|(have m6:DV d w=(x==w):=(by rw[DV,m5,hx]))|(have m6:DV d w=false:=(by simp[DV,m5,List.getElem?_eq_none hlt]))
 any_goals(refine Ah 8 ?_;refine Aw 5 ?_;(first|refine GK 35 ?_|refine BQ 35 ?_|refine Cn 35 (fun g35=>?_) (fun g35=>?_)|refine XO.split 35 (fun g35=>?_) (fun g35=>?_)))
 any_goals(exfalso;omega)
 any_goals refine Aw 7 ?_
 first|refine GK 42 ?_|refine BQ 42 ?_|refine Cn 42 (fun g42=>?_) (fun g42=>?_)|refine XO.split 42 (fun g42=>?_) (fun g42=>?_)
 any_goals(refine Aw 4 ?_;(first|(refine AG (Ye _) ?_;rintro _ rfl)|refine Ac 1 ?_);refine Aw 1 ?_)
 any_goals(first|refine GK 48 ?_|refine BQ 48 ?_|refine Cn 48 (fun g48=>?_) (fun g48=>?_)|refine XO.split 48 (fun g48=>?_) (fun g48=>?_))
 any_goals(refine Aw 1 ?_;(first|(refine AG (Ye _) ?_;rintro _ rfl)|refine Ac 1 ?_);refine Aw 5 ?_;refine XO.done [4,5] ?_;(refine Aq ?_;first|((refine Bo ?_;first|(simp only[Az,I,B,m5,m6];done)|(simp only[Az,I,B,m5,m6];first|rfl|(simp[*];done))))|fail))
theorem QT(d:List S)(w:S)(hd:d.length≤2^40):Ae Tryz.prog 60 [.sl 1 (Au d),str w] (fun r=>r= .tup [I (CD d w),B (DV d w)]):=by
 refine Ax 11 Tryz.func60 ?_
 refine Aa 0 [0,1] ?_
 refine Ah 1 ?_
 refine Ac 2 ?_
 refine AG (Agl _ _ hd) ?_;rintro _ rfl
 refine Ac 4 ?_
 refine XO.done [4,5] ?_
 refine Aq ?_;first|(exact Bi rfl)|fail
end Go.Proofs.YtpkhodjlnodagaaGreatDoor
