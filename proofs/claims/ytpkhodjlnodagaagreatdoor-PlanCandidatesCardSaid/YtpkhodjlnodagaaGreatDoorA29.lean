/- Part 29 of the proof of PlanCandidates. -/
import Derived.Test.YtpkhodjlnodagaaGreatDoorA14
import Derived.Test.YtpkhodjlnodagaaGreatDoorA28
set_option linter.unusedSimpArgs false
set_option linter.unusedVariables false
set_option linter.unusedSectionVars false
namespace Go.Proofs.YtpkhodjlnodagaaGreatDoor
open Go.Av
set_option maxHeartbeats 4000000
set_option maxRecDepth 10000
attribute [local irreducible] XH XO Ad Af A0
def pfx(s p:S):Bool:=decide (p.length≤s.length)&&(s.take p.length==p)
theorem AfF(s p:S):Ad Tryz.prog 65 [str s,str p] (fun r=>r=B (pfx s p)):=by
 refine Au 18 Tryz.func65 ?_
 refine Aa 0 [0,1] ?_
 refine Ae 1 ?_
 refine Ac 6 ?_
 refine BV 10 (fun g10=>?_) (fun g10=>?_)
 any_goals(refine AP 8 ?_;refine XO.done [4] ?_;refine Ap ?_;((refine Bc ?_;simp only[Ax,B,pfx];first|(have:p.length≤s.length:=(by omega);simp[this];done)|(have: ¬ p.length≤s.length:=(by omega);simp[this];done))))
theorem Aai(s p:S):Ad Tryz.prog 28 [str s,str p] (fun r=>r=B (pfx s p)):=by
 refine Au 8 Tryz.func28 ?_
 refine Aa 0 [0,1] ?_
 refine Ae 1 ?_
 refine Ac 2 ?_
 refine AC (AfF _ _) ?_;rintro _ rfl
 refine Ac 1 ?_
 refine XO.done [4] ?_
 refine Ap ?_;(exact BT rfl)
theorem AeU(s:S):Ad Tryz.prog 207 [str s] (fun r=>r=B false):=by
 refine Au 6 Tryz.func207 ?_
 refine Aa 0 [0] ?_
 refine Aa 1 [2] ?_
 refine Ap ?_;((refine Bc ?_;simp[Ax,B]))
theorem XE(s:S):Ad Tryz.prog 169 [str s] (fun r=>r=B false):=by
 refine Au 6 Tryz.func169 ?_
 refine Aa 0 [0] ?_
 refine Aa 1 [2] ?_
 refine Ap ?_;((refine Bc ?_;simp[Ax,B]))
theorem TL(s t:S):Ad Tryz.prog 168 [str s,str t] (fun r=>r=B (Op.bytesLess s t)):=by
 refine Au 17 Tryz.func168 ?_
 refine Aa 0 [0,1] ?_
 refine Ae 1 ?_
 refine Ac 1 ?_
 refine AC (AeU _) ?_;rintro _ rfl
 refine Ac 1 ?_
 refine BE 7 ?_
 refine Ac 1 ?_
 refine Ac 1 ?_
 refine Ac 3 ?_
 refine BE 12 ?_
 refine Ac 5 ?_
 refine XO.done [4] ?_
 refine Ap ?_;(exact BT rfl)
theorem fd2(a:Int)(h:0≤a):a.fdiv (2^min 1 64)=a / 2:=by
 show a.fdiv 2=_
 rw[Int.fdiv_eq_ediv_of_nonneg _ (by decide)]
theorem Vk{α:Type}(l:List α)(i:Nat):(∃ x,l[i]? =some x∧i<l.length)∨l.length≤i:=by
 rcases Nat.lt_or_ge i l.length with h|h
 · exact .inl ⟨l[i],List.getElem?_eq_getElem h,h⟩
 · exact .inr h
theorem BC{α:Type}{l:List α}{i:Nat}{x d:α}(h:l[i]? =some x):l.getD i d=x:=by simp[List.getD,h]
theorem AeG(d:List S)(w:S)(hd:d.length≤2^40):Ad Tryz.prog 112 [.sl 1 (Ay d),str w] (fun r=>r= .tup [I (CZ d w),B (C2 d w)]):=by
 refine Au 54 Tryz.func112 ?_
 refine Aa 0 [0,1] ?_
 refine Aa 1 [0,1,6] ?_
 refine Aa 2 [0,1,6,7,8] ?_
 refine AX 0 (fun s:Nat×Nat=>⟨[(0,.sl 1 (Ay d)),(1,str w),(6,I d.length),(7,I s.1),(8,I s.2)],[]⟩) (fun s=>s.1≤s.2∧s.2≤d.length∧ ∃ f,s.2-s.1≤f∧Fo d w f s.1 s.2=CZ d w) (fun s=>s.2-s.1) (0,d.length) (HG [] []) ?_ (h0:=⟨by simp,by simp,d.length,by simp,rfl⟩);rintro⟨i,j⟩ hI0 Y0 hY0;skip
 refine XW.at 3 ?_;obtain⟨m1,m2,f,m3,m4⟩:=hI0;simp only at m1 m2 m3 m4
 refine Aa 3 [0,1,6,7,8,15] ?_
 first|refine Cd 15 ?_|refine AM 15 ?_|refine Az 15 (fun c15=>?_) (fun c15=>?_)|refine By 15 (fun c15=>?_) (fun c15=>?_)
 refine XW.at 4 ?_;obtain⟨g,rfl⟩: ∃ g,f=g+1:=⟨f-1,by omega⟩;rw[Fo,if_pos (by omega)]at m4;have hx:((i:Int)+j).fdiv (2^min 1 64)=(((i+j) / 2:Nat):Int):=(by rw[fd2 _ (by omega)];omega);obtain⟨x,hx2,_⟩:=Bd d ((i+j) / 2) (by omega);rw[BC hx2]at m4
 refine Ba 4 [0,1,6,7,8,9] ?_
 refine XW.at 5 ?_;have hx:=hx2
 refine Ae 5 ?_
 refine Aq 5 ?_
 refine AC (TL _ _) ?_;rintro _ rfl
 refine XO.done [0,1,6,7,8,9,27] ?_
 first|refine Cd 27 ?_|refine AM 27 ?_|refine Az 27 (fun c27=>?_) (fun c27=>?_)|refine By 27 (fun c27=>?_) (fun c27=>?_)
 refine XW.at 6 ?_;rw[if_pos c27]at m4
 refine AJ 6 [0,1,6,7,8] ?_
 any_goals(refine XW.at 7 ?_;rw[if_neg (by simp[c27])]at m4;refine Aa 7 [0,1,6,7,8] ?_)
 any_goals(refine XH.le ?_;first|(refine hY0 ((i+j) / 2+1,j) ?_ ?_ _ _ (Cy [] [] ?_ ?_);(next=>exact⟨by simp only;omega,m2,g,by simp only;omega,m4⟩);(next=>first|omega|(simp;done)|(simp;omega));(next=>simp[AR,lk,lkh,I,str,B,U8,U64,U32];first|done|omega);(next=>simp[Am,Ai,Aj,lkh,I,str]))|(refine hY0 (i,(i+j) / 2) ?_ ?_ _ _ (Cy [] [] ?_ ?_);(next=>exact⟨by simp only;omega,by simp only;omega,g,by simp only;omega,m4⟩);(next=>first|omega|(simp;done)|(simp;omega));(next=>simp[AR,lk,lkh,I,str,B,U8,U64,U32];first|done|omega);(next=>simp[Am,Ai,Aj,lkh,I,str])))
 refine XW.at 8 ?_;have hij:i=j:=(by omega);subst hij;have m5:CZ d w=i:=(by rw[← m4];cases f<;>simp[Fo]);rcases Vk d i with ⟨x,hx,hlt⟩|hlt<;>first|(have m6:C2 d w=(x==w):=(by rw[C2,m5,hx]))|(have m6:C2 d w=false:=(by simp[C2,m5,List.getElem?_eq_none hlt]))
 any_goals(refine Ae 8 ?_;refine Aq 5 ?_;(first|refine Gx 35 ?_|refine BE 35 ?_|refine BV 35 (fun g35=>?_) (fun g35=>?_)|refine XO.split 35 (fun g35=>?_) (fun g35=>?_)))
 any_goals(exfalso;omega)
 any_goals refine Aq 7 ?_
 first|refine Gx 42 ?_|refine BE 42 ?_|refine BV 42 (fun g42=>?_) (fun g42=>?_)|refine XO.split 42 (fun g42=>?_) (fun g42=>?_)
 any_goals(refine Aq 4 ?_;(first|(refine AC (XE _) ?_;rintro _ rfl)|refine Ac 1 ?_);refine Aq 1 ?_)
 any_goals(first|refine Gx 48 ?_|refine BE 48 ?_|refine BV 48 (fun g48=>?_) (fun g48=>?_)|refine XO.split 48 (fun g48=>?_) (fun g48=>?_))
 any_goals(refine Aq 1 ?_;(first|(refine AC (XE _) ?_;rintro _ rfl)|refine Ac 1 ?_);refine Aq 5 ?_;refine XO.done [4,5] ?_;(refine Ap ?_;first|((refine Bc ?_;first|(simp only[Ax,I,B,m5,m6];done)|(simp only[Ax,I,B,m5,m6];first|rfl|(simp[*];done))))|fail))
theorem Qj(d:List S)(w:S)(hd:d.length≤2^40):Ad Tryz.prog 60 [.sl 1 (Ay d),str w] (fun r=>r= .tup [I (CZ d w),B (C2 d w)]):=by
 refine Au 11 Tryz.func60 ?_
 refine Aa 0 [0,1] ?_
 refine Ae 1 ?_
 refine Ac 2 ?_
 refine AC (AeG _ _ hd) ?_;rintro _ rfl
 refine Ac 4 ?_
 refine XO.done [4,5] ?_
 refine Ap ?_;first|(exact BT rfl)|fail
end Go.Proofs.YtpkhodjlnodagaaGreatDoor
