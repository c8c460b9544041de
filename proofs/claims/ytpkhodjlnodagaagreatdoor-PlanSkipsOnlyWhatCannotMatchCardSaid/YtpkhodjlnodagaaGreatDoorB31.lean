/- Part 31 of the proof of PlanSkipsOnlyWhatCannotMatch. -/
import Derived.Test.YtpkhodjlnodagaaGreatDoorB15
import Derived.Test.YtpkhodjlnodagaaGreatDoorB30
set_option linter.unusedSimpArgs false
set_option linter.unusedVariables false
set_option linter.unusedSectionVars false
namespace Go.Proofs.YtpkhodjlnodagaaGreatDoor
open Go.Av
set_option maxHeartbeats 4000000
set_option maxRecDepth 10000
attribute [local irreducible] XH XO Ae Ad AU
def dcR(d:List S)(i:Nat):List UInt8:=(AM d).drop (A0 d i).length
theorem J6(d:List S)(i:Nat)(h:i≤d.length):AM d=A0 d i++dcR d i:=by
 obtain⟨t,ht⟩:=KM d i h
 rw[dcR,ht,List.drop_left]
theorem Ahj{d:List S}{i:Nat}(h:i<d.length):dcR d i=E6 d i++dcR d (i+1):=by
 have h1:=J6 d i oM
 have h2:=J6 d (i+1) h
 rw[show A0 d (i+1)=A0 d i++E6 d i from rfl,List.append_assoc]at h2
 exact List.append_cancel_left (h1.symm.trans h2)
theorem AhH(d:List S):AM d=Ap d.length++dcR d 0:=J6 d 0 oM
theorem Ag9(d:List S):dcR d d.length=[]:=by
 have h:=J6 d d.length (Nat.le_refl _)
 have:=congrArg List.length h
 simp only[AM,List.length_append]at this
 exact List.eq_nil_of_length_eq_zero oM
theorem SB(d:List S)(hc:Bb d=0)(i:Nat):(dcR d i).length≤70000000:=by
 have:=Lb d hc d.length (Nat.le_refl _)
 rw[dcR,List.length_drop];unfold AM;omega
def Pa(d:List S):Nat→S
 |0=>[]
 |i+1=>d.getD i []
theorem AcV{a b:S}:a.take (Cu a b)=b.take (Cu a b):=by
 have h:=(Mw a b).1
 apply List.ext_getElem?
 intro j
 rw[List.getElem?_take,List.getElem?_take]
 split
 · rename_i hj;obtain⟨x,h1,h2⟩:=h j hj;rw[h1,h2]
 · rfl
theorem Uz{x y:S}:y.take (Cu y x)++x.drop (Cu y x)=x:=by rw[AcV,List.take_append_drop]
abbrev YV(l:Nat):AV:= .val (.func (.yield l) #[] #[])
abbrev dcH(d:List S)(i j:Nat):List (Nat×Option Ent):=[(0,some (cuE 221 (dcR d j) false)),(1,some ⟨28,1,[[.osl 4 i 1]]⟩),(2,some ⟨3,1,[[I d.length]]⟩),(3,some ⟨219,1,[[.ptr 0 2 0 0]]⟩),(4,some ⟨9,1,Au (d.take i)⟩)]
abbrev dcH'(d:List S)(i j:Nat):List (Nat×Option Ent):=[(0,some (cuE 221 (dcR d j) false)),(1,some ⟨28,1,[[.osl 5 i 1]]⟩),(2,some ⟨3,1,[[I d.length]]⟩),(3,some ⟨219,1,[[.ptr 0 2 0 0]]⟩),(4,none),(5,some ⟨9,1,Au (d.take i)⟩)]
theorem Ahc(d:List S)(hc:Bb d=0)(l:Nat)(assign body:Code)(cenv:List (Nat×AV))(c:Code)(hcode:Tryz.f208.body=some c)(hB: ∀ i x,d[i]? =some x→ ∃ nB sB,RD Tryz.prog 41 5 assign 5 ⟨Fi ([16].zip [str x]) cenv,dcH d i (i+1)⟩ nB sB∧RD Tryz.prog 41 5 body nB sB 6 ⟨[],dcH' d (i+1) (i+1)⟩): @XW ⟨some ⟨l,41,lk cenv,#[16],assign,body⟩⟩ Tryz.prog 46 4 (fun x=>x=(.tup [],[some (cuE 221 [] false),some ⟨28,1,[[.osl 4 d.length 1]]⟩,some ⟨3,1,[[I d.length]]⟩,some ⟨219,1,[[.ptr 0 2 0 0]]⟩,some ⟨9,1,Au d⟩])) [] c [] 4 ⟨[(0,YV l),(1,.ptr 2 1 0 0),(2,.ptr 3 1 0 0)],[(0,some (cuE 221 (dcR d 0) false)),(1,some ⟨28,1,[[.val (.slice none 0 0)]]⟩),(2,some ⟨3,1,[[I d.length]]⟩),(3,some ⟨219,1,[[.ptr 0 2 0 0]]⟩)]⟩:=by
 have hdn:=(Es d hc).2
 letI Y:Yl:=⟨some ⟨l,41,lk cenv,#[16],assign,body⟩⟩;obtain rfl:=Option.some.inj (show some _=some c from hcode);refine QV ?_
 refine Ah 0 ?_
 refine Ac 1 ?_
 refine A7 [0,1,2,4] ?_
 refine Ah 1 ?_
 refine Ac 2 ?_
 refine A7 [0,2,4,7,8] ?_
 refine A8 5 (fun i:Nat=>⟨[(0,YV l),(2,.ptr 3 1 0 0),(4,str (Pa d i)),(7,I d.length),(8,I i)],dcH d i i⟩) (fun i=>i≤d.length) (fun i=>d.length-i) 0 (AO (And.intro (And.intro Pa.eq_1 Pa.eq_2) (And.intro cuE.eq_1 B.eq_1)) [some 0,some 1,some 2,some 3,none] []) ?_;rintro i hI0 Y0 hY0;skip
 refine Ah 2 ?_
 refine Ac 1 ?_
 refine A7 [0,2,4,7,8,9] ?_
 refine AC 9 (fun c9=>?_) (fun c9=>?_)
 refine XW.at 3 ?_;obtain⟨x,hx,hxm⟩:=Bm d i oM;have hxl:=Oh hc hxm;have hel:=SB d hc i;have hel2:=SB d hc (i+1);have hrs:=Ahj (d:=d) (i:=i) oM;have hlx:Pa d (i+1)=x:=Bz hx;have hxi:=hx
 refine Ah 3 ?_
 refine Aw 2 ?_
 refine A7 [0,2,4,5,7,8] ?_
 refine Ah 4 ?_
 refine Ac 1 ?_
 refine A7 [0,2,4,5,6,7,8] ?_
 refine XW.at 5 ?_;have hx:=Abw i
 refine Ah 5 ?_
 refine A2 3 ?_
 refine A7 [0,2,4,6,7,8,13] ?_
 refine Bx 13 (fun c13=>?_) (fun c13=>?_)
 refine XW.at 6 ?_;have h16: ¬ i%16=0:=(by intro h;rw[h]at c13;simp at c13);obtain⟨y,hxy,hym⟩:=Bm d (i-1) oM;have hyl:=Oh hc hym;have hlw:Pa d i=y:=(by cases i with|zero=>exact absurd rfl h16|succ i=>exact Bz hxy);have hcl:=Pz y x;have hdl:(x.drop (Cu y x)).length=x.length-Cu y x:=List.length_drop;have hr1:dcR d i=Ap (Cu y x)++(Ap (x.drop (Cu y x)).length++x.drop (Cu y x)++dcR d (i+1)):=(by rw[hrs,WK hxi hxy h16,hdl];simp only[List.append_assoc]);have hvl:=Bf (x.length-Cu y x);have hbl:(Ap (x.drop (Cu y x)).length++x.drop (Cu y x)++dcR d (i+1)).length≤2^40:=(by rw[hdl];simp only[List.length_append,hdl];omega);have hx:=hlw
 refine Ah 6 ?_
 refine Aw 3 ?_
 refine BW 0 (RF 221 (Cu y x) y.length (Ap (x.drop (Cu y x)).length++x.drop (Cu y x)++dcR d (i+1)) (dcR d i) hr1 oM oM oM) ?_;rintro _ _ ⟨rfl,rfl⟩
 refine Aw 1 ?_
 refine A7 [0,2,4,6,7,8] ?_
 any_goals(refine XW.at 7 ?_;(try(have h16:i%16=0:=(by simp at c13;omega);have hr0:dcR d i=Ap x.length++x++dcR d (i+1):=(by rw[hrs,Xk hxi h16])));refine Ah 7 ?_;refine A2 4 ?_;(first|(refine BW 0 (TG 221 x (dcR d (i+1)) (dcR d i) hr0 oM oM) ?_;rintro _ _ ⟨rfl,rfl⟩)|(refine BW 0 (TG 221 (x.drop (Cu y x)) (dcR d (i+1)) _ rfl oM oM) ?_;rintro _ _ ⟨rfl,rfl⟩));(try have hx:=Uz (x:=x) (y:=y));refine A2 1 ?_;(try have hx:=Uz (x:=x) (y:=y));refine Aw 1 ?_;refine A7 [0,2,4,7,8] ?_;refine Ah 8 ?_;refine Aw 6 ?_;refine BQ 29 ?_;refine Aw 1 ?_;refine AG (U7 x) ?_;rintro _ rfl;have hx:decide (2048<x.length)=false:=decide_eq_false oM;refine Aw 4 ?_;refine A7 [0,2,4,7,8] ?_;refine XW.at 9 ?_;obtain⟨nB,sB,hb1,hb2⟩:=hB i x hxi;refine XOW.start 9 ?_;refine Gs 7 [0,2,4,7,8,39,40,41] ?_;refine XOW.yield hb1 hb2 ?_;refine Gs 2 [0,2,4,7,8,44] ?_;refine XOW.done ?_;refine A3 44 ?_;refine Ah 10 ?_;refine Gz 2 ?_;refine A7 [0,2,4,7,8] ?_;(refine XH.le ?_;(exact eY hY0 (i+1) (AO (And.intro cuE.eq_1 (And.intro hlx B.eq_1)) [some 0,some 1,some 2,some 3,some 4] []))))
 obtain rfl:i=d.length:=oM;refine Kx [some 0,some 1,some 2,some 3,some 4] [] (hids:=⟨by simp[Al],by simp[Al],rfl⟩) (hwk:=by simp[Az,lk,lkh,wk,wkL,wkE,I]) (hwh:=?_);simp[Am,Ai,Ak,lkh,wkE,wkL,wk,Ag9,B,I]
section
variable {n k : Nat} {ops : Array Oper} {s0 s : AS} {G : Prop} {rem : List Oper} {ts : List Av.Touch}
theorem Ade(i:Nat){b:List UInt8}{m:Nat}{o:Oper}(h:XO Tryz.prog n ops s0 G (k+1) rem ⟨BV o.dst (.fn 208 0 [.ptr (n+8*k) 1 0 0,.ptr (n+8*k+1) 1 0 0]) s.env,[(n+8*k+1,some ⟨219,1,[[.ptr i 2 0 0]]⟩),(n+8*k,some ⟨3,1,[[I m]]⟩),(i,some (cuE 221 b false))]++s.hp⟩ ((k,[i],[i,n+8*k,n+8*k+1])::ts))(hcal:FB o=some 170:=by rfl)(hgd:BM ops (lk s.env) o=some true:=by rfl)
   (ha:BX o (lk s.env)=[.ptr i 2 0 0,I m]:=by rfl) (h1:lkh s.hp i=some (cuE 221 b false):=by rfl):XO Tryz.prog n ops s0 G k (o::rem) s ts:=by
 have e0:Bu [i] (n+8*k) 0=i:=rfl
 have e1:Bu [i] (n+8*k) 1=n+8*k:=rfl
 have e2:Bu [i] (n+8*k) 2=n+8*k+1:=rfl
 refine VL [i] (xa:=[.ptr 0 2 0 0,I m]) (hs:=[cuE 221 b false]) (Abj b m) hcal hgd ?_ sP ⟨?_,rfl,trivial⟩ sP sP (by rfl) sP ?_
 · rw[ha]
   simp only[BK,ren,e0,I]
   exact Cq _ _
 · rw[h1]
   simp only[Cy,cuE,List.map_cons,List.map_nil,BK,ren,B]
 · have hw:DK (Bu [i] (n+8*k)) 0 [some (cuE 221 b false),some ⟨3,1,[[I m]]⟩,some ⟨219,1,[[.ptr 0 2 0 0]]⟩]=[(i,some (cuE 221 b false)),(n+8*k,some ⟨3,1,[[I m]]⟩),(n+8*k+1,some ⟨219,1,[[.ptr i 2 0 0]]⟩)]:=by
     simp only[DK,Option.map_some,e0,Nat.zero_add,e1,Nat.reduceAdd,e2,Cy,cuE,List.map_cons,List.map_nil,BK,ren,B,I]
   rw[hw]
   simp only[ren,BK,e1,e2]
   exact h
end
theorem GC(a b:List UInt8):Ae Tryz.prog 173 [.sl 1 (Ab a),.sl 1 (Ab b)] (fun r=>r=B (a==b)):=by
 refine Ax 10 Tryz.func173 ?_
 refine Aa 0 [0,1] ?_
 refine AQ 1 [4] ?_
 refine Aq ?_;(exact Bi rfl)
theorem XA(d:List S)(hc:Bb d=0)(hp:d.Pairwise ltS):Ae Tryz.prog 113 [.sl 1 (Ab (AM d))] (fun r=>r= .tup [.sl 1 (Au d),I 0]):=by
 have hdn:=(Es d hc).2
 have hel:=SB d hc 0
 have hel2:=Lb d hc d.length (Nat.le_refl _)
 refine Ax 41 Tryz.func113 ?_
 refine Ah 0 ?_
 refine Ac 2 ?_
 refine CS [0] ?_
 refine Ah 1 ?_
 refine Ac 4 ?_
 refine CS [0,4] ?_
 refine Ah 2 ?_
 refine Ac 1 ?_
 refine CS [0,4,5] ?_
 refine Ah 3 ?_
 refine Ac 2 ?_
 refine BW 0 (RF 221 d.length 32768 (dcR d 0) (AM d) (AhH d) oM oM (by unfold AM;omega)) ?_;rintro _ _ ⟨rfl,rfl⟩
 refine Ade 0 (b:=dcR d 0) (m:=d.length) ?_
 refine CS [0,4,5,15] ?_
 refine QR (gf:=208) (j:=0) (cs:=[.ptr 2 1 0 0,.ptr 3 1 0 0]) (Ni:=46) [some (cuE 221 [] false),some ⟨28,1,[[.osl 4 d.length 1]]⟩,some ⟨3,1,[[I d.length]]⟩,some ⟨219,1,[[.ptr 0 2 0 0]]⟩,some ⟨9,1,Au d⟩] Tryz.func208 rfl rfl rfl dC rfl (fun l=>Ahc d hc l _ _ _ _ rfl ?_) ?_
 · intro i x hx
   have hil:=(List.getElem?_eq_some_iff.1 hx).1
   have hts:d.take (i+1)=d.take i++[x]:=by rw[List.take_add_one,hx];rfl
   refine⟨5,⟨[(5,.ptr 1 1 0 0),(6,str x)],dcH d i (i+1)⟩,JG ?_,JG ?_⟩
   · simp only[Fi,List.zip_cons_cons,List.zip_nil_right]
     refine Aa 4 [5,6] ?_
     exact XH.rd ⟨[some 0,some 1,some 2,some 3,some 4],[],⟨by simp[Al],by simp[Al],by rfl⟩,sP,by simp[AK,lk,lkh,I,str],by simp[Am,Ai,Ak,lkh,wkE,wkL,wk,cuE,B,I,hts]⟩
   · refine Ah 5 ?_
     refine Aw 5 ?_
     refine A7 [] ?_
     exact XH.rd ⟨[some 0,some 1,some 2,some 3,some 4,some 5],[],⟨by simp[Al],by simp[Al],by rfl⟩,sP,by simp[AK,lk,lkh,I,str],by simp[Am,Ai,Ak,lkh,wkE,wkL,wk,cuE,B,I,hts]⟩
 simp only[List.zipIdx_cons,List.zipIdx_nil,List.map_cons,List.map_nil,List.length_cons,List.length_nil,Nat.reduceAdd,Nat.zero_add]
 refine XW.at 6 ?_;refine Fq 6 2 ⟨[(0,.sl 1 (Ab (AM d))),(4,.ptr 0 2 0 0),(5,.ptr 1 1 0 0)],[(0,some (cuE 221 [] false)),(1,some ⟨28,1,[[.sl 1 (Au d)]]⟩)]⟩ (AO (And.intro (And.intro wkE.eq_1 wkE.eq_2) (And.intro (And.intro wkL.eq_1 wkL.eq_2) (And.intro cuE.eq_1 (And.intro @FI B.eq_1)))) [some 0,some 1] [4]) ?_
 refine Ah 6 ?_
 refine Ac 1 ?_
 refine AG (Xi d hc hp) ?_;rintro _ rfl
 refine Ac 5 ?_
 refine CS [0,4,5,7,8] ?_
 refine Ah 7 ?_
 refine Ac 5 ?_
 refine BQ 30 ?_
 refine Ac 4 ?_
 refine BQ 34 ?_
 refine Ac 2 ?_
 refine AG (GC _ _) ?_;rintro _ rfl
 refine Ac 2 ?_
 refine CS [5,39] ?_
 refine A3 39 ?_
 refine Ah 9 ?_
 refine Ac 3 ?_
 refine CS [2,3] ?_
 refine Aq ?_;(exact Bi rfl)
end Go.Proofs.YtpkhodjlnodagaaGreatDoor
