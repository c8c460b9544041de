/- Part 31 of the proof of PlanCandidates. -/
import Derived.Test.YtpkhodjlnodagaaGreatDoorA15
import Derived.Test.YtpkhodjlnodagaaGreatDoorA30
set_option linter.unusedSimpArgs false
set_option linter.unusedVariables false
set_option linter.unusedSectionVars false
namespace Go.Proofs.YtpkhodjlnodagaaGreatDoor
open Go.Av
set_option maxHeartbeats 4000000
set_option maxRecDepth 10000
attribute [local irreducible] XH XO Ad Af A0
def dcR(d:List S)(i:Nat):List UInt8:=(AG d).drop (A1 d i).length
theorem JF(d:List S)(i:Nat)(h:i≤d.length):AG d=A1 d i++dcR d i:=by
 obtain⟨t,ht⟩:=KV d i h
 rw[dcR,ht,List.drop_left]
theorem Agi{d:List S}{i:Nat}(h:i<d.length):dcR d i=EY d i++dcR d (i+1):=by
 have h1:=JF d i (by omega)
 have h2:=JF d (i+1) h
 rw[show A1 d (i+1)=A1 d i++EY d i from rfl,List.append_assoc]at h2
 exact List.append_cancel_left (h1.symm.trans h2)
theorem Agy(d:List S):AG d=An d.length++dcR d 0:=JF d 0 (by omega)
theorem AfO(d:List S):dcR d d.length=[]:=by
 have h:=JF d d.length (Nat.le_refl _)
 have:=congrArg List.length h
 simp only[AG,List.length_append]at this
 exact List.eq_nil_of_length_eq_zero (by omega)
theorem Ra(d:List S)(hc:A6 d=0)(i:Nat):(dcR d i).length≤70000000:=by
 have:=Lb d hc d.length (Nat.le_refl _)
 rw[dcR,List.length_drop];unfold AG;omega
def Oo(d:List S):Nat→S
 |0=>[]
 |i+1=>d.getD i []
theorem Aci{a b:S}:a.take (Cr a b)=b.take (Cr a b):=by
 have h:=(Mn a b).1
 apply List.ext_getElem?
 intro j
 rw[List.getElem?_take,List.getElem?_take]
 split
 · rename_i hj;obtain⟨x,h1,h2⟩:=h j hj;rw[h1,h2]
 · rfl
theorem Tj{x y:S}:y.take (Cr y x)++x.drop (Cr y x)=x:=by rw[Aci,List.take_append_drop]
abbrev YV(l:Nat):AV:= .val (.func (.yield l) #[] #[])
abbrev dcH(d:List S)(i j:Nat):List (Nat×Option Ent):=[(0,some (cuE 221 (dcR d j) false)),(1,some ⟨28,1,[[.osl 4 i 1]]⟩),(2,some ⟨3,1,[[I d.length]]⟩),(3,some ⟨219,1,[[.ptr 0 2 0 0]]⟩),(4,some ⟨9,1,Ay (d.take i)⟩)]
abbrev dcH'(d:List S)(i j:Nat):List (Nat×Option Ent):=[(0,some (cuE 221 (dcR d j) false)),(1,some ⟨28,1,[[.osl 5 i 1]]⟩),(2,some ⟨3,1,[[I d.length]]⟩),(3,some ⟨219,1,[[.ptr 0 2 0 0]]⟩),(4,none),(5,some ⟨9,1,Ay (d.take i)⟩)]
theorem AgF(d:List S)(hc:A6 d=0)(l:Nat)(assign body:Code)(cenv:List (Nat×AV))(c:Code)(hcode:Tryz.f208.body=some c)(hB: ∀ i x,d[i]? =some x→ ∃ nB sB,RD Tryz.prog 41 5 assign 5 ⟨E7 ([16].zip [str x]) cenv,dcH d i (i+1)⟩ nB sB∧RD Tryz.prog 41 5 body nB sB 6 ⟨[],dcH' d (i+1) (i+1)⟩): @XW ⟨some ⟨l,41,lk cenv,#[16],assign,body⟩⟩ Tryz.prog 46 4 (fun x=>x=(.tup [],[some (cuE 221 [] false),some ⟨28,1,[[.osl 4 d.length 1]]⟩,some ⟨3,1,[[I d.length]]⟩,some ⟨219,1,[[.ptr 0 2 0 0]]⟩,some ⟨9,1,Ay d⟩])) [] c [] 4 ⟨[(0,YV l),(1,.ptr 2 1 0 0),(2,.ptr 3 1 0 0)],[(0,some (cuE 221 (dcR d 0) false)),(1,some ⟨28,1,[[.val (.slice none 0 0)]]⟩),(2,some ⟨3,1,[[I d.length]]⟩),(3,some ⟨219,1,[[.ptr 0 2 0 0]]⟩)]⟩:=by
 have hdn:=(E2 d hc).2
 letI Y:Yl:=⟨some ⟨l,41,lk cenv,#[16],assign,body⟩⟩;obtain rfl:=Option.some.inj (show some _=some c from hcode);refine Qp ?_
 refine Ae 0 ?_
 refine Ac 1 ?_
 refine A4 [0,1,2,4] ?_
 refine Ae 1 ?_
 refine Ac 2 ?_
 refine A4 [0,2,4,7,8] ?_
 refine AX 5 (fun i:Nat=>⟨[(0,YV l),(2,.ptr 3 1 0 0),(4,str (Oo d i)),(7,I d.length),(8,I i)],dcH d i i⟩) (fun i=>i≤d.length) (fun i=>d.length-i) 0 (AD (And.intro (And.intro Oo.eq_1 Oo.eq_2) (And.intro cuE.eq_1 B.eq_1)) [some 0,some 1,some 2,some 3,none] []) ?_;rintro i hI0 Y0 hY0;skip
 refine Ae 2 ?_
 refine Ac 1 ?_
 refine A4 [0,2,4,7,8,9] ?_
 refine Az 9 (fun c9=>?_) (fun c9=>?_)
 refine XW.at 3 ?_;obtain⟨x,hx,hxm⟩:=Bd d i (by omega);have hxl:=NR hc hxm;have hel:=Ra d hc i;have hel2:=Ra d hc (i+1);have hrs:=Agi (d:=d) (i:=i) (by omega);have hlx:Oo d (i+1)=x:=BC hx;have hxi:=hx
 refine Ae 3 ?_
 refine Aq 2 ?_
 refine A4 [0,2,4,5,7,8] ?_
 refine Ae 4 ?_
 refine Ac 1 ?_
 refine A4 [0,2,4,5,6,7,8] ?_
 refine XW.at 5 ?_;have hx:=AaG i
 refine Ae 5 ?_
 refine AP 3 ?_
 refine A4 [0,2,4,6,7,8,13] ?_
 refine By 13 (fun c13=>?_) (fun c13=>?_)
 refine XW.at 6 ?_;have h16: ¬ i%16=0:=(by intro h;rw[h]at c13;simp at c13);obtain⟨y,hxy,hym⟩:=Bd d (i-1) (by omega);have hyl:=NR hc hym;have hlw:Oo d i=y:=(by cases i with|zero=>exact absurd rfl h16|succ i=>exact BC hxy);have hcl:=Pt y x;have hdl:(x.drop (Cr y x)).length=x.length-Cr y x:=List.length_drop;have hr1:dcR d i=An (Cr y x)++(An (x.drop (Cr y x)).length++x.drop (Cr y x)++dcR d (i+1)):=(by rw[hrs,WN hxi hxy h16,hdl];simp only[List.append_assoc]);have hvl:=Bh (x.length-Cr y x);have hbl:(An (x.drop (Cr y x)).length++x.drop (Cr y x)++dcR d (i+1)).length≤2^40:=(by rw[hdl];simp only[List.length_append,hdl];omega);have hx:=hlw
 refine Ae 6 ?_
 refine Aq 3 ?_
 refine BM 0 (Sk 221 (Cr y x) y.length (An (x.drop (Cr y x)).length++x.drop (Cr y x)++dcR d (i+1)) (dcR d i) hr1 (by omega) (by omega) (by omega)) ?_;rintro _ _ ⟨rfl,rfl⟩
 refine Aq 1 ?_
 refine A4 [0,2,4,6,7,8] ?_
 any_goals(refine XW.at 7 ?_;(try(have h16:i%16=0:=(by simp at c13;omega);have hr0:dcR d i=An x.length++x++dcR d (i+1):=(by rw[hrs,Xv hxi h16])));refine Ae 7 ?_;refine AP 4 ?_;(first|(refine BM 0 (TA 221 x (dcR d (i+1)) (dcR d i) hr0 (by omega) (by omega)) ?_;rintro _ _ ⟨rfl,rfl⟩)|(refine BM 0 (TA 221 (x.drop (Cr y x)) (dcR d (i+1)) _ rfl (by omega) (by omega)) ?_;rintro _ _ ⟨rfl,rfl⟩));(try have hx:=Tj (x:=x) (y:=y));refine AP 1 ?_;(try have hx:=Tj (x:=x) (y:=y));refine Aq 1 ?_;refine A4 [0,2,4,7,8] ?_;refine Ae 8 ?_;refine Aq 6 ?_;refine BE 29 ?_;refine Aq 1 ?_;refine AC (UL x) ?_;rintro _ rfl;have hx:decide (2048<x.length)=false:=decide_eq_false (by omega);refine Aq 4 ?_;refine A4 [0,2,4,7,8] ?_;refine XW.at 9 ?_;obtain⟨nB,sB,hb1,hb2⟩:=hB i x hxi;refine XOW.start 9 ?_;refine Gh 7 [0,2,4,7,8,39,40,41] ?_;refine XOW.yield hb1 hb2 ?_;refine Gh 2 [0,2,4,7,8,44] ?_;refine XOW.done ?_;refine AM 44 ?_;refine Ae 10 ?_;refine EW 2 ?_;refine A4 [0,2,4,7,8] ?_;(refine XH.le ?_;(exact eY hY0 (i+1) (AD (And.intro cuE.eq_1 (And.intro hlx B.eq_1)) [some 0,some 1,some 2,some 3,some 4] []))))
 obtain rfl:i=d.length:=(by omega);refine Ke [some 0,some 1,some 2,some 3,some 4] [] (hids:=⟨by simp[Al],by simp[Al],rfl⟩) (hwk:=by simp[Ax,lk,lkh,wk,wkL,wkE,I]) (hwh:=?_);simp[Am,Ai,Aj,lkh,wkE,wkL,wk,AfO,B,I]
section
variable {n k : Nat} {ops : Array Oper} {s0 s : AS} {G : Prop} {rem : List Oper} {ts : List Av.Touch}
theorem AbR(i:Nat){b:List UInt8}{m:Nat}{o:Oper}(h:XO Tryz.prog n ops s0 G (k+1) rem ⟨BR o.dst (.fn 208 0 [.ptr (n+8*k) 1 0 0,.ptr (n+8*k+1) 1 0 0]) s.env,[(n+8*k+1,some ⟨219,1,[[.ptr i 2 0 0]]⟩),(n+8*k,some ⟨3,1,[[I m]]⟩),(i,some (cuE 221 b false))]++s.hp⟩ ((k,[i],[i,n+8*k,n+8*k+1])::ts))(hcal:FI o=some 170:=by rfl)(hgd:BI ops (lk s.env) o=some true:=by rfl)
   (ha:BU o (lk s.env)=[.ptr i 2 0 0,I m]:=by rfl) (h1:lkh s.hp i=some (cuE 221 b false):=by rfl):XO Tryz.prog n ops s0 G k (o::rem) s ts:=by
 have e0:Bs [i] (n+8*k) 0=i:=rfl
 have e1:Bs [i] (n+8*k) 1=n+8*k:=rfl
 have e2:Bs [i] (n+8*k) 2=n+8*k+1:=rfl
 refine VA [i] (xa:=[.ptr 0 2 0 0,I m]) (hs:=[cuE 221 b false]) (Zc b m) hcal hgd ?_ (by simp) ⟨?_,rfl,trivial⟩ (by simp) (by simp) (by rfl) (by simp) ?_
 · rw[ha]
   simp only[BJ,ren,e0,I]
   exact Cn _ _
 · rw[h1]
   simp only[Cv,cuE,List.map_cons,List.map_nil,BJ,ren,B]
 · have hw:DM (Bs [i] (n+8*k)) 0 [some (cuE 221 b false),some ⟨3,1,[[I m]]⟩,some ⟨219,1,[[.ptr 0 2 0 0]]⟩]=[(i,some (cuE 221 b false)),(n+8*k,some ⟨3,1,[[I m]]⟩),(n+8*k+1,some ⟨219,1,[[.ptr i 2 0 0]]⟩)]:=by
     simp only[DM,Option.map_some,e0,Nat.zero_add,e1,Nat.reduceAdd,e2,Cv,cuE,List.map_cons,List.map_nil,BJ,ren,B,I]
   rw[hw]
   simp only[ren,BJ,e1,e2]
   exact h
end
theorem Gs(a b:List UInt8):Ad Tryz.prog 173 [.sl 1 (Ab a),.sl 1 (Ab b)] (fun r=>r=B (a==b)):=by
 refine Au 10 Tryz.func173 ?_
 refine Aa 0 [0,1] ?_
 refine AJ 1 [4] ?_
 refine Ap ?_;(exact BT rfl)
theorem Wh(d:List S)(hc:A6 d=0)(hp:d.Pairwise ltS):Ad Tryz.prog 113 [.sl 1 (Ab (AG d))] (fun r=>r= .tup [.sl 1 (Ay d),I 0]):=by
 have hdn:=(E2 d hc).2
 have hel:=Ra d hc 0
 have hel2:=Lb d hc d.length (Nat.le_refl _)
 refine Au 41 Tryz.func113 ?_
 refine Ae 0 ?_
 refine Ac 2 ?_
 refine Bv [0] ?_
 refine Ae 1 ?_
 refine Ac 4 ?_
 refine Bv [0,4] ?_
 refine Ae 2 ?_
 refine Ac 1 ?_
 refine Bv [0,4,5] ?_
 refine Ae 3 ?_
 refine Ac 2 ?_
 refine BM 0 (Sk 221 d.length 32768 (dcR d 0) (AG d) (Agy d) (by omega) (by omega) (by unfold AG;omega)) ?_;rintro _ _ ⟨rfl,rfl⟩
 refine AbR 0 (b:=dcR d 0) (m:=d.length) ?_
 refine Bv [0,4,5,15] ?_
 refine Qm (gf:=208) (j:=0) (cs:=[.ptr 2 1 0 0,.ptr 3 1 0 0]) (Ni:=46) [some (cuE 221 [] false),some ⟨28,1,[[.osl 4 d.length 1]]⟩,some ⟨3,1,[[I d.length]]⟩,some ⟨219,1,[[.ptr 0 2 0 0]]⟩,some ⟨9,1,Ay d⟩] Tryz.func208 rfl rfl rfl (by decide) rfl (fun l=>AgF d hc l _ _ _ _ rfl ?_) ?_
 · intro i x hx
   have hil:=(List.getElem?_eq_some_iff.1 hx).1
   have hts:d.take (i+1)=d.take i++[x]:=by rw[List.take_add_one,hx];rfl
   refine⟨5,⟨[(5,.ptr 1 1 0 0),(6,str x)],dcH d i (i+1)⟩,Ju ?_,Ju ?_⟩
   · simp only[E7,List.zip_cons_cons,List.zip_nil_right]
     refine Aa 4 [5,6] ?_
     exact XH.rd ⟨[some 0,some 1,some 2,some 3,some 4],[],⟨by simp[Al],by simp[Al],by rfl⟩,by simp,by simp[AR,lk,lkh,I,str],by simp[Am,Ai,Aj,lkh,wkE,wkL,wk,cuE,B,I,hts]⟩
   · refine Ae 5 ?_
     refine Aq 5 ?_
     refine A4 [] ?_
     exact XH.rd ⟨[some 0,some 1,some 2,some 3,some 4,some 5],[],⟨by simp[Al],by simp[Al],by rfl⟩,by simp,by simp[AR,lk,lkh,I,str],by simp[Am,Ai,Aj,lkh,wkE,wkL,wk,cuE,B,I,hts]⟩
 simp only[List.zipIdx_cons,List.zipIdx_nil,List.map_cons,List.map_nil,List.length_cons,List.length_nil,Nat.reduceAdd,Nat.zero_add]
 refine XW.at 6 ?_;refine EG 6 2 ⟨[(0,.sl 1 (Ab (AG d))),(4,.ptr 0 2 0 0),(5,.ptr 1 1 0 0)],[(0,some (cuE 221 [] false)),(1,some ⟨28,1,[[.sl 1 (Ay d)]]⟩)]⟩ (AD (And.intro (And.intro wkE.eq_1 wkE.eq_2) (And.intro (And.intro wkL.eq_1 wkL.eq_2) (And.intro cuE.eq_1 (And.intro @FL B.eq_1)))) [some 0,some 1] [4]) ?_
 refine Ae 6 ?_
 refine Ac 1 ?_
 refine AC (Xb d hc hp) ?_;rintro _ rfl
 refine Ac 5 ?_
 refine Bv [0,4,5,7,8] ?_
 refine Ae 7 ?_
 refine Ac 5 ?_
 refine BE 30 ?_
 refine Ac 4 ?_
 refine BE 34 ?_
 refine Ac 2 ?_
 refine AC (Gs _ _) ?_;rintro _ rfl
 refine Ac 2 ?_
 refine Bv [5,39] ?_
 refine AM 39 ?_
 refine Ae 9 ?_
 refine Ac 3 ?_
 refine Bv [2,3] ?_
 refine Ap ?_;(exact BT rfl)
end Go.Proofs.YtpkhodjlnodagaaGreatDoor
