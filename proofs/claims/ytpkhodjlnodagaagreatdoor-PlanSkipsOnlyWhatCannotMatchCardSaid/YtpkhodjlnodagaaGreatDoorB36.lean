/- Part 36 of the proof of PlanSkipsOnlyWhatCannotMatch. -/
import Derived.Test.YtpkhodjlnodagaaGreatDoorB15
import Derived.Test.YtpkhodjlnodagaaGreatDoorB28
import Derived.Test.YtpkhodjlnodagaaGreatDoorB35
set_option linter.unusedSimpArgs false
set_option linter.unusedVariables false
set_option linter.unusedSectionVars false
namespace Go.Proofs.YtpkhodjlnodagaaGreatDoor
open Go.Av
set_option maxHeartbeats 4000000
set_option maxRecDepth 10000
attribute [local irreducible] XH XO Ae Ad AU
def rpA(x:Int)(n j:Nat):List Int:=List.replicate j x++List.replicate (n-j) 0
theorem Up(x:Int)(n j:Nat)(h:j≤n):(rpA x n j).length=n:=by simp[rpA];omega
theorem AgJ(x:Int)(n:Nat):List.replicate n [AV.val (.int .i64 0)]=An (rpA x n 0):=by simp[rpA,An,I]
theorem AgC(x:Int)(n:Nat):rpA x n n=List.replicate n x:=by simp[rpA]
theorem AbS(x:Int)(n j m:Nat)(h:j+m≤n):(An (rpA x n j)).take j++(An (List.replicate m x)++(An (rpA x n j)).drop (j+m))=An (rpA x n (j+m)):=by
 simp only[rpA,An,← List.map_take,← List.map_drop,← List.map_append]
 congr 1
 rw[List.take_left' sP,List.drop_append,List.drop_of_length_le sP,List.drop_replicate,List.length_replicate,List.nil_append,← List.append_assoc,List.replicate_append_replicate]
 congr 2
 omega
theorem AgE(x:Int)(n j m:Nat)(h:m≤j):(An (rpA x n j)).take m=An (List.replicate m x):=by
 simp only[rpA,An,← List.map_take]
 rw[List.take_append_of_le_length (by simpa using h),List.take_replicate,Nat.min_eq_left h]
theorem Afx(x:Int)(n:Nat)(h1:1≤n)(h2:n≤16384):Ad Tryz.prog 247 [.sl 1 (An [x]),I n] [] (.osl 0 n 1) [some ⟨3,1,An (List.replicate n x)⟩]:=by
 refine BD 48 0 Tryz.func247 ?_
 refine Aa 0 [0,1] ?_
 refine Aa 1 [0,1,10] ?_
 refine A3 10 ?_
 refine Ah 3 ?_
 refine Gz 5 ?_
 refine AG (Aez n h2) ?_;rintro _ rfl
 refine Ac 5 ?_
 refine XO.done [0,5,6] ?_
 refine Ah 4 ?_
 refine Ac 3 ?_
 refine BQ 23 ?_
 refine Ac 3 ?_
 refine XO.done [0,6,26] ?_
 refine AC 26 (fun c26=>?_) (fun c26=>?_)
 exfalso;omega
 refine XW.at 6 ?_;have hx:=AgJ x n
 refine A4 6 [0,7] ?_
 refine Ah 7 ?_
 refine Ac 2 ?_
 refine Abt (An [x]) (An (rpA x n 1)) (d:= .tmp 31) (y:= .tmp 32) (m:=1) (nn:=n) (E:=⟨3,1,An (rpA x n 0)⟩) (hd:=D43) (hte:=T3) (Af6 (p:=1=1) rfl rfl (by simpa using h1)) rfl dC sP (AbS x n 0 1 oM) (by simp[Up]) ?_
 refine Ac 1 ?_
 refine XO.done [7,8] ?_
 refine A8 1 (fun j:Nat=>⟨[(7,.osl 0 n 1),(8,I j)],[(0,some ⟨3,1,An (rpA x n j)⟩)]⟩) (fun j=>1≤j∧j≤n) (fun j=>n-j) 1 (AO B.eq_1 [some 0] []) ?_ (h0:=⟨dC,h1⟩);rintro j hI0 Y0 hY0;skip
 refine Aa 8 [7,8,37] ?_
 refine AC 37 (fun c37=>?_) (fun c37=>?_)
 refine XW.at 9 ?_;obtain⟨m,hm⟩: ∃ m,m=min j (n-j):=⟨_,rfl⟩;have hcl:=Up x n j hI0.2;have hct:=AgE x n j m oM;have hcc:=AbS x n j m oM
 refine Ah 9 ?_
 refine A2 7 ?_
 refine Abt (An (List.replicate m x)) (An (rpA x n (j+m))) (d:= .tmp 41) (y:= .tmp 44) (nn:=n-j) (rs:=[0]) (E:=⟨3,1,An (rpA x n j)⟩) (hd:=D43) (hte:=T3) (by rw[← hct];exact Aet (E:=⟨3,1,An (rpA x n j)⟩) rfl rfl (by rw[EL,hcl];exact hI0.2) hm) (by simp[An]) oM sP hcc (by rw[EL,hcl];omega) ?_
 refine Gz 2 ?_
 refine XO.done [7,8] ?_
 refine XH.le ?_;(exact eY hY0 (j+m) (AO B.eq_1 [some 0] []))
 refine Aa 10 [4] ?_
 refine Aq ?_;((obtain rfl:j=n:=oM;have hfin:=AgC x j;refine XB.ret [some 0] [] (hids:=⟨by simp[Al],by simp[Al],rfl⟩) (hwk:=?_) (hwh:=?_);(next=>simp[Az,lk,lkh,wk,wkL,wkE,I]);(next=>simp[Am,Ai,Ak,lkh,wkE,wkL,wk,B,I,hfin])))
theorem Acj:N6:=fun x n h1 h2=>Afx x n h1 h2
theorem AdR(v:List Int)(hl:v.length≤16384)(hv: ∀ x∈v,BE x):Ae Tryz.prog 117 [.sl 1 (Ab (AZ v))] (fun r=>r= .tup [.sl 1 (An v),I 0]):=YU Acj v hl hv
def em(c:Bool)(x:Int):List Int:=if c then [x]else []
def mg(w:Bool→Bool→Bool):List Int→List Int→List Int
 | [],[]=>[]
 |x::a,[]=>em (w true false) x++mg w a []
 | [],y::b=>em (w false true) y++mg w [] b
 |x::a,y::b=>if x<y then em (w true false) x++mg w a (y::b)else if y<x then em (w false true) y++mg w (x::a) b else em (w true true) x++mg w a b
 termination_by a b=>a.length+b.length
theorem at0{a:List Int}{x:Int}(h:a[0]? =some x):a=x::a.drop 1:=by
 cases a with
 |nil=>simp at h
 |cons z a=>simp at h;subst h;rfl
theorem VA{a:List Int}(h: ¬ (a.length:Int)>0):a=[]:=List.eq_nil_of_length_eq_zero oM
theorem AhA{w:Bool→Bool→Bool}{a b:List Int}{x:Int}(hx:a[0]? =some x)(hb:b=[]):mg w a b=em (w true false) x++mg w (a.drop 1) b:=by
 subst hb
 conv=>lhs;rw[at0 hx,mg]
theorem Ahv{w:Bool→Bool→Bool}{a b:List Int}{y:Int}(hy:b[0]? =some y)(ha:a=[]):mg w a b=em (w false true) y++mg w a (b.drop 1):=by
 subst ha
 conv=>lhs;rw[at0 hy,mg]
theorem Ahx{w:Bool→Bool→Bool}{a b:List Int}{x y:Int}(hx:a[0]? =some x)(hy:b[0]? =some y)(h1:x≤y)(h2: ¬ y≤x):mg w a b=em (w true false) x++mg w (a.drop 1) b:=by
 conv=>lhs;rw[at0 hx,at0 hy,mg,if_pos oM]
 rw[← at0 hy]
theorem AgK{w:Bool→Bool→Bool}{a b:List Int}{x y:Int}(hx:a[0]? =some x)(hy:b[0]? =some y)(h1: ¬ x≤y)(h2:y≤x):mg w a b=em (w false true) y++mg w a (b.drop 1):=by
 conv=>lhs;rw[at0 hx,at0 hy,mg,if_neg oM,if_pos oM]
 rw[← at0 hx]
theorem Ahi{w:Bool→Bool→Bool}{a b:List Int}{x y:Int}(hx:a[0]? =some x)(hy:b[0]? =some y)(h1:x≤y)(h2:y≤x):mg w a b=em (w true true) y++mg w (a.drop 1) (b.drop 1):=by
 conv=>lhs;rw[at0 hx,at0 hy,mg,if_neg oM,if_neg oM]
 rw[show x=y by omega]
theorem AfK(w:Bool→Bool→Bool):mg w [] []=[]:=by rw[mg]
theorem Mq(c:Bool)(x:Int):(em c x).length≤1:=by unfold em;split<;>simp
theorem Jg(w:Bool→Bool→Bool): ∀ (n:Nat) (a b:List Int),a.length+b.length≤n→(mg w a b).length≤a.length+b.length
 |n,[],[],_=>by rw[mg];simp
 |0,x::a,_,h=>by simp at h
 |0,[],y::b,h=>by simp at h
 |n+1,x::a,[],h=>by
   have h1:=Jg w n a [] (by simp at h ⊢;omega)
   have:=Mq (w true false) x
   rw[mg,List.length_append];simp only[List.length_cons,List.length_nil]at*;omega
 |n+1,[],y::b,h=>by
   have h1:=Jg w n [] b (by simp at h ⊢;omega)
   have:=Mq (w false true) y
   rw[mg,List.length_append];simp only[List.length_cons,List.length_nil]at*;omega
 |n+1,x::a,y::b,h=>by
   have h1:=Jg w n a (y::b) (by simp at h ⊢;omega)
   have h2:=Jg w n (x::a) b (by simp at h ⊢;omega)
   have h3:=Jg w n a b (by simp at h ⊢;omega)
   have:=Mq (w true false) x
   have:=Mq (w false true) y
   have:=Mq (w true true) x
   rw[mg]
   simp only[List.length_cons]at*
   split
   · rw[List.length_append];omega
   · split<;>(rw[List.length_append];omega)
theorem RM(g:Nat)(w:Bool→Bool→Bool)(hw: ∀ p q,Ae Tryz.prog g [B p,B q] (fun r=>r=B (w p q)))(a0 b0:List Int)(hl:a0.length+b0.length≤2^40):Ae Tryz.prog 121 [.sl 1 (An a0),.sl 1 (An b0),fnV g] (fun r=>r= .sl 1 (An (mg w a0 b0))):=by
 refine Ax 74 Tryz.func121 ?_
 refine Aa 0 [0,1,2] ?_
 refine Aa 1 [0,1,2,7] ?_
 refine A8 1 (fun s:List Int×List Int×List Int=>⟨[(0,.sl 1 (An s.1)),(1,.sl 1 (An s.2.1)),(2,fnV g),(7,.osl 0 s.2.2.length 1)],[(0,some ⟨3,1,An s.2.2⟩)]⟩) (fun s=>s.2.2++mg w s.1 s.2.1=mg w a0 b0∧s.1.length+s.2.1.length+s.2.2.length≤2^40) (fun s=>s.1.length+s.2.1.length) (a0,b0,[]) (AO (And.intro fnV.eq_1 An.eq_1) [none] []) ?_ (h0:=⟨sP,by simpa using hl⟩);rintro⟨a,b,out⟩ hI0 Y0 hY0;simp only at hI0
 refine Ah 2 ?_
 refine Ac 4 ?_
 refine Cn 14 (fun g14=>?_) (fun g14=>?_)
 any_goals(refine Ac 4 ?_;refine XO.done [0,1,2,7,18] ?_;(first|refine CF 18 ?_|refine AC 18 (fun c18=>?_) (fun c18=>?_)))
 any_goals(refine Ah 3 ?_;refine Aw 4 ?_;refine Cn 22 (fun g22=>?_) (fun g22=>?_))
 any_goals(exfalso;omega)
 any_goals refine Aw 4 ?_
 refine Cn 26 (fun g26=>?_) (fun g26=>?_)
 any_goals((first|(have h0:=(show 0<a.length by omega);have h1:=(show 0<b.length by omega);obtain⟨x,hx,hxm⟩:=Bm a 0 h0;obtain⟨y,hx2,hym⟩:=Bm b 0 h1)|(have h0:=(show 0<a.length by omega);obtain⟨x,hx,hxm⟩:=Bm a 0 h0)|(have h1:=(show 0<b.length by omega);obtain⟨y,hx2,hym⟩:=Bm b 0 h1));refine Aw 10 ?_;refine XO.done [0,1,2,7,8] ?_;refine Ah 4 ?_;refine Ac 4 ?_;refine Cn 39 (fun g39=>?_) (fun g39=>?_))
 any_goals(exfalso;omega)
 any_goals refine Ac 4 ?_
 any_goals refine Cn 43 (fun g43=>?_) (fun g43=>?_)
 any_goals(exfalso;omega)
 any_goals(refine Aw 10 ?_;refine XO.done [0,1,2,7,8,9] ?_;refine Aa 5 [0,1,2,7,8,9,10] ?_;refine Aa 6 [0,1,2,7,8,9,10,53] ?_;(first|refine CF 53 ?_|refine A3 53 ?_|refine AC 53 (fun c53=>?_) (fun c53=>?_)))
 any_goals refine A4 7 [0,1,2,7,8,9,10] ?_
 any_goals(refine Aa 8 [0,1,2,7,8,9,10,59] ?_;(first|refine CF 59 ?_|refine A3 59 ?_|refine AC 59 (fun c59=>?_) (fun c59=>?_)))
 any_goals(exfalso;omega)
 any_goals refine A4 9 [0,1,2,7,8,9,10] ?_
 any_goals(refine Ah 10 ?_;refine Ac 3 ?_;refine Le (hw _ _) ?_;rintro _ rfl;refine XO.done [0,1,2,7,10,68] ?_;refine Bx 68 (fun c68=>?_) (fun c68=>?_))
 any_goals refine Aa 11 [0,1,2,7] ?_
 any_goals(refine XH.le ?_;((first|(have hs:=Ahx (w:=w) hx hx2 c53 c59)|(have hs:=AgK (w:=w) hx hx2 c53 c59)|(have hs:=Ahi (w:=w) hx hx2 c53 c59)|(have hs:=AhA (w:=w) hx (VA (a:=b) oM))|(have hs:=Ahv (w:=w) hx2 (VA (a:=a) oM)));(try simp only[c53,c59,decide_true,decide_false]at c68));first|(refine hY0 (a.drop 1,b,out++[x]) ?_ ?_ _ _ (CL [some 0] [] ?_ ?_);(next=>exact⟨by rw[← hI0.1,hs];simp[em,c68],by simp at hI0 ⊢;omega⟩);(next=>simp;omega);(next=>simp[AK,lk,lkh,I,str,B,U8,U64,U32,fnV];first|done|omega);(next=>simp[Am,Ai,Ak,lkh,I,str,fnV]))|(refine hY0 (a.drop 1,b,out) ?_ ?_ _ _ (CL [some 0] [] ?_ ?_);(next=>exact⟨by rw[← hI0.1,hs];simp[em,c68],by simp at hI0 ⊢;omega⟩);(next=>simp;omega);(next=>simp[AK,lk,lkh,I,str,B,U8,U64,U32,fnV];first|done|omega);(next=>simp[Am,Ai,Ak,lkh,I,str,fnV]))|(refine hY0 (a,b.drop 1,out++[y]) ?_ ?_ _ _ (CL [some 0] [] ?_ ?_);(next=>exact⟨by rw[← hI0.1,hs];simp[em,c68],by simp at hI0 ⊢;omega⟩);(next=>simp;omega);(next=>simp[AK,lk,lkh,I,str,B,U8,U64,U32,fnV];first|done|omega);(next=>simp[Am,Ai,Ak,lkh,I,str,fnV]))|(refine hY0 (a,b.drop 1,out) ?_ ?_ _ _ (CL [some 0] [] ?_ ?_);(next=>exact⟨by rw[← hI0.1,hs];simp[em,c68],by simp at hI0 ⊢;omega⟩);(next=>simp;omega);(next=>simp[AK,lk,lkh,I,str,B,U8,U64,U32,fnV];first|done|omega);(next=>simp[Am,Ai,Ak,lkh,I,str,fnV]))|(refine hY0 (a.drop 1,b.drop 1,out++[y]) ?_ ?_ _ _ (CL [some 0] [] ?_ ?_);(next=>exact⟨by rw[← hI0.1,hs];simp[em,c68],by simp at hI0 ⊢;omega⟩);(next=>simp;omega);(next=>simp[AK,lk,lkh,I,str,B,U8,U64,U32,fnV];first|done|omega);(next=>simp[Am,Ai,Ak,lkh,I,str,fnV]))|(refine hY0 (a.drop 1,b.drop 1,out) ?_ ?_ _ _ (CL [some 0] [] ?_ ?_);(next=>exact⟨by rw[← hI0.1,hs];simp[em,c68],by simp at hI0 ⊢;omega⟩);(next=>simp;omega);(next=>simp[AK,lk,lkh,I,str,B,U8,U64,U32,fnV];first|done|omega);(next=>simp[Am,Ai,Ak,lkh,I,str,fnV])))
 refine Aa 12 [6] ?_
 refine Aq ?_;((have ha:=VA g14;have hb:=VA c18;have h9:=hI0.1;rw[ha,hb,AfK,List.append_nil]at h9;rw[← h9];exact Ab4 rfl))
abbrev mgA:=mg (fun p q=>p&&q)
abbrev mgO:=mg (fun _ _=>true)
theorem AgF(a b:List Int)(hl:a.length+b.length≤2^40):Ae Tryz.prog 68 [.sl 1 (An a),.sl 1 (An b)] (fun r=>r= .sl 1 (An (mgA a b))):=by
 refine Ax 8 Tryz.func68 ?_
 refine Aa 0 [0,1] ?_
 refine Ah 1 ?_
 refine Ac 2 ?_
 refine AG (RM 122 (fun p q=>p&&q) Afv a b hl) ?_;rintro _ rfl
 refine Ac 1 ?_
 refine XO.done [4] ?_
 refine Aq ?_;((exact Bo rfl))
theorem or69(a b:List Int)(hl:a.length+b.length≤2^40):Ae Tryz.prog 69 [.sl 1 (An a),.sl 1 (An b)] (fun r=>r= .sl 1 (An (mgO a b))):=by
 refine Ax 8 Tryz.func69 ?_
 refine Aa 0 [0,1] ?_
 refine Ah 1 ?_
 refine Ac 2 ?_
 refine AG (RM 123 (fun _ _=>true) AhW a b hl) ?_;rintro _ rfl
 refine Ac 1 ?_
 refine XO.done [4] ?_
 refine Aq ?_;((exact Bo rfl))
def DN(f:List Int→List Int→List Int):List (List Int)→List Int
 | []=>[]
 |x::r=>r.foldl f x
theorem PS{f:List Int→List Int→List Int}{X:List (List Int)}{i:Nat}{x:List Int}(h:X[i]? =some x):DN f (X.take (i+1))=if i=0 then x else f (DN f (X.take i)) x:=by
 cases X with
 |nil=>simp at h
 |cons z X=>
   cases i with
   |zero=>simp at h;subst h;simp[DN]
   |succ i=>
     have h2:X[i]? =some x:=by simpa using h
     rw[if_neg oM,List.take_succ_cons,List.take_succ_cons,DN,DN,List.take_add_one,h2,List.foldl_append];rfl
def Gk(X:List (List Int)):Nat:=(X.map List.length).sum
theorem Sp{X:List (List Int)}{i:Nat}{x:List Int}(h:X[i]? =some x):Gk (X.take (i+1))=Gk (X.take i)+x.length:=by
 rw[Gk,Gk,List.take_add_one,h];simp
theorem US(X:List (List Int))(i:Nat):Gk (X.take i)≤Gk X:=by
 have:Gk X=Gk (X.take i)+Gk (X.drop i):=by
   conv=>lhs;rw[← List.take_append_drop i X]
   simp only[Gk,List.map_append,List.sum_append]
 omega
theorem JR{f:List Int→List Int→List Int}(hf: ∀ a b,(f a b).length≤a.length+b.length)(X:List (List Int)): ∀ i,i≤X.length→(DN f (X.take i)).length≤Gk (X.take i)
 |0,_=>by simp[DN]
 |i+1,h=>by
   have hx:=List.getElem?_eq_getElem (l:=X) (i:=i) oM
   have ih:=JR hf X i oM
   rw[PS hx,Sp hx]
   split
   · omega
   · have:=hf (DN f (X.take i)) X[i];omega
theorem Uj(a b:List Int):(mgA a b).length≤a.length+b.length:=Jg _ _ a b (Nat.le_refl _)
theorem Uy(a b:List Int):(mgO a b).length≤a.length+b.length:=Jg _ _ a b (Nat.le_refl _)
theorem YN(g:Nat)(f:List Int→List Int→List Int)(hfl: ∀ a b,(f a b).length≤a.length+b.length)(hf: ∀ a b,a.length+b.length≤2^40→Ae Tryz.prog g [.sl 1 (An a),.sl 1 (An b)] (fun r=>r= .sl 1 (An (f a b))))(X:List (List Int))(hX:Gk X≤2^40)(hXl:X.length≤2^40):Ae Tryz.prog 67 [.sl 1 (iiE X),fnV g] (fun r=>r= .sl 1 (An (DN f X))):=by
 refine Ax 28 Tryz.func67 ?_
 refine Aa 0 [0,1] ?_
 refine Aa 1 [0,1,10] ?_
 refine AC 10 (fun c10=>?_) (fun c10=>?_)
 refine Aa 2 [4] ?_
 refine Aq ?_;((have h0:=(show X.length=0 by omega);obtain rfl:=List.eq_nil_of_length_eq_zero h0;exact XP.ret [] (.sl 1 (An [])) rfl))
 refine XW.at 3 ?_;have h0:=(show 0<X.length by omega);obtain⟨x,hx,hxm⟩:=Bm X 0 h0;have hfz:x=DN f (X.take (0+1)):=(by rw[PS hx];rfl);have hxl1:x.length≤2^40:=(by have h1:=Sp hx;have h2:=US X (0+1);omega);have hxl:((X.drop 1).length:Int)=((X.length-1:Nat):Int):=sP
 refine Ah 3 ?_
 refine Aw 3 ?_
 refine AG (Ep (Zl x hxl1)) ?_;rintro _ rfl
 refine Aw 1 ?_
 refine XO.done [0,1,5] ?_
 refine A4 4 [1,5,16,17,18] ?_
 refine A8 0 (fun j:Nat=>⟨[(1,fnV g),(5,.sl 1 (An (DN f (X.take (j+1))))),(16,.sl 1 (iiE (X.drop 1))),(17,I (X.length-1:Nat)),(18,I j)],[]⟩) (fun j=>j+1≤X.length) (fun j=>X.length-j) 0 (AO (And.intro fnV.eq_1 (And.intro hfz hxl)) [] []) ?_;rintro j hI0 Y0 hY0;skip
 refine Aa 5 [1,5,16,17,18,19] ?_
 refine AC 19 (fun c19=>?_) (fun c19=>?_)
 refine XW.at 6 ?_;obtain⟨x2,hx2,hxm2⟩:=Bm X (j+1) oM;have hx:(X.drop 1)[j]? =some x2:=(by rw[List.getElem?_drop,Nat.add_comm 1 j];exact hx2);have hfs:f (DN f (X.take (j+1))) x2=DN f (X.take (j+1+1)):=(by rw[PS hx2,if_neg oM]);have hsl:(DN f (X.take (j+1))).length+x2.length≤2^40:=(by have h1:=JR hfl X (j+1) oM;have h2:=Sp hx2;have h3:=US X (j+1+1);omega)
 refine BJ 6 [1,5,7,16,17,18] ?_
 refine Ah 7 ?_
 refine Ac 3 ?_
 refine Le (hf _ _ hsl) ?_;rintro _ rfl
 refine Ac 1 ?_
 refine XO.done [1,5,16,17,18] ?_
 refine AQ 8 [1,5,16,17,18] ?_
 refine XH.le ?_;(exact eY hY0 (j+1) (AO (And.intro fnV.eq_1 hfs) [] []))
 refine XW.at 9 ?_;have hj:j+1=X.length:=oM;have hfin:X.take (j+1)=X:=List.take_of_length_le oM;rw[hfin]
 refine Aa 9 [4] ?_
 refine Aq ?_;(exact Bi rfl)
theorem Ag8(X:List (List Int))(hX:Gk X≤2^40)(hXl:X.length≤2^40):Ae Tryz.prog 30 [.sl 1 (iiE X)] (fun r=>r= .sl 1 (An (DN mgA X))):=by
 refine Ax 5 Tryz.func30 ?_
 refine Aa 0 [0] ?_
 refine Ah 1 ?_
 refine Ac 1 ?_
 refine AG (YN 68 mgA Uj AgF X hX hXl) ?_;rintro _ rfl
 refine Ac 1 ?_
 refine XO.done [2] ?_
 refine Aq ?_;((exact Bo rfl))
theorem AgR(X:List (List Int))(hX:Gk X≤2^40)(hXl:X.length≤2^40):Ae Tryz.prog 31 [.sl 1 (iiE X)] (fun r=>r= .sl 1 (An (DN mgO X))):=by
 refine Ax 5 Tryz.func31 ?_
 refine Aa 0 [0] ?_
 refine Ah 1 ?_
 refine Ac 1 ?_
 refine AG (YN 69 mgO Uy or69 X hX hXl) ?_;rintro _ rfl
 refine Ac 1 ?_
 refine XO.done [2] ?_
 refine Aq ?_;((exact Bo rfl))
end Go.Proofs.YtpkhodjlnodagaaGreatDoor
namespace Go.Proofs.YtpkhodjlnodagaaGreatDoor
open Go.Av
def GF(X:List (List Fl))(p:Nat)(f:Fl):List (List Fl):=X.set p (X.getD p []++[f])
theorem Qm(X:List (List Fl))(p:Nat)(f:Fl):(GF X p f).length=X.length:=by simp[GF]
theorem Ry(Y:List (List Fl))(p:Nat)(i:Fl)(h:p<Y.length):(GF Y p i).getD p []=Y.getD p []++[i]:=by
 unfold GF;simp[List.getD,h]
theorem Rz(Y:List (List Fl))(p q:Nat)(i:Fl)(h:p≠q):(GF Y p i).getD q []=Y.getD q []:=by
 unfold GF;simp[List.getD,List.getElem?_set_ne h]
def ofZ(n:S)(X:List (List Fl))(z:List (Int×S)):List (List Fl):=z.foldl (fun X q=>GF X q.1.toNat ⟨n,q.2⟩) X
theorem MG(n:S): ∀ (z:List (Int×S)) (X:List (List Fl)),(ofZ n X z).length=X.length
 | [],X=>rfl
 |q::z,X=>by
   have:=MG n z (GF X q.1.toNat ⟨n,q.2⟩)
   rw[Qm]at this;exact this
theorem RE(n:S)(X:List (List Fl))(z:List (Int×S))(q:Int×S):ofZ n X (z++[q])=GF (ofZ n X z) q.1.toNat ⟨n,q.2⟩:=by simp[ofZ]
def vlZ(l:List Ev)(n:S)(i:Nat):List (Int×S):=(Bn l n i).1.zip (Bn l n i).2
theorem X6{fs:List Fl}{n:S}{f:Fl}(h:DW fs n=some f):f=⟨n,f.val⟩:=by
 have:=List.find?_some h
 simp only[beq_iff_eq]at this
 cases f;simp at this;simp[this]
theorem UA(l:List Ev)(n:S)(X:List (List Fl))(hX:X.length=l.length): ∀ m,m≤l.length→ ∀ j,(h:j<l.length)→(ofZ n X (vlZ l n m)).getD j []=X.getD j []++(if j<m then(DW l[j].fields n).toList else [])
 |0,_,j,h=>by simp[vlZ,Bn,ofZ]
 |m+1,hm,j,h=>by
   have IH:=UA l n X hX m oM j h
   have hx:l[m]? =some l[m]:=List.getElem?_eq_getElem oM
   have hz:vlZ l n (m+1)=vlZ l n m++(match DW l[m].fields n with|some f=>[((m:Int),f.val)]|none=>[]):=by
     unfold vlZ
     rw[Bn,hx]
     simp only
     split
     · next f hf=>
       simp only[hf]
       rw[List.zip_append (Py l n m)];rfl
     · next hf=>simp[hf]
   rw[hz]
   cases hg:DW l[m].fields n with
   |none=>
     simp only[List.append_nil]
     rw[IH]
     by_cases hjm:j=m
     · subst hjm;simp[hg]
     · simp only[show(j<m+1)=(j<m) by apply propext;omega]
   |some f=>
     simp only
     rw[RE]
     simp only[Int.toNat_natCast]
     by_cases hjm:j=m
     · subst hjm
       rw[Ry _ _ _ (by rw[MG];omega),IH,if_neg oM,if_pos oM,hg,← X6 hg]
       simp
     · rw[Rz _ _ _ _ (fun h=>hjm h.symm),IH]
       simp only[show(j<m+1)=(j<m) by apply propext;omega]
def H9(l:List Ev)(d:List S)(i:Nat):List (List Fl):=l.map fun e=>(d.take i).filterMap (DW e.fields)
theorem Afr(l:List Ev)(d:List S):H9 l d 0=List.replicate l.length []:=by
 unfold H9
 simp only[List.take_zero,List.filterMap_nil]
 exact List.map_const' ..
theorem Jm(l:List Ev)(d:List S)(i:Nat):(H9 l d i).length=l.length:=by simp[H9]
theorem ZT{α:Type}{A B:List (List α)}(h:A.length=B.length)(hg: ∀ j,j<A.length→A.getD j []=B.getD j []):A=B:=by
 apply List.ext_getElem h
 intro j h1 h2
 have:=hg j h1
 simpa [List.getD,h1,h2] using this
theorem Aev(l:List Ev)(d:List S)(i:Nat)(h:i<d.length):H9 l d (i+1)=ofZ d[i] (H9 l d i) (vlZ l d[i] l.length):=by
 apply ZT
 · rw[MG,Jm,Jm]
 · intro j hj
   rw[Jm]at hj
   rw[UA l d[i] (H9 l d i) (Jm l d i) l.length (Nat.le_refl _) j hj,if_pos hj]
   simp only[H9,List.getD,List.getElem?_map,List.getElem?_eq_getElem hj,Option.map_some,Option.getD_some]
   rw[List.take_add_one,List.getElem?_eq_getElem h,List.filterMap_append]
   congr 1
theorem NN{α β:Type}{f g:α→Option β}{l:List α}(h: ∀ x∈l,f x=g x):l.filterMap f=l.filterMap g:=by
 induction l with
 |nil=>rfl
 |cons a l ih=>
   rw[List.filterMap_cons,List.filterMap_cons,h a sP,ih (fun x hx=>h x (by simp[hx]))]
theorem Kg: ∀ (d:List S) (F:List Fl),d.Pairwise ltS→(F.Pairwise fun a b=>ltS a.name b.name)→(∀ f∈F,f.name∈d)→d.filterMap (DW F)=F
 | [],F,_,_,h=>by
   cases F with
   |nil=>rfl
   |cons f F=>exact absurd (h f sP) sP
 |n::d,[],_,_,_=>by
   rw[List.filterMap_eq_nil_iff]
   intro a _;rfl
 |n::d,f::F,hd,hF,h=>by
   have hd1:=List.pairwise_cons.1 hd
   have hF1:=List.pairwise_cons.1 hF
   by_cases hn:f.name=n
   · have g:DW (f::F) n=some f:=by unfold DW;rw[List.find?_cons_of_pos (by simpa using hn)]
     rw[List.filterMap_cons,g]
     simp only
     have hrest:d.filterMap (DW (f::F))=d.filterMap (DW F):=by
       refine NN fun m hm=>?_
       unfold DW
       rw[List.find?_cons_of_neg]
       simp only[beq_iff_eq]
       intro e
       have:=hd1.1 m hm
       rw[← e,hn]at this
       exact C3 _ this
     rw[hrest,Kg d F hd1.2 hF1.2]
     intro g hg
     rcases List.mem_cons.1 (h g (by simp[hg]))with e|e
     · have:=hF1.1 g hg
       rw[e,hn]at this
       exact absurd this (C3 _)
     · exact e
   · have hfd:f.name∈d:=by
       rcases List.mem_cons.1 (h f sP)with e|e
       · exact absurd e hn
       · exact e
     have hlt:=hd1.1 _ hfd
     have hne: ∀ g∈f::F,g.name≠n∧g.name∈d:=by
       intro g hg
       have hng:g.name≠n:=by
         intro e
         rcases List.mem_cons.1 hg with rfl|hg
         · exact hn e
         · have:=EH hlt (hF1.1 g hg)
           rw[e]at this
           exact C3 _ this
       refine⟨hng,?_⟩
       rcases List.mem_cons.1 (h g hg)with e|e
       · exact absurd e hng
       · exact e
     have g0:DW (f::F) n=none:=by
       unfold DW
       rw[List.find?_eq_none]
       intro g hg
       simpa using (hne g hg).1
     rw[List.filterMap_cons,g0]
     exact Kg d (f::F) hd1.2 hF (fun g hg=>(hne g hg).2)
theorem Aa6(l:List Ev)(h: ∀ e∈l,e.fields.Pairwise fun a b=>ltS a.name b.name):H9 l (AH l) (AH l).length=l.map Ev.fields:=by
 unfold H9
 rw[List.take_length]
 apply List.map_congr_left
 intro e he
 refine Kg _ _ (BO _) (h e he) ?_
 intro f hf
 unfold AH
 rw[Cd]
 unfold Fy
 rw[List.take_length,List.mem_flatMap]
 exact⟨e,he,List.mem_map.2 ⟨f,hf,rfl⟩⟩
end Go.Proofs.YtpkhodjlnodagaaGreatDoor
namespace Go.Proofs.YtpkhodjlnodagaaGreatDoor
open Go.Av
set_option maxHeartbeats 4000000
attribute [local irreducible] Ad
theorem Oy(X:List (List Fl)): ∀ L∈X.map flE,AB 0 L=true:=by
 intro L hL
 obtain⟨v,_,rfl⟩:=List.mem_map.1 hL
 simp
theorem AdI(n:S)(X:List (List Fl))(b:Nat)(hX: ∀ p,(X.getD p []).length≤b): ∀ (z:List (Int×S)) p,((ofZ n X z).getD p []).length≤b+z.length:=by
 intro z
 induction z generalizing X b with
 |nil=>intro p;simpa [ofZ] using hX p
 |cons q z ih=>
   intro p
   have:=ih (GF X q.1.toNat ⟨n,q.2⟩) (b+1) (by
     intro r
     by_cases hr:q.1.toNat=r
     · subst hr
       by_cases hl:q.1.toNat<X.length
       · rw[Ry _ _ _ hl,List.length_append];have:=hX q.1.toNat;simp only[List.length_singleton];omega
       · have:(GF X q.1.toNat ⟨n,q.2⟩).getD q.1.toNat []=[]:=by simp[List.getD,List.getElem?_eq_none (show(GF X q.1.toNat ⟨n,q.2⟩).length≤q.1.toNat by rw[Qm];omega)]
         rw[this];simp
     · rw[Rz _ _ _ _ hr];have:=hX r;omega) p
   simp only[ofZ,List.foldl_cons,List.length_cons]at this ⊢;omega
theorem ZH(l:List Ev)(d:List S)(i:Nat)(p:Nat):((H9 l d i).getD p []).length≤i:=by
 unfold H9
 by_cases hp:p<l.length
 · have h1:=List.length_filterMap_le (DW l[p].fields) (d.take i)
   simp only[List.getD,List.getElem?_map,List.getElem?_eq_getElem hp,Option.map_some,Option.getD_some]
   simp at h1;omega
 · simp[List.getD,List.getElem?_eq_none (Nat.le_of_not_lt hp)]
theorem Vq(l:List Ev)(d:List S)(i:Nat)(h:i<d.length): ∃ R,F8 l d d.length=F8 l d i++(AE (Bt (Bn l d[i] l.length).1)++ixF (Bn l d[i] l.length).2)++R:=by
 refine⟨(d.drop (i+1)).flatMap (fdP l),?_⟩
 have e:d=d.take i++d[i]::d.drop (i+1):=by simp
 have e2:d.flatMap (fdP l)=(d.take i).flatMap (fdP l)++((AE (Bt (Bn l d[i] l.length).1)++ixF (Bn l d[i] l.length).2)++(d.drop (i+1)).flatMap (fdP l)):=by
   conv=>lhs;rw[e]
   rw[List.flatMap_append,List.flatMap_cons]
   rfl
 unfold F8
 rw[List.take_length,e2]
 simp only[List.append_assoc]
theorem Rh(l:List Ev)(s:List UInt8)(hs:s=D7 l)(h:SegG l):
   Ad Tryz.prog 91 [.sl 1 (Ab s),I l.length] [] (.tup [.osl 0 l.length 1,B true]) [some ⟨54,1,ffE (l.map Ev.fields)⟩]:=by
 have H:=h.ok
 have hl:=h.len
 have hall:=Aa6 l (fun e he=>(h.ev e he).fs)
 have hc:Bb (AH l)=0:=Er _ (by have:=h.names;unfold AH at this;omega) (IP l H.ev _)
 have hdl:=h.names
 have hsl:s.length≤2^36:=by
   have:=KY l (AH l) H.len H.ev hc (AH l).length (Nat.le_refl _)
   have h100:(AH l).length*(2^24+100011)≤100*(2^24+100011):=Nat.mul_le_mul_right _ hdl
   rw[hs];unfold D7;omega
 have hs0:s=F8 l (AH l) (AH l).length:=hs
 have hspl:=Vq l (AH l)
 have hfs:=Sf l (AH l)
 have q1:=Jb s 0 (AM (AH l)) ⟨[],(AH l).flatMap (fdP l),by rw[hs0];unfold F8;rw[List.take_length];simp,rfl⟩ oM
 have q2:=Rr (AH l) hc
 have ho0:0+(AE (AM (AH l))).length=(F8 l (AH l) 0).length:=by simp[F8]
 rw[ho0]at q1
 rw[← hs0]at hspl
 have hx0:=Afr l (AH l)
 have hxs:=Aev l (AH l)
 have hxb:=ZH l (AH l)
 have hxl0:=Jm l (AH l)
 rw[← hall]
 clear hall hs0 ho0
 generalize F8 l (AH l)=fd at*
 generalize AM (AH l)=en at*
 generalize H9 l (AH l)=fa at*
 generalize AH l=d at*
 clear hs
 refine acN 117 0 Tryz.func91 fun C hN hk=>?_
 refine Af [0,1] ?_
 refine Af [0,1,6,7,8] ?_ (onc 1 (pcq q1) noc)
 refine Af [0,1,7,8,9,10] ?_ (onc 1 (pcq q2) noc)
 refine rG hN hk noc [] [0,1,7,9,36] fun K hK=>?_;simp only[go_sem,seval,bne_self_eq_false]
 try simp (disch:=omega) only[au]
 try simp only[go_sem,seval,bne_self_eq_false]
 (first|with_reducible refine hK _ _ ?_|refine obK (hK _ _ ?_));clear hK K;refine nx ?_
 refine cF ?_;refine Af [0,1,7,9,11] ?_
 refine Af [0,1,7,9,11,12] ?_
 clear q1 q2
 have FC: ∀ env:List (Nat×AV),K8 2 env=true→FamC 1 env [(0,some ⟨9,1,Au d⟩)]:=fun env he=>⟨rfl,by simp[Kz],he⟩
 refine LW (o:=1) (sz:=2) (ty:=203) (oty:=54) (m:=l.length) (hp:=[(0,some ⟨9,1,Au d⟩)]) hk oM (FC _ rfl) ?_
 refine JD (k:=0) (fun i:Nat=>SO [(0,.sl 1 (Ab s)),(1,I l.length),(7,I (fd i).length),(9,.osl 0 d.length 1),(11,.osl 1 l.length 1),(12,I i)] [(0,some ⟨9,1,Au d⟩)] 1 2 203 54 ((fa i).map flE)) (fun i=>i≤d.length) (fun i=>d.length-i) 0 oM (by simp[hx0,I]) ?_
 intro i h1
 have hpl:=Oy (fa i)
 have hxl:=hxl0 i
 have hm:1+1+l.length=1+1+((fa i).map flE).length:=by simp[hxl]
 have hno:((fa i).map flE)[l.length]? =none:=by simp[hxl]
 by_cases hi:i<d.length
 · have hx:=List.getElem?_eq_getElem hi
   obtain⟨R,hR⟩:=hspl i hi
   have hvp:=Iu l d[i] H.len
   have hvl:=G9 l d[i] l.length
   have hvs:=HP l d[i] H.ev l.length
   have hve:=Py l d[i] l.length
   have hvlt:=My l d[i] l.length
   have hfi:=hfs i hi
   have q3:=Jb s (fd i).length (Bt (Bn l d[i] l.length).1) ⟨fd i,ixF (Bn l d[i] l.length).2++R,by rw[hR];simp,rfl⟩ oM
   have q4:=Aa9 (Bn l d[i] l.length).1 hvp
   have q5:=PT s ((fd i).length+(AE (Bt (Bn l d[i] l.length).1)).length) (Bn l d[i] l.length).2 oM hvs ⟨fd i++AE (Bt (Bn l d[i] l.length).1),R,by rw[hR];simp,sP⟩ oM
   have hon:(fd i).length+(AE (Bt (Bn l d[i] l.length).1)).length+(ixF (Bn l d[i] l.length).2).length=(fd (i+1)).length:=by
     rw[hfi];simp[fdP];omega
   rw[hon]at q5
   have hfa:=hxs i hi
   unfold vlZ at hfa
   have hbig:=hxb i
   generalize Bn l d[i] l.length=z at*
   obtain⟨ids,vals⟩:=z
   simp only at hvp hvl hvs hve hvlt q3 q4 q5 hfa
   generalize Bt ids=e1 at*
   generalize AE e1=e2 at*
   generalize (fd i).length+e2.length=o1 at*
   obtain⟨o2,ho2⟩: ∃ o2,(fd (i+1)).length=o2:=⟨_,rfl⟩
   rw[ho2]at q5
   clear hon hfi
   generalize (fd i).length=o0 at*
   generalize d[i]=n at*
   generalize fa i=X at*
   have d1:((vals.length:Int) !=(ids.length:Int))=false:=by simp;omega
   refine nx ?_
   rw[hm]
   refine B1 hN hk (l.length) (.normal) [(0,.sl 1 (Ab s)),(1,I l.length),(7,I o0),(9,.osl 0 d.length 1),(11,.osl 1 l.length 1),(12,I i),(42,B true)] [(0,some ⟨9,1,Au d⟩)] 1 (none) oM (FC _ rfl) hpl oM (FC _ rfl) sP (by first|(simp;done)|(simp[hxl];done)|(simp[hxl];omega)) ?_ ?_
   · intro C vs hN hk hvl
     rw[hno]
     simp only[Go.Av.ST,CK,Option.map_none,List.cons_append,List.nil_append,Nat.reduceAdd]
     refine nx ?_
     refine B8 Bh hN hk (noc) [0,1,2] [0,1,7,9,11,12,42] 3 oM rfl dK (fun K hK=>?_)
     simp only[go_sem,seval]
     try simp (disch:=omega) only[au]
     (first|with_reducible refine hK _ _ ?_|refine obK (hK _ _ ?_));clear hK K;refine nx ?_
     refine⟨rfl,[some 0,some 1],[],⟨by simp[Al],by simp[Al],sP⟩,sP,by simp[AK,lk,lkh,I,str,B,U8,U64,U32]<;>omega,by first|(simp[Am,Ai,Ak,lkh];done)|(simp[Am,Ai,Ak,lkh,I,str];done)|simp[Am,Ai,Ak,lkh,I,str]⟩
   rw[← hm]
   refine As ?_
   refine AX rfl (AW.skip (As ?_))
   simp only[BC]
   refine nx ?_
   rw[hm]
   refine B1 hN hk (l.length) (.normal) [(0,.sl 1 (Ab s)),(1,I l.length),(9,.osl 0 d.length 1),(11,.osl 1 l.length 1),(12,I i),(13,.sl 1 (Ab e1)),(14,I o1),(15,B true)] [(0,some ⟨9,1,Au d⟩)] 1 (none) oM (FC _ rfl) hpl oM (FC _ rfl) sP (by first|(simp;done)|(simp[hxl];done)|(simp[hxl];omega)) ?_ ?_
   · intro C vs hN hk hvl
     rw[hno]
     simp only[Go.Av.ST,CK,Option.map_none,List.cons_append,List.nil_append,Nat.reduceAdd]
     refine nx ?_
     refine B8 Bh hN hk (onc 2 (pcq q3) noc) [0,1,2] [0,1,9,11,12,13,14,15] 3 oM rfl dK (fun K hK=>?_)
     simp only[go_sem,seval];refine obK (hK _ _ ?_)
     clear hK K;refine nx ?_
     refine⟨rfl,[some 0,some 1],[],⟨by simp[Al],by simp[Al],sP⟩,sP,by simp[AK,lk,lkh,I,str,B,U8,U64,U32]<;>omega,by first|(simp[Am,Ai,Ak,lkh];done)|(simp[Am,Ai,Ak,lkh,I,str];done)|simp[Am,Ai,Ak,lkh,I,str]⟩
   rw[← hm]
   refine As ?_
   simp only[BC]
   refine nx ?_
   rw[hm]
   refine B1 hN hk (l.length) (.normal) [(0,.sl 1 (Ab s)),(1,I l.length),(9,.osl 0 d.length 1),(11,.osl 1 l.length 1),(12,I i),(13,.sl 1 (Ab e1)),(14,I o1),(53,B false)] [(0,some ⟨9,1,Au d⟩)] 1 (none) oM (FC _ rfl) hpl oM (FC _ rfl) sP (by first|(simp;done)|(simp[hxl];done)|(simp[hxl];omega)) ?_ ?_
   · intro C vs hN hk hvl
     rw[hno]
     simp only[Go.Av.ST,CK,Option.map_none,List.cons_append,List.nil_append,Nat.reduceAdd]
     refine nx ?_
     refine B8 Bh hN hk (noc) [0,1,2] [0,1,9,11,12,13,14,53] 3 oM rfl dK (fun K hK=>?_)
     simp only[go_sem,seval]
     (first|with_reducible refine hK _ _ ?_|refine obK (hK _ _ ?_));clear hK K;refine nx ?_
     refine⟨rfl,[some 0,some 1],[],⟨by simp[Al],by simp[Al],sP⟩,sP,by simp[AK,lk,lkh,I,str,B,U8,U64,U32]<;>omega,by first|(simp[Am,Ai,Ak,lkh];done)|(simp[Am,Ai,Ak,lkh,I,str];done)|simp[Am,Ai,Ak,lkh,I,str]⟩
   rw[← hm]
   refine As ?_
   refine Ay rfl (AW.skip (As ?_))
   simp only[BC]
   refine nx ?_
   rw[hm]
   refine B1 hN hk (l.length) (.normal) [(0,.sl 1 (Ab s)),(1,I l.length),(9,.osl 0 d.length 1),(11,.osl 1 l.length 1),(12,I i),(14,I o1),(16,.sl 1 (An ids)),(17,I 0)] [(0,some ⟨9,1,Au d⟩)] 1 (none) oM (FC _ rfl) hpl oM (FC _ rfl) sP (by first|(simp;done)|(simp[hxl];done)|(simp[hxl];omega)) ?_ ?_
   · intro C vs hN hk hvl
     rw[hno]
     simp only[Go.Av.ST,CK,Option.map_none,List.cons_append,List.nil_append,Nat.reduceAdd]
     refine nx ?_
     refine B8 Bh hN hk (onc 1 (pcq q4) noc) [0,1,2] [0,1,9,11,12,14,16,17] 3 oM rfl dK (fun K hK=>?_)
     simp only[go_sem,seval];refine obK (hK _ _ ?_)
     clear hK K;refine nx ?_
     refine⟨rfl,[some 0,some 1],[3],⟨by simp[Al],by simp[Al],sP⟩,sP,by simp[AK,lk,lkh,I,str,B,U8,U64,U32]<;>omega,by first|(simp[Am,Ai,Ak,lkh];done)|(simp[Am,Ai,Ak,lkh,I,str];done)|simp[Am,Ai,Ak,lkh,I,str]⟩
   rw[← hm]
   refine As ?_
   simp only[BC]
   refine nx ?_
   rw[hm]
   refine B1 hN hk (l.length) (.normal) [(0,.sl 1 (Ab s)),(1,I l.length),(9,.osl 0 d.length 1),(11,.osl 1 l.length 1),(12,I i),(14,I o2),(15,B true),(16,.sl 1 (An ids)),(17,I 0),(18,.sl 1 (Au vals))] [(0,some ⟨9,1,Au d⟩)] 1 (none) oM (FC _ rfl) hpl oM (FC _ rfl) sP (by first|(simp;done)|(simp[hxl];done)|(simp[hxl];omega)) ?_ ?_
   · intro C vs hN hk hvl
     rw[hno]
     simp only[Go.Av.ST,CK,Option.map_none,List.cons_append,List.nil_append,Nat.reduceAdd]
     refine nx ?_
     refine B8 Bh hN hk (onc 2 (pcq q5) noc) [0,1,2] [0,1,9,11,12,14,15,16,17,18] 3 oM rfl dK (fun K hK=>?_)
     simp only[go_sem,seval];refine obK (hK _ _ ?_)
     clear hK K;refine nx ?_
     refine⟨rfl,[some 0,some 1],[3],⟨by simp[Al],by simp[Al],sP⟩,sP,by simp[AK,lk,lkh,I,str,B,U8,U64,U32]<;>omega,by first|(simp[Am,Ai,Ak,lkh];done)|(simp[Am,Ai,Ak,lkh,I,str];done)|simp[Am,Ai,Ak,lkh,I,str]⟩
   rw[← hm]
   refine As ?_
   simp only[BC]
   refine nx ?_
   rw[hm]
   refine B1 hN hk (l.length) (.normal) [(0,.sl 1 (Ab s)),(1,I l.length),(9,.osl 0 d.length 1),(11,.osl 1 l.length 1),(12,I i),(14,I o2),(16,.sl 1 (An ids)),(18,.sl 1 (Au vals)),(78,B false)] [(0,some ⟨9,1,Au d⟩)] 1 (none) oM (FC _ rfl) hpl oM (FC _ rfl) sP (by first|(simp;done)|(simp[hxl];done)|(simp[hxl];omega)) ?_ ?_
   · intro C vs hN hk hvl
     rw[hno]
     simp only[Go.Av.ST,CK,Option.map_none,List.cons_append,List.nil_append,Nat.reduceAdd]
     refine nx ?_
     refine B8 Bh hN hk (noc) [0,1,2] [0,1,9,11,12,14,16,18,78] 3 oM rfl dK (fun K hK=>?_)
     simp only[go_sem,seval,d1,bne_self_eq_false]
     try simp (disch:=omega) only[au]
     try simp only[go_sem,seval,d1,bne_self_eq_false]
     iterate 2 try(simp (disch:=omega) only[au];try simp only[go_sem,seval,d1,bne_self_eq_false])
     (first|with_reducible refine hK _ _ ?_|refine obK (hK _ _ ?_));clear hK K;refine nx ?_
     refine⟨rfl,[some 0,some 1],[],⟨by simp[Al],by simp[Al],sP⟩,sP,by simp[AK,lk,lkh,I,str,B,U8,U64,U32]<;>omega,by first|(simp[Am,Ai,Ak,lkh];done)|(simp[Am,Ai,Ak,lkh,I,str];done)|simp[Am,Ai,Ak,lkh,I,str]⟩
   rw[← hm]
   refine As ?_
   refine Ay rfl (AW.skip (As ?_))
   simp only[BC]
   refine nx ?_
   rw[hm]
   refine B1 hN hk (l.length) (.normal) [(0,.sl 1 (Ab s)),(1,I l.length),(7,I o2),(9,.osl 0 d.length 1),(11,.osl 1 l.length 1),(12,I i),(16,.sl 1 (An ids)),(18,.sl 1 (Au vals))] [(0,some ⟨9,1,Au d⟩)] 1 (none) oM (FC _ rfl) hpl oM (FC _ rfl) sP (by first|(simp;done)|(simp[hxl];done)|(simp[hxl];omega)) ?_ ?_
   · intro C vs hN hk hvl
     rw[hno]
     simp only[Go.Av.ST,CK,Option.map_none,List.cons_append,List.nil_append,Nat.reduceAdd]
     refine nx ?_
     refine B8 Bh hN hk (noc) [0,1,2] [0,1,7,9,11,12,16,18] 3 oM rfl dK (fun K hK=>?_)
     simp only[go_sem,seval];refine hK _ _ ?_
     clear hK K;refine nx ?_
     refine⟨rfl,[some 0,some 1],[],⟨by simp[Al],by simp[Al],sP⟩,sP,by simp[AK,lk,lkh,I,str,B,U8,U64,U32]<;>omega,by first|(simp[Am,Ai,Ak,lkh];done)|(simp[Am,Ai,Ak,lkh,I,str];done)|simp[Am,Ai,Ak,lkh,I,str]⟩
   rw[← hm]
   refine As ?_
   simp only[BC]
   refine nx ?_
   rw[hm]
   refine B1 hN hk (l.length) (.normal) [(0,.sl 1 (Ab s)),(1,I l.length),(7,I o2),(9,.osl 0 d.length 1),(11,.osl 1 l.length 1),(12,I i),(16,.sl 1 (An ids)),(18,.sl 1 (Au vals)),(19,I 0)] [(0,some ⟨9,1,Au d⟩)] 1 (none) oM (FC _ rfl) hpl oM (FC _ rfl) sP (by first|(simp;done)|(simp[hxl];done)|(simp[hxl];omega)) ?_ ?_
   · intro C vs hN hk hvl
     rw[hno]
     simp only[Go.Av.ST,CK,Option.map_none,List.cons_append,List.nil_append,Nat.reduceAdd]
     refine nx ?_
     refine B8 Bh hN hk (noc) [0,1,2] [0,1,7,9,11,12,16,18,19] 3 oM rfl dK (fun K hK=>?_)
     simp only[go_sem,seval];refine hK _ _ ?_
     clear hK K;refine nx ?_
     refine⟨rfl,[some 0,some 1],[],⟨by simp[Al],by simp[Al],sP⟩,sP,by simp[AK,lk,lkh,I,str,B,U8,U64,U32]<;>omega,by first|(simp[Am,Ai,Ak,lkh];done)|(simp[Am,Ai,Ak,lkh,I,str];done)|simp[Am,Ai,Ak,lkh,I,str]⟩
   rw[← hm]
   refine As ?_
   simp only[BC]
   clear hpl hno hm q3 q4 q5
   refine nx ?_
   refine JD (k:=0) (fun k:Nat=>SO [(0,.sl 1 (Ab s)),(1,I l.length),(7,I o2),(9,.osl 0 d.length 1),(11,.osl 1 l.length 1),(12,I i),(16,.sl 1 (An ids)),(18,.sl 1 (Au vals)),(19,I k)] [(0,some ⟨9,1,Au d⟩)] 1 2 203 54 ((ofZ n X ((ids.zip vals).take k)).map flE)) (fun k=>k≤ids.length) (fun k=>ids.length-k) 0 oM (by simp[ofZ]) ?_
   intro k h2
   have hpl:=Oy (ofZ n X ((ids.zip vals).take k))
   have hxl2:=MG n ((ids.zip vals).take k) X
   have hm:1+1+l.length=1+1+((ofZ n X ((ids.zip vals).take k)).map flE).length:=by simp[hxl2,hxl]
   have hno:((ofZ n X ((ids.zip vals).take k)).map flE)[l.length]? =none:=by simp[hxl2,hxl]
   by_cases hk2:k<ids.length
   · have hkv:k<vals.length:=by omega
     have hy0:=List.getElem?_eq_getElem hk2
     have hyv:=List.getElem?_eq_getElem hkv
     have hzk:(ids.zip vals).take (k+1)=(ids.zip vals).take k++[(ids[k],vals[k])]:=by
       rw[List.take_add_one,List.getElem?_eq_getElem (show k<(ids.zip vals).length by simp;omega)]
       simp
     obtain⟨p,hp⟩:=Int.eq_ofNat_of_zero_le (hvlt _ (List.getElem_mem hk2)).1
     have hpl0:=(hvlt _ (List.getElem_mem hk2)).2
     rw[hp]at hpl0 hzk hy0
     have hzb:=AdI n X i hbig ((ids.zip vals).take k) p
     have hzl:((ids.zip vals).take k).length≤256:=by simp;omega
     have hsn:=RE n X ((ids.zip vals).take k) ((p:Int),vals[k])
     rw[← hzk]at hsn
     simp only[Int.toNat_natCast]at hsn
     generalize vals[k]=v at*
     generalize ofZ n X ((ids.zip vals).take k)=Y at*
     have hpl2:p<Y.length:=by omega
     have hat:(Y.map flE)[p]? =some (flE (Y.getD p [])):=by simp[List.getD,hpl2]
     unfold GF at hsn
     have hZl:(Y.getD p []).length≤1000:=by omega
     generalize Y.getD p []=Z at*
     have d2:=Vv (a:=(p:Int)) (b:=(l.length:Int)) oM
     rw[hm]
     refine B1 hN hk p .normal [(0,.sl 1 (Ab s)),(1,I l.length),(7,I o2),(9,.osl 0 d.length 1),(11,.osl 1 l.length 1),(12,I i),(16,.sl 1 (An ids)),(18,.sl 1 (Au vals)),(19,I (k+1:Nat))] [(0,some ⟨9,1,Au d⟩)] 1 (some (flE (Z++[⟨n,v⟩]))) oM (FC _ rfl) hpl oM (FC _ rfl) sP sO ?_ ?_
     · intro C vs hN hk hvl
       rw[hat]
       simp only[Go.Av.ST,CK,Option.map_some,List.cons_append,List.nil_append,Nat.reduceAdd]
       have hvp:p<vs.length:=by rw[hvl];simpa using hpl2
       have hv0:=fun c=>Hl (c:=c) hvp
       refine nx ?_
       refine B8 Bh hN hk (noc) [0,1,2] [0,1,7,9,11,12,16,18,19,83] 3 oM rfl dK (fun K hK=>?_)
       simp only[go_sem,seval]
       try simp (disch:=omega) only[au]
       (first|with_reducible refine hK _ _ ?_|refine obK (hK _ _ ?_));clear hK K;refine nx ?_
       refine cT ?_;refine nx ?_
       refine B8 Bh hN hk (noc) [0,1,2] [0,1,7,9,11,12,16,18,19,91] 3 oM rfl dK (fun K hK=>?_)
       simp only[go_sem,seval,hy0,d2]
       try simp (disch:=omega) only[au]
       (first|with_reducible refine hK _ _ ?_|refine obK (hK _ _ ?_));clear hK K;refine nx ?_
       refine cF ?_;refine nx ?_
       refine Pi Bh hN hk (noc) [0,1,2] [0,1,7,9,11,12,16,18,19,114] 3 oM rfl dK (fun K tok htok hK=>?_)
       simp only[go_sem,seval,hv0,hy0,hx,hyv]
       refine⟨htok _ dK,?_⟩
       (first|with_reducible refine hK _ _ ?_|refine obK (hK _ _ ?_));clear hK K htok tok
       refine nx ?_
       refine B8 Bh hN hk (noc) [0,1,2] [0,1,7,9,11,12,16,18,19,114] 3 oM rfl dK (fun K hK=>?_)
       simp only[go_sem,seval]
       try simp (disch:=omega) only[au]
       refine hK _ _ ?_;clear hK K;refine nx ?_
       have hfe:flE (Z++[⟨n,v⟩])=flE Z++[[.val (.string ⟨n.toArray⟩),.val (.string ⟨v.toArray⟩)]]:=by simp[flE,flC,str]
       refine⟨rfl,[some 0,some 1,some 3],[],⟨by simp[Al],by simp[Al],sP⟩,sP,by simp[AK,lk,lkh,I,str,B,U8,U64,U32,Cg hvp,hfe,AF,AN]<;>omega,by first|(simp[Am,Ai,Ak,lkh,Cg hvp,hfe,AF,AN];done)|(simp[Am,Ai,Ak,lkh,I,str,Cg hvp,hfe,AF,AN];done)|simp[Am,Ai,Ak,lkh,I,str,Cg hvp,hfe,AF,AN]⟩
     · refine As ⟨by first|rfl|exact hm.symm,k+1,oM,oM,?_⟩
       simp only[BC]
       rw[hsn,List.map_set]
   · have hke:k=ids.length:=by omega
     rw[hm]
     refine B1 hN hk l.length (.exit 2) [(0,.sl 1 (Ab s)),(1,I l.length),(7,I o2),(9,.osl 0 d.length 1),(11,.osl 1 l.length 1),(12,I i)] [(0,some ⟨9,1,Au d⟩)] 1 none oM (FC _ rfl) hpl oM (FC _ rfl) sP (by simp[hxl2,hxl]) ?_ ?_
     · intro C vs hN hk hvl
       rw[hno]
       simp only[Go.Av.ST,CK,Option.map_none,List.cons_append,List.nil_append,Nat.reduceAdd]
       refine nx ?_
       refine B8 Bh hN hk (noc) [0,1,2] [0,1,7,9,11,12,16,18,19,83] 3 oM rfl dK (fun K hK=>?_)
       simp only[go_sem,seval]
       try simp (disch:=omega) only[au]
       (first|with_reducible refine hK _ _ ?_|refine obK (hK _ _ ?_));clear hK K;refine nx ?_
       refine cF ?_;refine nx ?_
       refine⟨rfl,[some 0,some 1],[],⟨by simp[Al],by simp[Al],sP⟩,sP,by simp[AK,lk,lkh,I,str,B,U8,U64,U32]<;>omega,by first|(simp[Am,Ai,Ak,lkh];done)|(simp[Am,Ai,Ak,lkh,I,str];done)|simp[Am,Ai,Ak,lkh,I,str]⟩
     · refine nx ?_
       simp only[BC]
       refine B1 hN hk l.length .normal [(0,.sl 1 (Ab s)),(1,I l.length),(7,I o2),(9,.osl 0 d.length 1),(11,.osl 1 l.length 1),(12,I (i+1:Nat))] [(0,some ⟨9,1,Au d⟩)] 1 none oM (FC _ rfl) hpl oM (FC _ rfl) sP (by simp[hxl2,hxl]) ?_ ?_
       · intro C vs hN hk hvl
         rw[hno]
         simp only[Go.Av.ST,CK,Option.map_none,List.cons_append,List.nil_append,Nat.reduceAdd]
         refine nx ?_
         refine B8 Bh hN hk (noc) [0,1,2] [0,1,7,9,11,12] 3 oM rfl dK (fun K hK=>?_)
         simp only[go_sem,seval]
         try simp (disch:=omega) only[au]
         refine hK _ _ ?_;clear hK K;refine nx ?_
         refine⟨rfl,[some 0,some 1],[],⟨by simp[Al],by simp[Al],sP⟩,sP,by simp[AK,lk,lkh,I,str,B,U8,U64,U32]<;>omega,by first|(simp[Am,Ai,Ak,lkh];done)|(simp[Am,Ai,Ak,lkh,I,str];done)|simp[Am,Ai,Ak,lkh,I,str]⟩
       · refine As ⟨by first|rfl|exact hm.symm,i+1,oM,oM,?_⟩
         simp only[BC]
         rw[ho2,hfa,hke,List.take_of_length_le sO]
 · have hie:i=d.length:=by omega
   rw[hm]
   refine B1 hN hk l.length (.exit 0) [(11,.osl 1 l.length 1)] [(0,some ⟨9,1,Au d⟩)] 1 none oM (FC _ rfl) hpl oM (FC _ rfl) sP (by simp[hxl]) ?_ ?_
   · intro C vs hN hk hvl
     rw[hno]
     simp only[Go.Av.ST,CK,Option.map_none,List.cons_append,List.nil_append,Nat.reduceAdd]
     refine nx ?_
     refine B8 Bh hN hk (noc) [0,1,2] [0,1,7,9,11,12,42] 3 oM rfl dK (fun K hK=>?_)
     simp only[go_sem,seval]
     try simp (disch:=omega) only[au]
     (first|with_reducible refine hK _ _ ?_|refine obK (hK _ _ ?_));clear hK K;refine nx ?_
     refine cF ?_;refine nx ?_
     refine⟨rfl,[some 0,some 1],[],⟨by simp[Al],by simp[Al],sP⟩,sP,by simp[AK,lk,lkh,I,str,B,U8,U64,U32]<;>omega,by first|(simp[Am,Ai,Ak,lkh];done)|(simp[Am,Ai,Ak,lkh,I,str];done)|simp[Am,Ai,Ak,lkh,I,str]⟩
   refine nx ?_
   simp only[BC]
   rw[← hm,hie]
   subst hie
   generalize fa d.length=X at*
   have FO:=ML (sz:=2) (ty:=203) (oty:=54) (FC [(11,.osl 1 l.length 1)] rfl) hpl
   refine IR hk 2 ⟨[(11,.osl 1 l.length 1)],[(0,some ⟨9,1,Au d⟩),(1,some ⟨54,1,ffE X⟩)]⟩ (CL [some 0,some 1] (List.range' 2 X.length) (by simp[AK,lk,SO]) ?_) ?_
   · refine⟨.inl ⟨0,⟨9,1,Au d⟩,rfl,rfl,rfl,rfl,.inl ⟨rfl,sP⟩⟩,.inl ⟨1,⟨54,1,He 2 2 (X.map flE)⟩,rfl,rfl,rfl,rfl,.inr ?_⟩,trivial⟩
     have:=Mx (hp:=lkh (SO [(11,.osl 1 l.length 1)] [(0,some ⟨9,1,Au d⟩)] 1 2 203 54 (X.map flE)).hp) (ids:=[some 0,some 1]) (D:=List.range' 2 X.length) (ty:=203) (sz:=2) (X.map flE) 2 (fun j hj=>by simp at hj ⊢;omega) (fun j L hj=>FO.inn j L hj) hpl
     rw[List.map_map]at this
     exact this
   refine Af [4,5] ?_
   refine AW.ret (Dx [some 0] [])
@[go_sem] theorem E144n:Av.elemOf (Ao Tryz.prog) 144=none:=by kernel_rfl
theorem TA{w:Int}(h:H6 w=true):BE w:=by
 unfold H6 at h
 simp only[Bool.and_eq_true,decide_eq_true_eq]at h
 unfold BE;omega
theorem LP(o:List Ev)(e:Ev):evE (o++[e])=evE o++[[.val (.int .i64 e.host),.val (.int .i64 e.file),.val (.int .i64 e.frm),.val (.int .i64 e.to),.sl 3 (lnE e.lines),.val (.int .i64 e.time),.val (.int .i64 e.weight),.val (.string ⟨e.trace.toArray⟩),.val (.string ⟨e.stream.toArray⟩),.sl 2 (flE e.fields)]]:=by simp[evE,evC,I,str]
theorem AfY{l:List Ev}{bs:List UInt8}{a z:Nat}(V:SegV bs l.length a z (C5 l))(h:SegG l):
   Ad Tryz.prog 41 [.sl 1 (Ab bs),I l.length] [] (.tup [.osl 0 l.length 10,B true]) [some ⟨56,10,evE l⟩]:=by
 have H:=h.ok
 have hl:=h.len
 have hss:=Lx l
 have hg: ∀ k:Nat,1≤k→k≤12→Ad Tryz.prog 88 [.sl 1 (Ab bs),I k] [] (.sl 1 (Ab (Dz l k))) []:=by
   intro k h1 h2
   have:=AeV V k h1 oM
   rwa [PL,show k-1+1=k by omega]at this
 obtain⟨v,hv⟩: ∃ v:Nat→List Int,∀ k,v k=l.map fun e=>CM e k:=⟨fun k=>l.map fun e=>CM e k,fun _=>rfl⟩
 have hvl: ∀ k,(v k).length=l.length:=by intro k;rw[hv];simp
 have hvx: ∀ k i (hi:i<l.length),(v k)[i]? =some (CM l[i] k):=by intro k i hi;rw[hv];simp[hi]
 have hs1: ∀ k,1≤k→k≤6→Dz l k=AZ (v k):=by
   intro k h1 h6
   rw[hv];unfold Dz;rw[if_neg oM,if_neg oM,if_neg oM,if_neg oM,if_neg oM,if_neg oM]
 have qd: ∀ k,Ad Tryz.prog 74 [.sl 1 (Ab (AZ (v k)))] [] (.tup [.osl 0 (v k).length 1,I 0]) [some ⟨3,1,An (v k)⟩]:=by
   intro k
   refine Nq (v k) (DO (v k) 3) (Hu _ 3) (by rw[hvl];omega) ?_
   intro x hx
   rw[hv]at hx
   obtain⟨e,he,rfl⟩:=List.mem_map.1 hx
   have g:=h.ev e he
   have g1:=g.host
   have g2:=g.file
   have g3:=g.frm
   have g4:=g.to
   have g5:=g.time
   have g6:=TA g.weight
   unfold CM
   repeat' split
   all_goals first|exact g6|(unfold BE;omega)
 have q9:=PT (ixF (l.map Ev.trace)) 0 (l.map Ev.trace) sO (by
   intro s hs;obtain⟨e,he,rfl⟩:=List.mem_map.1 hs;exact(H.tr e he).1) ⟨[],[],sP,rfl⟩ (by
   have:=I3 (l.map Ev.trace) sO (by intro s hs;obtain⟨e,he,rfl⟩:=List.mem_map.1 hs;exact(H.tr e he).1)
   omega)
 have q10:=PT (ixF (l.map Ev.stream)) 0 (l.map Ev.stream) sO (by
   intro s hs;obtain⟨e,he,rfl⟩:=List.mem_map.1 hs;exact(H.tr e he).2) ⟨[],[],sP,rfl⟩ (by
   have:=I3 (l.map Ev.stream) sO (by intro s hs;obtain⟨e,he,rfl⟩:=List.mem_map.1 hs;exact(H.tr e he).2)
   omega)
 have q11:=Td l (Fk l) rfl H.len H.ev H.lines (by
   intro x hx
   obtain⟨e,he,hx⟩:=List.mem_flatMap.1 hx
   have g:=h.ev e he
   obtain⟨i,hi,rfl⟩:=List.getElem_of_mem hx
   have hm:=LD e.frm e.lines (fun i hi=>(g.off i hi).2)
   have o1:=g.off i hi
   have m1:=hm 0 i oM
   have m2:=hm (i+1) (e.lines.length- (i+1)) oM
   rw[show i+1+(e.lines.length- (i+1))=e.lines.length by omega,List.take_length,g.all,Q0 _ _ _ hi]at m2
   have g0:C7 e.frm (e.lines.take 0)=e.frm:=by simp[C7]
   rw[Nat.zero_add,g0]at m1
   have g3:=g.frm
   have g4:=g.to
   unfold BE;omega)
 have q12:=Rh l (D7 l) rfl h
 have g7:=hg 7 oM oM
 have g8:=hg 8 oM oM
 have g9:=hg 9 oM oM
 have g10:=hg 10 oM oM
 rw[show Dz l 7=ixF (l.map Ev.trace)from rfl]at g7
 rw[show Dz l 8=ixF (l.map Ev.stream)from rfl]at g8
 rw[show Dz l 9=Fk l from rfl]at g9
 rw[show Dz l 10=D7 l from rfl]at g10
 have htx: ∀ i (hi:i<l.length),(l.map Ev.trace)[i]? =some l[i].trace:=by intro i hi;simp[hi]
 have hsx: ∀ i (hi:i<l.length),(l.map Ev.stream)[i]? =some l[i].stream:=by intro i hi;simp[hi]
 have hlx: ∀ i (hi:i<l.length),(l.map Ev.lines)[i]? =some l[i].lines:=by intro i hi;simp[hi]
 have hfx: ∀ i (hi:i<l.length),(l.map Ev.fields)[i]? =some l[i].fields:=by intro i hi;simp[hi]
 have htl:(l.map Ev.trace).length=l.length:=by simp
 have hsl:(l.map Ev.stream).length=l.length:=by simp
 have hll:(l.map Ev.lines).length=l.length:=by simp
 have hfl:(l.map Ev.fields).length=l.length:=by simp
 generalize 0+(ixF (l.map Ev.trace)).length=o1 at*
 generalize 0+(ixF (l.map Ev.stream)).length=o2 at*
 generalize ixF (l.map Ev.trace)=x7 at*
 generalize ixF (l.map Ev.stream)=x8 at*
 generalize Fk l=x9 at*
 generalize D7 l=x10 at*
 generalize l.map Ev.trace=T at*
 generalize l.map Ev.stream=M at*
 generalize l.map Ev.lines=L at*
 generalize l.map Ev.fields=F at*
 have hgk: ∀ k:Nat,1≤k→k≤6→Ad Tryz.prog 88 [.sl 1 (Ab bs),I k] [] (.sl 1 (Ab (AZ (v k)))) []:=by
   intro k h1 h6
   rw[← hs1 k h1 h6];exact hg k h1 oM
 obtain⟨en,hen⟩: ∃ en:Nat→List UInt8,∀ k,AZ (v k)=en k:=⟨fun k=>AZ (v k),fun _=>rfl⟩
 simp only[hen]at hgk qd
 clear hen hs1 hg V hv H
 refine acN 154 0 Tryz.func41 fun C hN hk=>?_
 refine Af [0,1] ?_
 refine Af [0,1,6] ?_
 refine Af [0,1,6,7] ?_
 refine lpF hk 1 (fun k:Nat=>⟨[(0,.sl 1 (Ab bs)),(1,I l.length),(6,.ptr 0 7 0 0),(7,I k)],[(0,some ⟨144,7,[[AA,Cx v k 1,Cx v k 2,Cx v k 3,Cx v k 4,Cx v k 5,Cx v k 6]]⟩)]⟩) (fun k=>1≤k∧k≤7) (fun k=>7-k) 1 (Cz (And.intro Cx.eq_1 AA.eq_1) [some 0] []) ?_
 rintro k ⟨h1,h7⟩
 by_cases hk6:k≤6
 · have q1:=hgk k h1 hk6
   have q2:=qd k
   have q3:=hvl k
   have d1:((((v k).length:Nat):Int) !=(l.length:Int))=false:=ND oM
   obtain⟨k',hk'⟩: ∃ k',k'=k+1:=⟨_,rfl⟩
   obtain rfl|rfl|rfl|rfl|rfl|rfl:k=1∨k=2∨k=3∨k=4∨k=5∨k=6:=by omega
   all_goals
     refine nx ?_;refine rG hN hk noc [] [0,1,6,7,22] fun K hK=>?_;simp only[go_sem,seval,Cx,bne_self_eq_false,AA,d1]
     try simp (disch:=omega) only[au]
     refine hK _ _ ?_;clear hK K;refine nx ?_;refine cT ?_;refine nx ?_;refine rG hN hk noc [] [0,1,6,7] fun K hK=>?_;simp only[go_sem,seval,Cx,bne_self_eq_false,AA,d1];refine hK _ _ ?_
     clear hK K;refine nx ?_
     refine rG hN hk (onc 3 (pcq q1) (onc 4 (pcq q2) noc)) [] [0,1,6,7,8] fun K hK=>?_;simp only[go_sem,seval,Cx,bne_self_eq_false,AA,d1];refine obK (hK _ _ ?_)
     clear hK K;refine nx ?_
     refine rG hN hk noc [] [0,1,6,7,43] fun K hK=>?_;simp only[go_sem,seval,Cx,bne_self_eq_false,AA,d1]
     try simp (disch:=omega) only[au]
     try simp only[go_sem,seval,Cx,bne_self_eq_false,AA,d1]
     (first|with_reducible refine hK _ _ ?_|refine obK (hK _ _ ?_));clear hK K;refine nx ?_
     refine cF ?_;refine nx ?_;refine rG hN hk noc [] [0,1,6,7] fun K hK=>?_;simp only[go_sem,seval,Cx,bne_self_eq_false,AA,d1]
     try simp (disch:=omega) only[au]
     refine hK _ _ ?_;clear hK K;refine nx ?_
     refine eE (k') (Cz (And.intro hk' (And.intro Cx.eq_1 AA.eq_1)) [some 0] [1])
 · have:k=7:=by omega
   subst this
   clear hgk qd
   have d1:((T.length:Int) !=(l.length:Int))=false:=ND oM
   have d2:((M.length:Int) !=(l.length:Int))=false:=ND oM
   refine nx ?_;refine rG hN hk noc [] [0,1,6,7,22] fun K hK=>?_;simp only[go_sem,seval,Cx,AA,d1,d2]
   try simp (disch:=omega) only[au]
   refine hK _ _ ?_;clear hK K;refine nx ?_;refine cF ?_;refine nx ?_;refine rG hN hk (onc 1 (pcq g7) (onc 2 (pcq q9) noc)) [] [0,1,6,9,11] fun K hK=>?_;simp only[go_sem,seval,Cx,AA,d1,d2];refine obK (hK _ _ ?_)
   clear hK K;refine nx ?_
   refine rG hN hk (onc 1 (pcq g8) (onc 2 (pcq q10) noc)) [] [0,1,6,9,11,12,14] fun K hK=>?_;simp only[go_sem,seval,Cx,AA,d1,d2];refine obK (hK _ _ ?_)
   clear hK K;refine nx ?_
   refine rG hN hk (onc 1 (pcq g9) (onc 3 (pcq q11) noc)) [] [0,1,6,9,11,12,14,15,16] fun K hK=>?_;simp only[go_sem,seval,Cx,AA,d1,d2];refine obK (hK _ _ ?_)
   clear hK K;refine nx ?_
   refine rG hN hk (onc 1 (pcq g10) (onc 3 (pcq q12) noc)) [] [1,6,9,11,12,14,15,16,17,18] fun K hK=>?_;simp only[go_sem,seval,Cx,AA,d1,d2];refine obK (hK _ _ ?_)
   clear hK K;refine nx ?_
   refine rG hN hk noc [] [1,6,9,12,15,17,97] fun K hK=>?_;simp only[go_sem,seval,Cx,AA,d1,d2]
   try simp (disch:=omega) only[au]
   try simp only[go_sem,seval,Cx,AA,d1,d2]
   iterate 5 try(simp (disch:=omega) only[au];try simp only[go_sem,seval,Cx,AA,d1,d2])
   (first|with_reducible refine hK _ _ ?_|refine obK (hK _ _ ?_));clear hK K;refine nx ?_
   refine cF ?_;refine nx ?_;refine rG hN hk noc [] [1,6,9,12,15,17,19] fun K hK=>?_;simp only[go_sem,seval,Cx,AA,d1,d2];refine hK _ _ ?_
   clear hK K;refine nx ?_
   refine rG hN hk noc [] [1,6,9,12,15,17,19,20] fun K hK=>?_;simp only[go_sem,seval,Cx,AA,d1,d2];refine hK _ _ ?_
   clear hK K;refine nx ?_
   clear q9 q10 q11 q12 g7 g8 g9 g10
   refine nx ?_
   refine lpF hk 6 (fun i:Nat=>⟨[(1,I l.length),(6,.ptr 0 7 0 0),(9,.osl 1 T.length 1),(12,.osl 2 M.length 1),(15,.osl 3 l.length 1),(17,.osl 4 l.length 1),(19,.osl 5 (l.take i).length 10),(20,I i)],[(0,some ⟨144,7,[[AA,.sl 1 (An (v 1)),.sl 1 (An (v 2)),.sl 1 (An (v 3)),.sl 1 (An (v 4)),.sl 1 (An (v 5)),.sl 1 (An (v 6))]]⟩),(1,some ⟨9,1,Au T⟩),(2,some ⟨9,1,Au M⟩),(3,some ⟨53,1,llE L⟩),(4,some ⟨54,1,ffE F⟩),(5,some ⟨56,10,evE (l.take i)⟩)]⟩) (fun i=>i≤l.length) (fun i=>l.length-i) 0 (Cz AA.eq_1 [some 0,some 1,some 2,some 3,some 4,none] []) ?_
   intro i hi0
   by_cases hi:i<l.length
   · have x1:(v 1)[i]? =some l[i].host:=hvx 1 i hi
     have x2:(v 2)[i]? =some l[i].file:=hvx 2 i hi
     have x3:(v 3)[i]? =some l[i].frm:=hvx 3 i hi
     have x4:(v 4)[i]? =some l[i].to:=hvx 4 i hi
     have x5:(v 5)[i]? =some l[i].time:=hvx 5 i hi
     have x6:(v 6)[i]? =some l[i].weight:=hvx 6 i hi
     have x7:=htx i hi
     have x8:=hsx i hi
     have x9:=hlx i hi
     have x10:=hfx i hi
     have hsn:l.take (i+1)=l.take i++[l[i]]:=by simp[List.take_append_getElem]
     have hli:(l.take i).length≤256:=by simp;omega
     have hev:=LP (l.take i) l[i]
     generalize l[i]=e at*
     generalize l.take i=o at*
     refine AL [1,6,9,12,15,17,19,20,100] ?_;refine cT ?_;have F:=And.intro x1 (And.intro x2 (And.intro x3 (And.intro x4 (And.intro x5 (And.intro x6 (And.intro x7 (And.intro x8 (And.intro x9 x10))))))));refine DI [1,6,9,12,15,17,19,20] ?_;clear F
     refine AL [1,6,9,12,15,17,19,20] ?_
     refine eE (i+1) (CL [some 0,some 1,some 2,some 3,some 4,some 5] [] (by simp[AK,lk,lkh,I,str,B,U8,U64,U32,hsn,hev,AA,AF,AN]<;>omega) (by first|(simp[Am,Ai,Ak,lkh,hsn,hev,AA,AF,AN];done)|simp[Am,Ai,Ak,lkh,I,str,hsn,hev,AA,AF,AN]))
   · have:i=l.length:=by omega
     subst this
     rw[List.take_length]
     refine AL [1,6,9,12,15,17,19,20,100] ?_;refine cF ?_;refine Af [4,5] ?_
     refine AW.ret (Dx [some 0] [])
theorem YZ(l:List Ev)(h:SegG l):Ad Tryz.prog 14 [.sl 1 (Ab (Ee l))] [] (.tup [.osl 0 l.length 10,I 0]) [some ⟨56,10,evE l⟩]:=by
 have V:=Ys h
 have hl:=h.len
 have q1:=Yj V
 have q2:=Qn V
 have q3:=AfY V h
 have q4:=Su l h
 have hbl:(Ee l).length≤2^40:=by have:=V.len;have:=V.b.total;omega
 have q5:=JN (Ee l) (Ee l) hbl hbl
 rw[decide_eq_true rfl]at q5
 have d1:=EV (a:=(l.length:Int)) (b:=256) oM
 clear V hbl
 generalize Ee l=bs at*
 generalize CW l 0=a at*
 generalize CW l (l.length-1)=z at*
 refine acN 53 0 Tryz.func14 fun C hN hk=>?_
 refine Af [0] ?_
 refine Af [0,4,5] ?_ (onc 1 (pcq q1) noc)
 refine rG hN hk noc [] [0,4,5,17] fun K hK=>?_;simp only[go_sem,seval,bne_self_eq_false]
 try simp (disch:=omega) only[au]
 refine hK _ _ ?_;clear hK K;refine nx ?_;refine cF ?_;refine AL [0,21] ?_
 refine cF ?_;refine Af [0,6] ?_ (onc 1 (pcq q2) noc)
 have F:=d1;refine A6 [0,6,29] ?_;clear F;refine cF ?_;refine Af [0,8,9] ?_ (onc 3 (pcq q3) noc)
 refine Af [0,8,38] ?_
 refine cF ?_;refine Af [0,5,8,10] ?_ (onc 1 (bcq [0] q4) noc)
 refine rG hN hk (onc 5 (bcq [1] q5) noc) [] [8,51] fun K hK=>?_;simp only[go_sem,seval,bne_self_eq_false]
 try simp (disch:=omega) only[au]
 try simp only[go_sem,seval,bne_self_eq_false]
 refine obK (hK _ _ ?_);clear hK K;refine nx ?_;refine cF ?_;refine Af [2,3] ?_
 refine AW.ret (Dx [some 0] [])
def cdE(L:List UInt8)(a:Nat):Ent:=⟨98,2,[[.sl 1 (Ab L),I a]]⟩
attribute [go_sem] cdE
@[simp] theorem AgI(k:Nat)(c:AV)(r:List AV):AF k (c::r)=(AN k c&&AF k r):=rfl
@[simp] theorem Ah2(k:Nat):AF k []=true:=rfl
@[simp] theorem AiY(k sz:Nat)(es:List (List AV)):AN k (.sl sz es)=true:=rfl
@[simp] theorem Aiu(k:Nat)(v:Value):AN k (.val v)=true:=rfl
theorem YE(L:List UInt8)(a:Nat):Ad Tryz.prog 55 [.ptr 0 2 0 0] [some (cdE L a)] (B (decide ((a:Int)<L.length))) [some (cdE L a)]:=by
 refine acN 13 1 Tryz.func55 fun C hN hk=>?_
 refine Af [0] ?_ noc [0]
 refine IB [2] ?_ noc [0]
 refine AW.ret (BY [some 0] [] rfl (by simp[Az,lk,lkh,I,str,B,U8,U64,U32,cdE]<;>omega) (by first|(simp[Am,Ai,Ak,lkh,cdE];done)|simp[Am,Ai,Ak,lkh,I,str,cdE]))
theorem A9(L:List UInt8)(hL:L.length≤2^20)(a n:Nat)(ha:a≤L.length)(hn:n≤2^30)(hn1:1≤n):
   ∃ v a':Nat,a'≤L.length∧v<n∧Ad Tryz.prog 20 [.ptr 0 2 0 0,I n] [some (cdE L a)] (I v) [some (cdE L a')]:=by
 have q:=YE L a
 have d1:=GP (a:=(n:Int)) (b:=1) oM
 by_cases h:a<L.length
 · rw[Ze oM]at q
   have hx:=List.getElem?_eq_getElem h
   generalize L[a]=b at*
   have hb:=b.toNat_lt
   have hm:b.toNat*n≤255*n:=Nat.mul_le_mul_right _ oM
   have e1:((b.toNat:Int)*(n:Int)).tdiv 256=((b.toNat*n / 256:Nat):Int):=by
     rw[Int.tdiv_eq_ediv_of_nonneg (Int.mul_nonneg oM oM),Int.natCast_ediv,Int.natCast_mul]
     rfl
   have w1:=Ar (n:=(b.toNat:Int)*(n:Int)) (by
     have:((b.toNat:Int)*(n:Int))=((b.toNat*n:Nat):Int):=by rw[Int.natCast_mul]
     omega)
   have w2:=Ar (n:=(b.toNat:Int)) oM
   have w3:=Ar (n:=((b.toNat*n / 256:Nat):Int)) oM
   refine⟨b.toNat*n / 256,a+1,oM,oM,?_⟩
   refine acN 35 1 Tryz.func20 fun C hN hk=>?_
   refine Af [0,1] ?_ noc [0]
   refine rG hN hk (onc 1 (ocq 0 q) noc) [0] [0,1,12] fun K hK=>?_;simp only[go_sem,seval,d1]
   try simp (disch:=omega) only[au]
   try simp only[go_sem,seval,d1]
   refine obK (hK _ _ ?_);clear hK K;refine nx ?_;refine cF ?_;have F:=And.intro hx w2;refine DI [0,1,5] ?_ noc [0];clear F
   refine AL [1,5] ?_ noc [0]
   have F:=And.intro w1 (And.intro e1 w3);refine A6 [4] ?_ noc [0];clear F
   refine AW.ret (BY [some 0] [] rfl (by simp[Az,lk,lkh,I,str,B,U8,U64,U32,cdE]<;>omega) (by first|(simp[Am,Ai,Ak,lkh,cdE];done)|simp[Am,Ai,Ak,lkh,I,str,cdE]))
 · rw[GP oM]at q
   refine⟨0,a,ha,oM,?_⟩
   refine acN 35 1 Tryz.func20 fun C hN hk=>?_
   refine Af [0,1] ?_ noc [0]
   refine rG hN hk (onc 1 (ocq 0 q) noc) [0] [0,1,12] fun K hK=>?_;simp only[go_sem,seval]
   try simp (disch:=omega) only[au]
   try simp only[go_sem,seval]
   refine obK (hK _ _ ?_);clear hK K;refine nx ?_;refine cT ?_;refine Af [4] ?_ noc [0]
   refine AW.ret (BY [some 0] [] rfl (by simp[Az,lk,lkh,I,str,B,U8,U64,U32,cdE]<;>omega) (by first|(simp[Am,Ai,Ak,lkh,cdE];done)|simp[Am,Ai,Ak,lkh,I,str,cdE]))
theorem Ke{T:Tab}{rv:List ResultVar}{r:AV}{hs':List (Option Ent)}{k:Nat}{l:List AV}{p:Prop}{s:AS}(ids:List (Option Nat))(D:List Nat)(h1:AY T s rv=some (l,p):=by rfl)(hr:wk (lkh s.hp) ids D (Az l) r:=by simp[Az,lk,lkh,I,str,B,U8,U64,U32,cdE]<;>omega)(hh:Am (lkh s.hp) ids D (hs'.zipIdx.map fun x=>(x.2,x.1)):=by first|(simp[Am,Ai,Ak,lkh,cdE];done)|simp[Am,Ai,Ak,lkh,I,str,cdE])
   (h2:p:=by simp) (hi:IdsOk ids D k (hs'.zipIdx.map fun x=>(x.2,x.1)):=by exact⟨by simp[Al],by simp[Al],sP⟩) (hl:ids.length=hs'.length:=by simp):Di T rv r hs' k .ret 0 s:=BY ids D h1 hr hh h2 hi hl
theorem Eu{l:List S}{b:Nat}(h: ∀ w∈l,w.length≤b)(i:Nat):(l.getD i []).length≤b:=by
 by_cases hi:i<l.length
 · rw[DP hi];exact h _ (List.getElem_mem hi)
 · simp[List.getD,List.getElem?_eq_none (Nat.le_of_not_lt hi)]
def Lp:List S:=[[103,101,116],[101,114,114,111,114],[119,97,114,110],[97,49],[117,115,101,114,95,55],[120],[84,105,109,101,111,117,116],[50,48,48],[71,69,84],[101,114,114,111],[122],[],[255],[97,46,98]]
theorem Qr(i:Nat):(Lp.getD i []).length≤19:=Eu dC i
def G3:List S:=[[108,101,118,101,108],[109,115],[117,115,101,114],[99,111,100,101]]
theorem Hq(i:Nat):(G3.getD i []).length≤19:=Eu dC i
def L6:List S:=[[119,97,114,110],[105,110,102,111],[55],[45,51],[51,49],[],[120,32,121],[57,57,57,57,57,57,57,57,57,57,57,57,57,57,57,57,57,57],[49,48,48,48,48,48,48,48,48,48,48,48,48,48,48,48,48,48,48],[48,55],[45]]
theorem NZ(i:Nat):(L6.getD i []).length≤19:=Eu dC i
theorem WF(L:List UInt8)(hL:L.length≤2^20)(a:Nat)(ha:a≤L.length):
   ∃ v a':Nat,a'≤L.length∧Ad Tryz.prog 204 [.ptr 0 2 0 0] [some (cdE L a)] (str (Lp.getD v [])) [some (cdE L a')]:=by
 obtain⟨v,a',h1,h2,q⟩:=A9 L hL a 14 ha oM oM
 refine⟨v,a',h1,?_⟩
 obtain rfl|rfl|rfl|rfl|rfl|rfl|rfl|rfl|rfl|rfl|rfl|rfl|rfl|rfl:v=0∨v=1∨v=2∨v=3∨v=4∨v=5∨v=6∨v=7∨v=8∨v=9∨v=10∨v=11∨v=12∨v=13:=by omega
 all_goals
   refine acN 12 1 Tryz.func204 fun C hN hk=>?_
   refine Af [0] ?_ noc [0]
   refine Af [0,3] ?_ noc [0]
   refine Af [2] ?_ (onc 4 (ocq 0 q) noc) [0]
   refine AW.ret (BY [some 0] [] rfl (by simp[Az,lk,lkh,I,str,B,U8,U64,U32,cdE,Lp]<;>omega) (by first|(simp[Am,Ai,Ak,lkh,cdE,Lp];done)|simp[Am,Ai,Ak,lkh,I,str,cdE,Lp]))
theorem Kr(L:List UInt8)(hL:L.length≤2^20)(a:Nat)(ha:a≤L.length):
   ∃ v a':Nat,a'≤L.length∧Ad Tryz.prog 25 [.ptr 0 2 0 0] [some (cdE L a)] (str (G3.getD v [])) [some (cdE L a')]:=by
 obtain⟨v,a',h1,h2,q⟩:=A9 L hL a 4 ha oM oM
 refine⟨v,a',h1,?_⟩
 obtain rfl|rfl|rfl|rfl:v=0∨v=1∨v=2∨v=3:=by omega
 all_goals
   refine acN 8 1 Tryz.func25 fun C hN hk=>?_
   refine Af [0] ?_ noc [0]
   refine Af [2] ?_ (onc 2 (ocq 0 q) noc) [0]
   refine AW.ret (BY [some 0] [] rfl (by simp[Az,lk,lkh,I,str,B,U8,U64,U32,cdE,G3]<;>omega) (by first|(simp[Am,Ai,Ak,lkh,cdE,G3];done)|simp[Am,Ai,Ak,lkh,I,str,cdE,G3]))
theorem PK(L:List UInt8)(hL:L.length≤2^20)(a:Nat)(ha:a≤L.length):
   ∃ v a':Nat,a'≤L.length∧Ad Tryz.prog 26 [.ptr 0 2 0 0] [some (cdE L a)] (str (L6.getD v [])) [some (cdE L a')]:=by
 obtain⟨v,a',h1,h2,q⟩:=A9 L hL a 11 ha oM oM
 refine⟨v,a',h1,?_⟩
 obtain rfl|rfl|rfl|rfl|rfl|rfl|rfl|rfl|rfl|rfl|rfl:v=0∨v=1∨v=2∨v=3∨v=4∨v=5∨v=6∨v=7∨v=8∨v=9∨v=10:=by omega
 all_goals
   refine acN 12 1 Tryz.func26 fun C hN hk=>?_
   refine Af [0] ?_ noc [0]
   refine Af [0,3] ?_ noc [0]
   refine Af [2] ?_ (onc 4 (ocq 0 q) noc) [0]
   refine AW.ret (BY [some 0] [] rfl (by simp[Az,lk,lkh,I,str,B,U8,U64,U32,cdE,L6]<;>omega) (by first|(simp[Am,Ai,Ak,lkh,cdE,L6];done)|simp[Am,Ai,Ak,lkh,I,str,cdE,L6]))
def weL:List Int:=[1,1,2,5,10,5040]
theorem AaF(L:List UInt8)(hL:L.length≤2^20)(a:Nat)(ha:a≤L.length):
   ∃ (w:Int) (a':Nat),H6 w=true∧a'≤L.length∧Ad Tryz.prog 151 [.ptr 0 2 0 0] [some (cdE L a)] (I w) [some (cdE L a')]:=by
 obtain⟨v,a',h1,h2,q⟩:=A9 L hL a 6 ha oM oM
 refine⟨weL.getD v 1,a',?_,h1,?_⟩
 · exact(by decide: ∀ i<6,H6 (weL.getD i 1)=true) v h2
 obtain rfl|rfl|rfl|rfl|rfl|rfl:v=0∨v=1∨v=2∨v=3∨v=4∨v=5:=by omega
 all_goals
   refine acN 8 1 Tryz.func151 fun C hN hk=>?_
   refine Af [0] ?_ noc [0]
   refine Af [2] ?_ (onc 2 (ocq 0 q) noc) [0]
   refine AW.ret (BY [some 0] [] rfl (by simp[Az,lk,lkh,I,str,B,U8,U64,U32,cdE,weL]<;>omega) (by first|(simp[Am,Ai,Ak,lkh,cdE,weL];done)|simp[Am,Ai,Ak,lkh,I,str,cdE,weL]))
theorem Agc(L:List UInt8)(hL:L.length≤2^20)(a:Nat)(ha:a≤L.length):
   ∃ (t:Int) (a':Nat),(0≤t∧t≤253402300799999)∧a'≤L.length∧Ad Tryz.prog 150 [.ptr 0 2 0 0] [some (cdE L a)] (I t) [some (cdE L a')]:=by
 obtain⟨v,a',h1,h2,q⟩:=A9 L hL a 4 ha oM oM
 obtain rfl|hv:v=0∨v≠0:=by omega
 · obtain⟨v2,a2,g1,g2,q2⟩:=A9 L hL a' 40 h1 oM oM
   have w1:=Ar (n:=(v2:Int)*86400000) oM
   refine⟨(v2:Int)*86400000,a2,oM,g1,?_⟩
   refine acN 19 1 Tryz.func150 fun C hN hk=>?_
   refine Af [0] ?_ noc [0]
   refine Af [0,4] ?_ (onc 1 (ocq 0 q) noc) [0]
   refine AL [0,4,5] ?_ noc [0];refine cT ?_;have F:=w1;refine A6 [2] ?_ (onc 1 (ocq 0 q2) noc) [0];clear F
   refine AW.ret (Ke [some 0] [])
 · have d0:((v:Int)==0)=false:=by simp;omega
   obtain rfl|hv1:v=1∨v≠1:=by omega
   · obtain⟨v2,a2,g1,g2,q2⟩:=A9 L hL a' 3 h1 oM oM
     have w1:=Ar (n:=(v2:Int)*86400000) oM
     have w2:=Ar (n:=253402300799999- (v2:Int)*86400000) oM
     refine⟨253402300799999- (v2:Int)*86400000,a2,oM,g1,?_⟩
     refine acN 19 1 Tryz.func150 fun C hN hk=>?_
     refine Af [0] ?_ noc [0]
     refine Af [0,4] ?_ (onc 1 (ocq 0 q) noc) [0]
     refine AL [0,4,5] ?_ noc [0];refine cF ?_;refine AL [0,10] ?_ noc [0];refine cT ?_;have F:=And.intro w1 w2;refine A6 [2] ?_ (onc 1 (ocq 0 q2) noc) [0];clear F
     refine AW.ret (Ke [some 0] [])
   · obtain⟨v2,a2,g1,g2,q2⟩:=A9 L hL a' 60 h1 oM oM
     have d1:((v:Int)==1)=false:=by simp;omega
     have w1:=Ar (n:=1000+(v2:Int)) oM
     refine⟨1000+(v2:Int),a2,oM,g1,?_⟩
     refine acN 19 1 Tryz.func150 fun C hN hk=>?_
     refine Af [0] ?_ noc [0]
     refine Af [0,4] ?_ (onc 1 (ocq 0 q) noc) [0]
     have F:=d0;refine A6 [0,4,5] ?_ noc [0];clear F;refine cF ?_;have F:=d1;refine A6 [0,10] ?_ noc [0];clear F;refine cF ?_;have F:=w1;refine A6 [2] ?_ (onc 1 (ocq 0 q2) noc) [0];clear F
     refine AW.ret (Ke [some 0] [])
def Zu:List S:=[[32],[32],[44,32],[61],[]]
theorem Z5(i:Nat):(Zu.getD i []).length≤2:=Eu dC i
theorem Aeu(L:List UInt8)(hL:L.length≤2^20)(a:Nat)(ha:a≤L.length):
   GX Tryz.prog 149 [.ptr 0 2 0 0] [some (cdE L a)] (fun x=> ∃ (t:S) (a':Nat),x=(str t,[some (cdE L a')])∧t.length≤100∧a'≤L.length):=by
 obtain⟨v,a1,h1,q1⟩:=WF L hL a ha
 obtain⟨n,a2,h2,h3,q2⟩:=A9 L hL a1 4 h1 oM oM
 have hw:=Qr v
 generalize Lp.getD v []=w at*
 refine GV 24 1 Tryz.func149 rfl rfl rfl sP rfl rfl ?_
 refine Dd [0] ?_ noc [0]
 refine Dd [0,3] ?_ (onc 1 (ocq 0 q1) noc) [0]
 refine Dd [0,3,4] ?_ (onc 1 (ocq 0 q2) noc) [0]
 refine lpX 1 (fun s:Nat×S×Nat=>⟨[(0,.ptr 0 2 0 0),(3,str s.2.1),(4,I s.1)],[(0,some ⟨98,2,[[.sl 1 (Ab L),I s.2.2]]⟩)]⟩) (fun s=>s.1≤3∧s.2.1.length+21*s.1≤100∧s.2.2≤L.length) (fun s=>s.1) (n,w,a2) (Ea [some 0] []) ?_
 intro ⟨j,t,a3⟩ hI Y hY
 obtain⟨g1,g2,g3⟩:=hI
 simp only at g1 g2 g3
 cases j with
 |zero=>
   have d0:decide (((0:Nat):Int)>0)=false:=by simp
   have F:=d0;refine EF [0,3,4,10] ?_ noc [0];clear F
   refine Dd [2] ?_ noc [0]
   refine EX.ret (str t) [some (cdE L a3)] ?_ (fun C hN hk=>AW.ret (Ke [some 0] []))
   exact⟨t,a3,rfl,oM,g3⟩
 |succ j=>
   obtain⟨v3,a4,k1,k2,q3⟩:=A9 L hL a3 5 g3 oM oM
   obtain⟨v4,a5,k3,q4⟩:=WF L hL a4 k1
   have d0:decide (((j+1:Nat):Int)>0)=true:=by simp
   have e1:(((j+1:Nat):Int)-1)=(j:Int):=by omega
   have w1:=Ar (n:=(j:Int)) oM
   have hw4:=Qr v4
   have hs3:=Z5 v3
   generalize Lp.getD v4 []=u at*
   obtain⟨t',ht'⟩: ∃ t',t'=t++(Zu.getD v3 []++u):=⟨_,rfl⟩
   have hlen:t'.length≤t.length+21:=by rw[ht'];simp only[List.length_append];omega
   obtain rfl|rfl|rfl|rfl|rfl:v3=0∨v3=1∨v3=2∨v3=3∨v3=4:=by omega
   all_goals
     have F:=d0;refine EF [0,3,4,10] ?_ noc [0];clear F
     apply EX.step
     · intro xX C hN hk hqX
       refine IB [0,3,4] ?_ (onc 3 (ocq 0 q3) (onc 7 (ocq 0 q4) noc)) [0] (hN:=hN) (hk:=hk)
       exact hqX
     have F:=And.intro e1 w1;refine EF [0,3,4] ?_ noc [0];clear F
     refine eY hY ((j,t',a5)) (Cz (And.intro ht' Zu.eq_1) [some 0] [])
def fnL:List S:=[[99,111,100,101],[108,101,118,101,108],[109,115],[117,115,101,114]]
theorem Afe: ∀ n∈fnL,QQ n:=by
 intro n hn
 refine⟨?_,?_,?_⟩
 · exact(by decide: ∀ n∈fnL,1≤n.length) n hn
 · exact(by decide: ∀ n∈fnL,n.length≤32) n hn
 · exact(by decide: ∀ n∈fnL,∀ c∈n,Hs c=true) n hn
theorem UD:fnL.Pairwise ltS:=by decide
theorem AeE{α:Type}(l:List α)(i:Nat)(h:i<l.length):l.take (i+1)=l.take i++[l[i]]:=by
 rw[List.take_add_one,List.getElem?_eq_getElem h];rfl
structure FlG(F:List Fl):Prop where
 mem: ∀ f∈F,f.name∈fnL∧f.val.length≤19
 asc:F.Pairwise fun a b=>ltS a.name b.name
 len:F.length≤4
theorem Zh(L:List UInt8)(hL:L.length≤2^20)(a:Nat)(ha:a≤L.length):
   GX Tryz.prog 152 [.ptr 0 2 0 0] [some (cdE L a)] (fun x=> ∃ (F:List Fl) (a':Nat),x=(.osl 1 F.length 2,[some (cdE L a'),some ⟨203,2,flE F⟩])∧FlG F∧a'≤L.length):=by
 refine GV 27 1 Tryz.func152 rfl rfl rfl sP rfl rfl ?_
 refine Dd [0] ?_ noc [0]
 refine Dd [0,3] ?_ noc [0]
 refine Dd [0,3,4] ?_ noc [0]
 refine Dd [0,3,4,5] ?_ noc [0]
 have e0:Au fnL=[[.val (.string ⟨#[99,111,100,101]⟩)],[.val (.string ⟨#[108,101,118,101,108]⟩)],[.val (.string ⟨#[109,115]⟩)],[.val (.string ⟨#[117,115,101,114]⟩)]]:=rfl
 refine NI ?_
 refine lpX 3 (fun s:Nat×List Fl×Nat=>⟨[(0,.ptr 0 2 0 0),(3,.osl 1 s.2.1.length 2),(4,.osl 2 4 1),(5,I s.1)],[(0,some ⟨98,2,[[.sl 1 (Ab L),I s.2.2]]⟩),(1,some ⟨203,2,flE s.2.1⟩),(2,some ⟨9,1,Au fnL⟩)]⟩) (fun s=>s.1≤4∧s.2.1.length≤s.1∧s.2.2≤L.length∧(∀ f∈s.2.1,f.name∈fnL.take s.1∧f.val.length≤19)∧(s.2.1.Pairwise fun a b=>ltS a.name b.name)) (fun s=>4-s.1) (0,[],a) (Cz e0 [some 0,none,some 1] []) ?_
 intro ⟨i,F,a1⟩ hI Y hY
 obtain⟨g1,g2,g3,g4,g5⟩:=hI
 simp only at g1 g2 g3 g4 g5
 by_cases hi:i<4
 · have hx:fnL[i]? =some fnL[i]:=List.getElem?_eq_getElem (show i<fnL.length from hi)
   have hx4:fnL.length=4:=rfl
   obtain⟨v,a2,k1,k2,q1⟩:=A9 L hL a1 3 g3 oM oM
   have htk:fnL.take (i+1)=fnL.take i++[fnL[i]]:=AeE fnL i hi
   have hlt: ∀ n∈fnL.take i,ltS n fnL[i]:=by
     intro n hn
     obtain⟨j,hj,rfl⟩:=List.getElem_of_mem hn
     simp only[List.length_take]at hj
     rw[List.getElem_take]
     exact List.pairwise_iff_getElem.1 UD j i oM oM oM
   generalize fnL[i]=nm at*
   obtain hv|hv:v=1∨v≠1:=by omega
   · subst hv
     obtain⟨v2,a3,k3,q2⟩:=PK L hL a2 k1
     have hw:=NZ v2
     generalize L6.getD v2 []=w at*
     have hfe:flE (F++[(⟨nm,w⟩:Fl)])=flE F++[[.val (.string ⟨nm.toArray⟩),.val (.string ⟨w.toArray⟩)]]:=by simp[flE,flC,str]
     have hA: ∀ f∈F++[(⟨nm,w⟩:Fl)],f.name∈fnL.take (i+1)∧f.val.length≤19:=by
       intro f hf
       rw[htk]
       rcases List.mem_append.1 hf with hf|hf
       · exact⟨List.mem_append.2 (.inl (g4 f hf).1),(g4 f hf).2⟩
       · rw[List.mem_singleton.1 hf];exact⟨sP,hw⟩
     have hB:(F++[(⟨nm,w⟩:Fl)]).Pairwise fun a b=>ltS a.name b.name:=by
       rw[List.pairwise_append]
       refine⟨g5,sP,fun f hf g hg=>?_⟩
       rw[List.mem_singleton.1 hg]
       exact hlt _ (g4 f hf).1
     have hC:(F++[(⟨nm,w⟩:Fl)]).length≤i+1:=by simp;omega
     obtain⟨F2,hF2⟩: ∃ F2,F2=F++[(⟨nm,w⟩:Fl)]:=⟨_,rfl⟩
     rw[← hF2]at hA hB hC hfe
     have hlf:F2.length=F.length+1:=by rw[hF2];simp
     refine Gc [0,3,4,5,10] ?_ noc [0]
     refine Gc [0,3,4,5,15] ?_ (onc 1 (ocq 0 q1) noc) [0]
     apply EX.step
     · intro xX C hN hk hqX
       have F:=hx;refine DI [0,3,4,5] ?_ (onc 6 (ocq 0 q2) noc) [0] (hN:=hN) (hk:=hk);clear F
       exact hqX
     refine Gc [0,3,4,5] ?_ noc [0]
     refine eY hY ((i+1,F2,a3)) (Cz (And.intro hfe hlf) [some 0,some 1,some 2] [])
   · have d0:((v:Int)==1)=false:=by simp;omega
     have hA: ∀ f∈F,f.name∈fnL.take (i+1)∧f.val.length≤19:=by
       intro f hf
       rw[htk]
       exact⟨List.mem_append.2 (.inl (g4 f hf).1),(g4 f hf).2⟩
     refine Gc [0,3,4,5,10] ?_ noc [0]
     have F:=d0;refine EF [0,3,4,5,15] ?_ (onc 1 (ocq 0 q1) noc) [0];clear F
     refine Gc [0,3,4,5] ?_ noc [0]
     refine eY hY ((i+1,F,a2)) (Ea [some 0,some 1,some 2] [])
 · refine Gc [0,3,4,5,10] ?_ noc [0]
   refine Dd [2] ?_ noc [0]
   refine EX.ret (.osl 1 F.length 2) [some (cdE L a1),some ⟨203,2,flE F⟩] ?_ (fun C hN hk=>AW.ret (Ke [some 0,some 1] []))
   exact⟨F,a1,rfl,⟨fun f hf=>⟨List.mem_of_mem_take (g4 f hf).1,(g4 f hf).2⟩,g5,oM⟩,g3⟩
structure It where
 rule:S
 ev:Ev
def itC(x:It):List AV:=str x.rule::evC x.ev
def itE(l:List It):List (List AV):=l.map itC
theorem Vk(l:List It):(itE l).length=l.length:=by simp[itE]
theorem ZV(l:List It)(i:Nat):(itE l)[i]? =(l[i]?).map itC:=by simp[itE]
@[simp] theorem itE_id(k:Nat)(l:List It):AB k (itE l)=true:=by
 simp only[AB,itE,List.all_map,List.all_eq_true]
 intro x _
 rfl
theorem AdD(L:List Nat)(l:List It):BF L (itE l)=itE l:=by
 simp only[BF,itE,List.map_map]
 apply List.map_congr_left
 intro x _
 rfl
theorem Zx(l:List It)(x:It):itE l++[[.val (.string ⟨x.rule.toArray⟩),.val (.int .i64 x.ev.host),.val (.int .i64 x.ev.file),.val (.int .i64 x.ev.frm),.val (.int .i64 x.ev.to),.sl 3 (lnE x.ev.lines),.val (.int .i64 x.ev.time),.val (.int .i64 x.ev.weight),.val (.string ⟨x.ev.trace.toArray⟩),.val (.string ⟨x.ev.stream.toArray⟩),.sl 2 (flE x.ev.fields)]]=itE (l++[x]):=by simp[itE,itC,evC,I,str]
@[simp] theorem Ai5:itE []=[]:=rfl
attribute [go_sem] Vk ZV AdD Zx itC
def jjC(x:List It):List AV:=[.sl 11 (itE x)]
def jjE(l:List (List It)):List (List AV):=l.map jjC
theorem UX(l:List (List It)):(jjE l).length=l.length:=by simp[jjE]
theorem AaX(l:List (List It))(i:Nat):(jjE l)[i]? =(l[i]?).map jjC:=by simp[jjE]
@[simp] theorem Yq(k:Nat)(l:List (List It)):AB k (jjE l)=true:=by
 simp only[AB,jjE,List.all_map,List.all_eq_true]
 intro x _
 rfl
theorem Aef(L:List Nat)(l:List (List It)):BF L (jjE l)=jjE l:=by
 simp only[BF,jjE,List.map_map]
 apply List.map_congr_left
 intro x _
 rfl
theorem Aba(ρ:Nat→Nat)(l:List (List It)):(jjE l).map (BK ρ)=jjE l:=DT ρ (Yq 0 l)
theorem RT(l:List (List It))(x:(List It)):jjE l++[[.sl 11 (itE x)]]=jjE (l++[x]):=by simp[jjE,jjC,I,str]
@[simp] theorem Ajj:jjE []=[]:=rfl
attribute [go_sem] UX AaX Aef Aba RT jjC
attribute [simp] Vk UX
structure LnsG(f:Int)(l:List Ln):Prop where
 off: ∀ i (h:i<l.length),l[i].off=C7 f (l.take i)∧1≤l[i].len
 tx: ∀ x∈l,x.text.length≤100
 lo:f+l.length≤C7 f l
 hi:C7 f l≤f+102*l.length
theorem LnsG.nil(f:Int):LnsG f []:=⟨fun i h=>by simp at h,fun x h=>by simp at h,by simp[C7],by simp[C7]⟩
theorem LnsG.snoc{f:Int}{l:List Ln}(h:LnsG f l)(x:Ln)(h1:x.off=C7 f l)(h2:1≤x.len∧x.len≤102)(h3:x.text.length≤100):LnsG f (l++[x]):=by
 refine⟨fun i hi=>?_,fun y hy=>?_,?_,?_⟩
 · simp only[List.length_append,List.length_singleton]at hi
   by_cases hl:i<l.length
   · rw[List.getElem_append_left hl,List.take_append_of_le_length oM];exact h.off i hl
   · have:i=l.length:=by omega
     subst this
     rw[List.getElem_append_right (Nat.le_refl _)]
     simp only[Nat.sub_self,List.getElem_cons_zero,List.take_left']
     exact⟨h1,h2.1⟩
 · rcases List.mem_append.1 hy with hy|hy
   · exact h.tx y hy
   · rw[List.mem_singleton.1 hy];exact h3
 · have:=h.lo;rw[L9];simp;omega
 · have:=h.hi;rw[L9];simp;omega
structure ItG(host file frm:Int)(x:It):Prop where
 to:frm<x.ev.to∧x.ev.to≤frm+306
 good:x.rule=[]→EvG x.ev∧x.ev.host=host∧x.ev.file=file∧x.ev.frm=frm∧(∀ f∈x.ev.fields,f.name∈fnL)∧x.ev.lines.length≤3∧ ∀ y∈x.ev.lines,y.text.length≤100
def trL:List S:=[[116,49],[116,50],[],[49,58,50,58,48]]
def stL:List S:=[[109,97,105,110],[100,101,98,117,103]]
theorem AdO(i:Nat):(trL.getD i []).length≤5:=Eu dC i
theorem AcY(i:Nat):(stL.getD i []).length≤5:=Eu dC i
theorem Agv(L:List UInt8)(hL:L.length≤2^20)(a:Nat)(ha:a≤L.length)(host file frm:Int)(hh:0≤host∧host≤999)(hf:0≤file∧file≤2147483646)(hfr:0≤frm∧frm≤50000):
   GX Tryz.prog 99 [.ptr 0 2 0 0,I host,I file,I frm] [some (cdE L a)] (fun x=> ∃ (it:It) (a':Nat),x=(.agg (itC it),[some (cdE L a')])∧ItG host file frm it∧a'≤L.length):=by
 obtain⟨v,a1,h1,h2,q1⟩:=A9 L hL a 3 ha oM oM
 have w1:=Ar (n:=1+(v:Int)) oM
 refine GV 94 1 Tryz.func99 rfl rfl rfl sP rfl rfl ?_
 refine Dd [0,1,2,3,8] ?_ noc [0]
 refine Dd [0,3,8,9] ?_ noc [0]
 refine Dd [0,8,9,10] ?_ noc [0]
 have F:=w1;refine EF [0,8,9,10,11] ?_ (onc 1 (ocq 0 q1) noc) [0];clear F
 have h0:C7 frm []=frm:=by simp[C7]
 have h1v:1+(v:Int)=((v+1:Nat):Int):=by omega
 rw[h1v]
 have hnil:=LnsG.nil frm
 have hnl0:([]:List Ln).length+(v+1)=v+1:=by simp
 refine NI ?_
 refine lpX 4 (fun s:Nat×List Ln×Nat=>⟨[(0,.ptr 0 2 0 0),(8,.ptr 1 11 0 0),(9,.ptr 2 10 0 0),(10,I (C7 frm s.2.1)),(11,I s.1)],[(0,some ⟨98,2,[[.sl 1 (Ab L),I s.2.2]]⟩),(1,some ⟨108,11,[[str [],I 0,I 0,I 0,I 0,AA,I 0,I 0,str [],str [],AA]]⟩),(2,some ⟨56,10,[[I host,I file,I frm,I 0,.osl 3 s.2.1.length 3,I 0,I 0,str [],str [],AA]]⟩),(3,some ⟨156,3,lnE s.2.1⟩)]⟩) (fun s=>LnsG frm s.2.1∧s.2.1.length+s.1=v+1∧s.2.2≤L.length) (fun s=>s.1) (v+1,[],a1) (Cz (And.intro h0 AA.eq_1) [some 0,some 1,some 2,none] []) ?_
 clear q1 hnil
 intro ⟨j,ls,a2⟩ hI Y hY
 obtain⟨g1,g2,g3⟩:=hI
 simp only at g1 g2 g3
 have hlo:=g1.lo
 have hhi:=g1.hi
 cases j with
 |succ j=>
   obtain⟨_,⟨t,a3,rfl,k1,k2⟩,q2⟩:=Aeu L hL a2 g3
   obtain⟨u,a4,k3,k4,q3⟩:=A9 L hL a3 2 k2 oM oM
   simp only at q2
   have d0:decide (((j+1:Nat):Int)>0)=true:=by simp
   have e1:(((j+1:Nat):Int)-1)=(j:Int):=by omega
   have w2:=Ar (n:=(j:Int)) oM
   have w3:=Ar (n:=(t.length:Int)+1) oM
   have w4:=Ar (n:=(t.length:Int)+1+(u:Int)) oM
   have w5:=Ar (n:=C7 frm ls+((t.length:Int)+1+(u:Int))) oM
   obtain⟨x,hx⟩: ∃ x:Ln,x=⟨C7 frm ls,(t.length:Int)+1+(u:Int),t⟩:=⟨_,rfl⟩
   have hln:lnE (ls++[x])=lnE ls++[[.val (.int .i64 (C7 frm ls)),.val (.int .i64 ((t.length:Int)+1+(u:Int))),.val (.string ⟨t.toArray⟩)]]:=by rw[hx];simp[lnE,lnC,I,str]
   have hg:=g1.snoc x (by rw[hx]) (by rw[hx];simp only;omega) (by rw[hx];exact k1)
   have hat:=L9 frm ls x
   have hxl:x.len=(t.length:Int)+1+(u:Int):=by rw[hx]
   rw[hxl]at hat
   obtain⟨ls2,hls2⟩: ∃ ls2,ls2=ls++[x]:=⟨_,rfl⟩
   have hl2:ls2.length=ls.length+1:=by rw[hls2];simp
   rw[← hls2]at hg hat hln
   have F:=d0;refine EF [0,8,9,10,11,24] ?_ noc [0];clear F
   refine Dd [0,8,9,10,11,12] ?_ (onc 1 (ocq 0 q2) noc) [0]
   have F:=And.intro w3 w4;refine EF [0,8,9,10,11,12,13] ?_ (onc 4 (ocq 0 q3) noc) [0];clear F
   refine Dd [0,8,9,10,11,13] ?_ noc [0]
   have F:=w5;refine EF [0,8,9,10,11] ?_ noc [0];clear F
   have F:=And.intro e1 w2;refine EF [0,8,9,10,11] ?_ noc [0];clear F
   refine eY hY ((j,ls2,a4)) (Cz (And.intro hat (And.intro hln (And.intro hl2 AA.eq_1))) [some 0,some 1,some 2,some 3] [])
 |zero=>
   have d0:decide (((0:Nat):Int)>0)=false:=by simp
   have g2:ls.length=v+1:=by omega
   obtain⟨b,a3,k1,k2,q2⟩:=A9 L hL a2 5 g3 oM oM
   obtain⟨to,hto⟩: ∃ to,to=C7 frm ls:=⟨_,rfl⟩
   rw[← hto]at hlo hhi ⊢
   have F:=d0;refine EF [0,8,9,10,11,24] ?_ noc [0];clear F
   refine Dd [0,8,9] ?_ noc [0]
   by_cases hb:b=4
   · subst hb
     refine Gc [0,8,9,51] ?_ (onc 1 (ocq 0 q2) noc) [0]
     refine Dd [0,8,9,14] ?_ noc [0]
     clear q2
     refine NI ?_
     refine lpX 4 (fun s:Nat×List Ln=>⟨[(0,.ptr 0 2 0 0),(8,.ptr 1 11 0 0),(9,.ptr 2 10 0 0),(14,I s.1)],[(0,some ⟨98,2,[[.sl 1 (Ab L),I a3]]⟩),(1,some ⟨108,11,[[str [],I 0,I 0,I 0,I 0,AA,I 0,I 0,str [],str [],AA]]⟩),(2,some ⟨56,10,[[I host,I file,I frm,I to,.osl 3 s.2.length 3,I 0,I 0,str [],str [],AA]]⟩),(3,some ⟨156,3,lnE s.2⟩)]⟩) (fun s=>s.1≤ls.length∧s.2.length=ls.length) (fun s=>ls.length-s.1) (0,ls) (Cz AA.eq_1 [some 0,some 1,some 2,some 3] []) ?_
     intro ⟨i,l2⟩ hI2 Y2 hY2
     obtain⟨m1,m2⟩:=hI2
     simp only at m1 m2
     by_cases hi:i<l2.length
     · have hx:=List.getElem?_eq_getElem hi
       generalize l2[i]=x at*
       have hset:(lnE l2).set i [.val (.int .i64 x.off),.val (.int .i64 x.len),.val (.string ⟨#[]⟩)]=lnE (l2.set i ⟨x.off,x.len,[]⟩):=by simp[lnE,List.map_set,lnC,I,str]
       have hsl:(l2.set i ⟨x.off,x.len,[]⟩).length=l2.length:=by simp
       generalize l2.set i ⟨x.off,x.len,[]⟩=l3 at*
       refine Gc [0,8,9,14,56] ?_ noc [0]
       have F:=And.intro hx (And.intro hi hset);refine exFx [0,8,9,14] ?_ noc [0];clear F
       refine Gc [0,8,9,14] ?_ noc [0]
       refine eY hY2 ((i+1,l3)) (Cz (And.intro hsl AA.eq_1) [some 0,some 1,some 2,some 3] [])
     · obtain⟨v3,a4,k3,k4,q3⟩:=A9 L hL a3 3 k1 oM oM
       refine Gc [0,8,9,14,56] ?_ noc [0]
       obtain rfl|rfl|rfl:v3=0∨v3=1∨v3=2:=by omega
       · apply EX.step
         · intro xX C hN hk hqX
           refine IB [8] ?_ (onc 2 (ocq 0 q3) noc) [0] (hN:=hN) (hk:=hk)
           exact hqX
         refine EX.ret (.agg (itC ⟨[115,97,109,112,108,101],⟨host,file,frm,to,l2,0,0,[],[],[]⟩⟩)) [some (cdE L a4)] ?_ (fun C hN hk=>AW.ret (BY [some 0] [2] (by simp only[AY,go_sem,seval];rfl) (by simp[Az,lk,lkh,I,str,B,U8,U64,U32,cdE,itC,evC]<;>omega) (by first|(simp[Am,Ai,Ak,lkh,cdE,itC,evC];done)|simp[Am,Ai,Ak,lkh,I,str,cdE,itC,evC])))
         exact⟨_,a4,rfl,⟨by simp only;omega,sP⟩,k3⟩
       · apply EX.step
         · intro xX C hN hk hqX
           refine IB [8] ?_ (onc 2 (ocq 0 q3) noc) [0] (hN:=hN) (hk:=hk)
           exact hqX
         refine EX.ret (.agg (itC ⟨[100,114,111,112],⟨host,file,frm,to,l2,0,0,[],[],[]⟩⟩)) [some (cdE L a4)] ?_ (fun C hN hk=>AW.ret (BY [some 0] [2] (by simp only[AY,go_sem,seval];rfl) (by simp[Az,lk,lkh,I,str,B,U8,U64,U32,cdE,itC,evC]<;>omega) (by first|(simp[Am,Ai,Ak,lkh,cdE,itC,evC];done)|simp[Am,Ai,Ak,lkh,I,str,cdE,itC,evC])))
         exact⟨_,a4,rfl,⟨by simp only;omega,sP⟩,k3⟩
       · apply EX.step
         · intro xX C hN hk hqX
           refine IB [8] ?_ (onc 2 (ocq 0 q3) noc) [0] (hN:=hN) (hk:=hk)
           exact hqX
         refine EX.ret (.agg (itC ⟨[116,111,111,45,108,111,110,103],⟨host,file,frm,to,l2,0,0,[],[],[]⟩⟩)) [some (cdE L a4)] ?_ (fun C hN hk=>AW.ret (BY [some 0] [2] (by simp only[AY,go_sem,seval];rfl) (by simp[Az,lk,lkh,I,str,B,U8,U64,U32,cdE,itC,evC]<;>omega) (by first|(simp[Am,Ai,Ak,lkh,cdE,itC,evC];done)|simp[Am,Ai,Ak,lkh,I,str,cdE,itC,evC])))
         exact⟨_,a4,rfl,⟨by simp only;omega,sP⟩,k3⟩
   · have d4:((b:Int)==4)=false:=by simp;omega
     have F:=d4;refine EF [0,8,9,51] ?_ (onc 1 (ocq 0 q2) noc) [0];clear F
     obtain⟨t,a4,t1,k3,q3⟩:=Agc L hL a3 k1
     obtain⟨w,a5,t2,k4,q4⟩:=AaF L hL a4 k3
     obtain⟨v5,a6,k5,k6,q5⟩:=A9 L hL a5 4 k4 oM oM
     obtain⟨v6,a7,k7,k8,q6⟩:=A9 L hL a6 2 k5 oM oM
     obtain⟨_,⟨F,a8,rfl,hF,k9⟩,q7⟩:=Zh L hL a7 k7
     simp only at q7
     have htr:=AdO v5
     have hst:=AcY v6
     obtain⟨e,he⟩: ∃ e:Ev,e=⟨host,file,frm,to,ls,t,w,trL.getD v5 [],stL.getD v6 [],F⟩:=⟨_,rfl⟩
     have hg:EvG e:=by
       rw[he]
       exact⟨hh,hf,hfr.1,by simp only;omega,t1,t2,by simp only;omega,fun i hi=>by simpa using g1.off i hi,hto.symm,fun y hy=>by have:=g1.tx y hy;omega,⟨by simp only;omega,by simp only;omega⟩,by have:=hF.len;simp only;omega,fun f hf=>⟨Afe _ (hF.mem f hf).1,by have:=(hF.mem f hf).2;omega⟩,hF.asc⟩
     have hi:ItG host file frm ⟨[],e⟩:=by
       refine⟨?_,fun _=>⟨hg,?_⟩⟩
       · rw[he];simp only;omega
       · rw[he];exact⟨rfl,rfl,rfl,fun f hf=>(hF.mem f hf).1,by simp only;omega,g1.tx⟩
     have hec:itC ⟨[],e⟩=[str [],I host,I file,I frm,I to,.sl 3 (lnE ls),I t,I w,str (trL.getD v5 []),str (stL.getD v6 []),.sl 2 (flE F)]:=by rw[he];rfl
     refine Dd [0,8,9] ?_ (onc 1 (ocq 0 q3) (onc 3 (ocq 0 q4) noc)) [0]
     obtain rfl|rfl|rfl|rfl:v5=0∨v5=1∨v5=2∨v5=3:=by omega
     all_goals
       obtain rfl|rfl:v6=0∨v6=1:=by omega
       all_goals
         apply EX.step
         · intro xX C hN hk hqX
           refine IB [0,8,9] ?_ (onc 2 (ocq 0 q5) (onc 7 (ocq 0 q6) noc)) [0] (hN:=hN) (hk:=hk)
           exact hqX
         refine Dd [8,9] ?_ (onc 1 (ocq 0 q7) noc) [0]
         refine Dd [8] ?_ noc [0]
         refine EX.ret (.agg (itC ⟨[],e⟩)) [some (cdE L a8)] ?_ (fun C hN hk=>AW.ret (BY [some 0] [2,3] (by simp only[AY,go_sem,seval];rfl) (by simp[Az,lk,lkh,I,str,B,U8,U64,U32,cdE,hec,trL,stL]<;>omega) (by first|(simp[Am,Ai,Ak,lkh,cdE,hec,trL,stL];done)|simp[Am,Ai,Ak,lkh,I,str,cdE,hec,trL,stL])))
         exact⟨_,a8,rfl,hi,k9⟩
@[simp] theorem wkE_jj{hp:Hp}{ids:List (Option Nat)}{D:List Nat}(l:List (List It))(x:List It)(c:List AV):wkE hp ids D (jjE l++[c]) (jjE (l++[x]))↔wkL hp ids D c [.sl 11 (itE x)]:=by
 rw[← RT];exact Gr (Yq 0 l)
structure DrE(e:Ev):Prop where
 good:EvG e
 fn: ∀ f∈e.fields,f.name∈fnL
 nl:e.lines.length≤3
 tx: ∀ y∈e.lines,y.text.length≤100
structure RowG(host file:Int)(l:List It):Prop where
 each: ∀ x∈l,x.rule=[]→DrE x.ev∧x.ev.host=host∧x.ev.file=file
 asc:l.Pairwise fun x y=>x.rule=[]→y.rule=[]→x.ev.frm<y.ev.frm
 len:l.length≤6
theorem AdZ(L:List UInt8)(hL:L.length≤2^20)(a:Nat)(ha:a≤L.length)(host:Int)(most:Nat)(hh:0≤host∧host≤999)(hm:most≤6):
   GX Tryz.prog 53 [.ptr 0 2 0 0,I host,I most] [some (cdE L a)] (fun x=> ∃ (out:List (List It)) (a':Nat),x=(.osl 1 out.length 1,[some (cdE L a'),some ⟨106,1,jjE out⟩])∧(out.length≤3∧ ∀ i (h:i<out.length),RowG host (5+i) out[i])∧a'≤L.length):=by
 refine GV 45 1 Tryz.func53 rfl rfl rfl sP rfl rfl ?_
 refine Dd [0,1,2] ?_ noc [0]
 refine Dd [0,1,2,7] ?_ noc [0]
 refine Dd [0,1,2,7,8] ?_ noc [0]
 have hnil: ∀ i (h:i<([]:List (List It)).length),RowG host (5+i) ([]:List (List It))[i]:=fun i h=>by simp at h
 refine NI ?_
 refine lpX 2 (fun s:Nat×List (List It)×Nat=>⟨[(0,.ptr 0 2 0 0),(1,I host),(2,I most),(7,.osl 1 s.2.1.length 1),(8,I s.1)],[(0,some ⟨98,2,[[.sl 1 (Ab L),I s.2.2]]⟩),(1,some ⟨106,1,jjE s.2.1⟩)]⟩) (fun s=>s.1≤3∧s.2.1.length=s.1∧s.2.2≤L.length∧ ∀ i (h:i<s.2.1.length),RowG host (5+i) s.2.1[i]) (fun s=>3-s.1) (0,[],a) (Ea [some 0,none] []) ?_
 intro ⟨f,out,a1⟩ hI Y hY
 obtain⟨g1,g2,g3,g4⟩:=hI
 simp only at g1 g2 g3 g4
 obtain⟨v,a2,h1,h2,q1⟩:=A9 L hL a1 3 g3 oM oM
 by_cases hfv:f≤v
 · have d0:=Pl (a:=(f:Int)) (b:=(v:Int)) oM
   obtain⟨n,a3,h3,h4,q2⟩:=A9 L hL a2 (most+1) h1 oM oM
   have w1:=Ar (n:=(most:Int)+1) oM
   have F:=d0;refine EF [0,1,2,7,8,16] ?_ (onc 2 (ocq 0 q1) noc) [0];clear F
   refine Dd [0,1,2,7,8,9] ?_ noc [0]
   refine Dd [0,1,2,7,8,9,10] ?_ noc [0]
   have F:=w1;refine EF [0,1,2,7,8,9,10,11] ?_ (onc 3 (ocq 0 q2) noc) [0];clear F
   clear q1 q2
   have hnil2: ∀ x∈([]:List It),x.rule=[]→(DrE x.ev∧x.ev.host=host∧x.ev.file=5+f)∧x.ev.frm<0:=fun x h=>by simp at h
   refine NI ?_
   refine lpX 3 (fun s:Nat×List It×Int×Nat=>⟨[(0,.ptr 0 2 0 0),(1,I host),(2,I most),(7,.osl 1 out.length 1),(8,I f),(9,.osl 2 s.2.1.length 11),(10,I s.2.2.1),(11,I s.1)],[(0,some ⟨98,2,[[.sl 1 (Ab L),I s.2.2.2]]⟩),(1,some ⟨106,1,jjE out⟩),(2,some ⟨108,11,itE s.2.1⟩)]⟩) (fun s=>s.2.1.length+s.1≤6∧s.2.2.2≤L.length∧(0≤s.2.2.1∧s.2.2.1≤306*s.2.1.length)∧(∀ x∈s.2.1,x.rule=[]→(DrE x.ev∧x.ev.host=host∧x.ev.file=5+f)∧x.ev.frm<s.2.2.1)∧s.2.1.Pairwise fun x y=>x.rule=[]→y.rule=[]→x.ev.frm<y.ev.frm) (fun s=>s.1) (n,[],0,a3) (Ea [some 0,some 1,none] []) ?_
   intro ⟨j,l,at',a4⟩ hI2 Y2 hY2
   obtain⟨m1,m2,m3,m4,m5⟩:=hI2
   simp only at m1 m2 m3 m4 m5
   cases j with
   |succ j=>
     have d0:decide (((j+1:Nat):Int)>0)=true:=by simp
     have e1:(((j+1:Nat):Int)-1)=(j:Int):=by omega
     have w2:=Ar (n:=(j:Int)) oM
     have w3:=Ar (n:=5+(f:Int)) oM
     obtain⟨_,⟨it,a5,rfl,k1,k2⟩,q3⟩:=Agv L hL a4 m2 host (5+f) at' hh oM oM
     simp only at q3
     have hto:=k1.to
     have hA: ∀ x∈l++[it],x.rule=[]→(DrE x.ev∧x.ev.host=host∧x.ev.file=5+f)∧x.ev.frm<it.ev.to:=by
       intro x hx hr
       rcases List.mem_append.1 hx with hx|hx
       · have:=m4 x hx hr
         exact⟨this.1,oM⟩
       · obtain rfl:=List.mem_singleton.1 hx
         obtain⟨y1,y2,y3,y4,y5,y6,y7⟩:=k1.good hr
         exact⟨⟨⟨y1,y5,y6,y7⟩,y2,y3⟩,oM⟩
     have hB:(l++[it]).Pairwise fun x y=>x.rule=[]→y.rule=[]→x.ev.frm<y.ev.frm:=by
       rw[List.pairwise_append]
       refine⟨m5,sP,fun x hx y hy h1 h2=>?_⟩
       obtain rfl:=List.mem_singleton.1 hy
       have:=(m4 x hx h1).2
       have:=(k1.good h2).2.2.2.1
       omega
     obtain⟨l2,hl2⟩: ∃ l2,l2=l++[it]:=⟨_,rfl⟩
     have hll:l2.length=l.length+1:=by rw[hl2];simp
     rw[← hl2]at hA hB
     have F:=d0;refine EF [0,1,2,7,8,9,10,11,24] ?_ noc [0];clear F
     have F:=w3;refine EF [0,1,2,7,8,9,11,12] ?_ (onc 5 (ocq 0 q3) noc) [0];clear F
     refine Dd [0,1,2,7,8,9,11,12] ?_ noc [0]
     refine Dd [0,1,2,7,8,9,10,11] ?_ noc [0]
     have F:=And.intro e1 w2;refine EF [0,1,2,7,8,9,10,11] ?_ noc [0];clear F
     refine eY hY2 ((j,l2,it.ev.to,a5)) (Cz (And.intro hll hl2) [some 0,some 1,some 2] [])
   |zero=>
     have d0:decide (((0:Nat):Int)>0)=false:=by simp
     have hrow:RowG host (5+f) l:=⟨fun x hx hr=>(m4 x hx hr).1,m5,oM⟩
     have hS: ∀ i (h:i<(out++[l]).length),RowG host (5+i) (out++[l])[i]:=by
       intro i hi
       simp only[List.length_append,List.length_singleton]at hi
       by_cases hl:i<out.length
       · rw[List.getElem_append_left hl];exact g4 i hl
       · have:i=out.length:=by omega
         subst this
         rw[List.getElem_append_right (Nat.le_refl _)]
         simp only[Nat.sub_self,List.getElem_cons_zero,g2]
         exact hrow
     obtain⟨o2,ho2⟩: ∃ o2,o2=out++[l]:=⟨_,rfl⟩
     have hol:o2.length=out.length+1:=by rw[ho2];simp
     rw[← ho2]at hS
     have F:=d0;refine EF [0,1,2,7,8,9,10,11,24] ?_ noc [0];clear F
     refine Dd [0,1,2,7,8,9] ?_ noc [0]
     refine Gc [0,1,2,7,8,9] ?_ noc [0]
     refine eY hY ((f+1,o2,a4)) (Cz (And.intro hol ho2) [some 0,some 1] [2])
 · have d0:=Wj (a:=(f:Int)) (b:=(v:Int)) oM
   have F:=d0;refine EF [0,1,2,7,8,16] ?_ (onc 2 (ocq 0 q1) noc) [0];clear F
   refine Dd [6] ?_ noc [0]
   refine EX.ret (.osl 1 out.length 1) [some (cdE L a2),some ⟨106,1,jjE out⟩] ?_ (fun C hN hk=>AW.ret (Ke [some 0,some 1] []))
   exact⟨out,a2,rfl,⟨oM,g4⟩,h1⟩
end Go.Proofs.YtpkhodjlnodagaaGreatDoor
namespace Go.Proofs.YtpkhodjlnodagaaGreatDoor
open Go.Av
theorem Mn(a b:Ev):B7 a b=true↔a.time<b.time∨(a.time=b.time∧(a.host<b.host∨(a.host=b.host∧(a.file<b.file∨(a.file=b.file∧a.frm<b.frm))))):=by
 unfold B7
 by_cases h1:a.time=b.time
 · by_cases h2:a.host=b.host
   · by_cases h3:a.file=b.file
     · simp[h1,h2,h3]
     · simp[h1,h2,h3]
   · simp[h1,h2]
 · simp[h1]
theorem M3{a b c:Ev}(h:B7 a b=true)(k:B7 b c=true):B7 a c=true:=by
 rw[Mn]at*;omega
theorem Og(l:List Ev)(e:Ev): ∀ i,i≤l.length→(∀ j (h:j<l.length),EQ l e i≤j→j<i→B7 e l[j]=true)∧(∀ m (h:m<l.length),EQ l e i=m+1→B7 e l[m]=false)
 |0,_=>⟨fun j h h1 h2=>absurd h2 oM,fun m h h1=>by simp[EQ]at h1⟩
 |i+1,hi=>by
   have hx:l[i]? =some l[i]:=List.getElem?_eq_getElem oM
   obtain⟨IH1,IH2⟩:=Og l e i oM
   rw[EQ,hx]
   simp only
   split
   · next hl=>
     refine⟨fun j h h1 h2=>?_,IH2⟩
     by_cases hj:j=i
     · subst hj;exact hl
     · exact IH1 j h h1 oM
   · next hl=>
     refine⟨fun j h h1 h2=>absurd h1 oM,fun m h h1=>?_⟩
     obtain rfl:i=m:=by omega
     simpa using hl
theorem Aa5{l:List Ev}{e:Ev}(ha:Asc l)(ht: ∀ y∈l,B7 e y=true∨B7 y e=true):Asc (H8 l e):=by
 obtain⟨h1,h2⟩:=Og l e l.length (Nat.le_refl _)
 have hle:=KU l e l.length
 unfold H8
 generalize EQ l e l.length=i at*
 have hlt: ∀ x∈l.take i,B7 x e=true:=by
   intro x hx
   obtain⟨j,hj,rfl⟩:=List.getElem_of_mem hx
   simp only[List.length_take]at hj
   rw[List.getElem_take]
   cases i with
   |zero=>omega
   |succ m=>
     have hm:m<l.length:=by omega
     have he:=h2 m hm rfl
     have hme:B7 l[m] e=true:=by
       rcases ht _ (List.getElem_mem hm)with h|h
       · rw[he]at h;simp at h
       · exact h
     by_cases hjm:j=m
     · subst hjm;exact hme
     · exact M3 (List.pairwise_iff_getElem.1 ha j m oM hm oM) hme
 have hgt: ∀ x∈l.drop i,B7 e x=true:=by
   intro x hx
   obtain⟨j,hj,rfl⟩:=List.getElem_of_mem hx
   simp only[List.length_drop]at hj
   rw[List.getElem_drop]
   exact h1 (i+j) oM oM oM
 unfold Asc at*
 rw[List.append_assoc,List.pairwise_append]
 refine⟨ha.sublist (List.take_sublist _ _),?_,?_⟩
 · simp only[List.singleton_append,List.pairwise_cons]
   exact⟨hgt,ha.sublist (List.drop_sublist _ _)⟩
 · intro x hx y hy
   simp only[List.singleton_append,List.mem_cons]at hy
   rcases hy with rfl|hy
   · exact hlt x hx
   · exact M3 (hlt x hx) (hgt y hy)
theorem ZI{l:List Ev}{e x:Ev}:x∈H8 l e↔x=e∨x∈l:=by
 unfold H8
 conv=>rhs;rhs;rw[← List.take_append_drop (EQ l e l.length) l]
 simp only[List.mem_append,List.mem_singleton]
 constructor
 · rintro((h|h)|h)<;>simp[h]
 · rintro(h|h|h)<;>simp[h]
theorem Abb(l:List Ev)(e:Ev):(H8 l e).length=l.length+1:=by
 have:=KU l e l.length
 unfold H8;simp;omega
end Go.Proofs.YtpkhodjlnodagaaGreatDoor
namespace Go.Proofs.YtpkhodjlnodagaaGreatDoor
open Go.Av
set_option maxHeartbeats 4000000
attribute [local irreducible] Ad
def Bel(host file:Int)(l:List It)(k:Nat)(e:Ev):Prop:=
 e.host<host∨(e.host=host∧(e.file<file∨(e.file=file∧ ∀ j,k≤j→ ∀ x,l[j]? =some x→x.rule=[]→e.frm<x.ev.frm)))
theorem Bel.up{host file:Int}{l:List It}{k:Nat}{e:Ev}(h:Bel host file l k e):Bel host file l (k+1) e:=by
 rcases h with h|⟨h1,h|⟨h2,h⟩⟩
 · exact .inl h
 · exact .inr ⟨h1,.inl h⟩
 · exact .inr ⟨h1,.inr ⟨h2,fun j hj=>h j oM⟩⟩
structure OutG(out:List Ev)(P:Ev→Prop):Prop where
 asc:Asc out
 ev: ∀ e∈out,DrE e∧P e
def Bef(host file:Int)(e:Ev):Prop:=e.host<host∨(e.host=host∧e.file<file)
theorem OutG.imp{out:List Ev}{P Q:Ev→Prop}(h:OutG out P)(hi: ∀ e,P e→Q e):OutG out Q:=⟨h.asc,fun e he=>⟨(h.ev e he).1,hi e (h.ev e he).2⟩⟩
theorem OutG.ins{out:List Ev}{host file:Int}{l:List It}{k:Nat}(h:OutG out (Bel host file l k))(hr:RowG host file l){x:It}(hx:l[k]? =some x)(hr0:x.rule=[]):OutG (H8 out x.ev) (Bel host file l (k+1)):=by
 obtain⟨hk,rfl⟩:=List.getElem?_eq_some_iff.1 hx
 have hg:=hr.each _ (List.getElem_mem hk) hr0
 refine⟨Aa5 h.asc ?_,?_⟩
 · intro y hy
   have:=(h.ev y hy).2
   have hlt:y.host<l[k].ev.host∨(y.host=l[k].ev.host∧(y.file<l[k].ev.file∨(y.file=l[k].ev.file∧y.frm<l[k].ev.frm))):=by
     rcases this with h|⟨h1,h|⟨h2,h⟩⟩
     · left;omega
     · right;refine⟨oM,.inl oM⟩
     · right;exact⟨oM,.inr ⟨oM,h k (Nat.le_refl _) _ hx hr0⟩⟩
   rw[Mn,Mn]
   omega
 · intro e he
   rcases ZI.1 he with rfl|he
   · refine⟨hg.1,.inr ⟨hg.2.1,.inr ⟨hg.2.2,fun j hj y hy hyr=>?_⟩⟩⟩
     obtain⟨hj2,rfl⟩:=List.getElem?_eq_some_iff.1 hy
     exact List.pairwise_iff_getElem.1 hr.asc k j hk hj2 oM hr0 hyr
   · exact⟨(h.ev e he).1,(h.ev e he).2.up⟩
theorem Aay(L:List UInt8)(hL:L.length≤2^20)(a:Nat)(ha:a≤L.length)(most:Nat)(hm:most≤6):
   GX Tryz.prog 19 [.ptr 0 2 0 0,I most] [some (cdE L a)] (fun x=> ∃ (out:List Ev) (a':Nat),x=(.sl 10 (evE out),[some (cdE L a')])∧(Asc out∧(∀ e∈out,DrE e)∧out.length≤36)∧a'≤L.length):=by
 refine GV 56 1 Tryz.func19 rfl rfl rfl sP rfl rfl ?_
 refine Dd [0,1] ?_ noc [0]
 refine Dd [0,1,5] ?_ noc [0]
 refine Dd [0,1,5,6] ?_ noc [0]
 have hnil:OutG [] (Bef ((0+1:Nat):Int) 5):=⟨List.Pairwise.nil,fun e he=>by simp at he⟩
 refine NI ?_
 refine lpX 1 (fun s:Nat×List Ev×Nat=>⟨[(0,.ptr 0 2 0 0),(1,I most),(5,.sl 10 (evE s.2.1)),(6,I (s.1+1:Nat))],[(0,some ⟨98,2,[[.sl 1 (Ab L),I s.2.2]]⟩)]⟩) (fun s=>s.1≤2∧s.2.1.length≤18*s.1∧s.2.2≤L.length∧OutG s.2.1 (Bef (s.1+1:Nat) 5)) (fun s=>2-s.1) (0,[],a) (Ea [some 0] []) ?_
 intro ⟨h,out,a1⟩ hI Y hY
 obtain⟨g1,g2,g3,g4⟩:=hI
 simp only at g1 g2 g3 g4
 obtain⟨v,a2,h1,h2,q1⟩:=A9 L hL a1 2 g3 oM oM
 have w1:=Ar (n:=1+(v:Int)) oM
 by_cases hfv:h≤v
 · have d0:=Pl (a:=((h+1:Nat):Int)) (b:=1+(v:Int)) oM
   obtain⟨_,⟨fs,a3,rfl,⟨k1,k2⟩,k3⟩,q2⟩:=AdZ L hL a2 h1 ((h+1:Nat):Int) most oM hm
   simp only at q2
   have F:=And.intro d0 w1;refine EF [0,1,5,6,14] ?_ (onc 2 (ocq 0 q1) noc) [0];clear F
   refine Dd [0,1,5,6,7] ?_ (onc 3 (ocq 0 q2) noc) [0]
   refine Dd [0,1,5,6,7,8] ?_ noc [0]
   clear q1 q2
   have hT: ∀ i,Bef ((h+1:Nat):Int) (5+(i+1:Nat))=Bef ((h+1:Nat):Int) (5+(i:Nat)+1):=by intro i;congr 1
   have g4':OutG out (Bef ((h+1:Nat):Int) (5+(0:Nat))):=g4
   refine NI ?_
   refine lpX 2 (fun s:Nat×List Ev=>⟨[(0,.ptr 0 2 0 0),(1,I most),(5,.sl 10 (evE s.2)),(6,I (h+1:Nat)),(7,.osl 1 fs.length 1),(8,I s.1)],[(0,some ⟨98,2,[[.sl 1 (Ab L),I a3]]⟩),(1,some ⟨106,1,jjE fs⟩)]⟩) (fun s=>s.1≤fs.length∧s.2.length≤18*h+6*s.1∧OutG s.2 (Bef (h+1:Nat) (5+s.1))) (fun s=>fs.length-s.1) (0,out) (Ea [some 0,some 1] []) ?_
   intro ⟨i,o2⟩ hI2 Y2 hY2
   obtain⟨m1,m2,m3⟩:=hI2
   simp only at m1 m2 m3
   by_cases hi:i<fs.length
   · have hx:=List.getElem?_eq_getElem hi
     have hrow:=k2 i hi
     generalize fs[i]=l at*
     have hll:=hrow.len
     have hb0:OutG o2 (Bel ((h+1:Nat):Int) (5+i) l 0):=m3.imp (fun e he=>by
       rcases he with he|⟨e1,e2⟩
       · exact .inl he
       · exact .inr ⟨e1,.inl e2⟩)
     refine Gc [0,1,5,6,7,8,24] ?_ noc [0]
     refine Dd [0,1,5,6,7,8,9] ?_ noc [0]
     refine lpX 2 (fun s:Nat×List Ev=>⟨[(0,.ptr 0 2 0 0),(1,I most),(5,.sl 10 (evE s.2)),(6,I (h+1:Nat)),(7,.osl 1 fs.length 1),(8,I i),(9,I s.1)],[(0,some ⟨98,2,[[.sl 1 (Ab L),I a3]]⟩),(1,some ⟨106,1,jjE fs⟩)]⟩) (fun s=>s.1≤l.length∧s.2.length≤18*h+6*i+s.1∧OutG s.2 (Bel (h+1:Nat) (5+i) l s.1)) (fun s=>l.length-s.1) (0,o2) (Ea [some 0,some 1] []) ?_
     intro ⟨k,o3⟩ hI3 Y3 hY3
     obtain⟨n1,n2,n3⟩:=hI3
     simp only at n1 n2 n3
     by_cases hk2:k<l.length
     · have hy:=List.getElem?_eq_getElem hk2
       have hins:=fun h=>n3.ins hrow hy h
       generalize l[k]=x at*
       have F:=hx;refine EF [0,1,5,6,7,8,9,33] ?_ noc [0];clear F
       rcases x with ⟨rl,e⟩
       cases rl with
       |nil=>
         have hi3:=hins rfl
         have q3:=Aa7 o3 e oM
         have hil:=Abb o3 e
         simp only at hi3
         generalize H8 o3 e=o4 at*
         have F:=And.intro hx hy;refine EF [0,1,5,6,7,8,9,44] ?_ noc [0];clear F
         have F:=And.intro hx hy;refine exFx [0,1,5,6,7,8,9] ?_ (onc 9 (pcq q3) noc) [0];clear F
         refine Gc [0,1,5,6,7,8,9] ?_ noc [0]
         refine eY hY3 ((k+1,o4)) (Ea [some 0,some 2] [1])
       |cons c rl=>
         have hup:OutG o3 (Bel ((h+1:Nat):Int) (5+i) l (k+1)):=n3.imp (fun e he=>he.up)
         have dc:((c::rl)==([]:List UInt8))=false:=rfl
         have F:=And.intro hx (And.intro hy dc);refine EF [0,1,5,6,7,8,9,44] ?_ noc [0];clear F
         refine Gc [0,1,5,6,7,8,9] ?_ noc [0]
         refine eY hY3 ((k+1,o3)) (Ea [some 0,some 1] [])
     · have:k=l.length:=by omega
       subst this
       have hb:OutG o3 (Bef ((h+1:Nat):Int) (5+(i+1:Nat))):=n3.imp (fun e he=>by
         rcases he with he|⟨e1,e2|⟨e2,_⟩⟩
         · exact .inl he
         · exact .inr ⟨e1,oM⟩
         · exact .inr ⟨e1,oM⟩)
       have F:=hx;refine EF [0,1,5,6,7,8,9,33] ?_ noc [0];clear F
       refine Gc [0,1,5,6,7,8] ?_ noc [0]
       refine eY hY2 ((i+1,o3)) (Ea [some 0,some 1] [])
   · have:i=fs.length:=by omega
     subst this
     have hb:OutG o2 (Bef ((h+1+1:Nat):Int) 5):=m3.imp (fun e he=>by
       rcases he with he|⟨e1,e2⟩
       · exact .inl oM
       · exact .inl oM)
     refine Gc [0,1,5,6,7,8,24] ?_ noc [0]
     refine Gc [0,1,5,6] ?_ noc [0]
     refine eY hY ((h+1,o2,a3)) (Ea [some 0] [])
 · have d0:=Wj (a:=((h+1:Nat):Int)) (b:=1+(v:Int)) oM
   have F:=And.intro d0 w1;refine EF [0,1,5,6,14] ?_ (onc 2 (ocq 0 q1) noc) [0];clear F
   refine Dd [4] ?_ noc [0]
   refine EX.ret (.sl 10 (evE out)) [some (cdE L a2)] ?_ (fun C hN hk=>AW.ret (Ke [some 0] []))
   exact⟨out,a2,rfl,⟨g4.asc,fun e he=>(g4.ev e he).1,oM⟩,h1⟩
end Go.Proofs.YtpkhodjlnodagaaGreatDoor
