/- Part 36 of the proof of PlanCandidates. -/
import Derived.Test.YtpkhodjlnodagaaGreatDoorA15
import Derived.Test.YtpkhodjlnodagaaGreatDoorA28
import Derived.Test.YtpkhodjlnodagaaGreatDoorA35
set_option linter.unusedSimpArgs false
set_option linter.unusedVariables false
set_option linter.unusedSectionVars false
namespace Go.Proofs.YtpkhodjlnodagaaGreatDoor
open Go.Av
set_option maxHeartbeats 4000000
set_option maxRecDepth 10000
attribute [local irreducible] XH XO Ad Af A0
def rpA(x:Int)(n j:Nat):List Int:=List.replicate j x++List.replicate (n-j) 0
theorem Tn(x:Int)(n j:Nat)(h:j≤n):(rpA x n j).length=n:=by simp[rpA];omega
theorem Af7(x:Int)(n:Nat):List.replicate n [AV.val (.int .i64 0)]=Ak (rpA x n 0):=by simp[rpA,Ak,I]
theorem AfR(x:Int)(n:Nat):rpA x n n=List.replicate n x:=by simp[rpA]
theorem Aay(x:Int)(n j m:Nat)(h:j+m≤n):(Ak (rpA x n j)).take j++(Ak (List.replicate m x)++(Ak (rpA x n j)).drop (j+m))=Ak (rpA x n (j+m)):=by
 simp only[rpA,Ak,← List.map_take,← List.map_drop,← List.map_append]
 congr 1
 rw[List.take_left' (by simp),List.drop_append,List.drop_of_length_le (by simp),List.drop_replicate,List.length_replicate,List.nil_append,← List.append_assoc,List.replicate_append_replicate]
 congr 2
 omega
theorem AfK(x:Int)(n j m:Nat)(h:m≤j):(Ak (rpA x n j)).take m=Ak (List.replicate m x):=by
 simp only[rpA,Ak,← List.map_take]
 rw[List.take_append_of_le_length (by simpa using h),List.take_replicate,Nat.min_eq_left h]
theorem AdM(x:Int)(n:Nat)(h1:1≤n)(h2:n≤16384):Af Tryz.prog 247 [.sl 1 (Ak [x]),I n] [] (.osl 0 n 1) [some ⟨3,1,Ak (List.replicate n x)⟩]:=by
 refine BB 48 0 Tryz.func247 ?_
 refine Aa 0 [0,1] ?_
 refine Aa 1 [0,1,10] ?_
 refine AM 10 ?_
 refine Ae 3 ?_
 refine EW 5 ?_
 refine AC (AdF n h2) ?_;rintro _ rfl
 refine Ac 5 ?_
 refine XO.done [0,5,6] ?_
 refine Ae 4 ?_
 refine Ac 3 ?_
 refine BE 23 ?_
 refine Ac 3 ?_
 refine XO.done [0,6,26] ?_
 refine Az 26 (fun c26=>?_) (fun c26=>?_)
 exfalso;omega
 refine XW.at 6 ?_;have hx:=Af7 x n
 refine Ba 6 [0,7] ?_
 refine Ae 7 ?_
 refine Ac 2 ?_
 refine AaO (Ak [x]) (Ak (rpA x n 1)) (d:= .tmp 31) (y:= .tmp 32) (m:=1) (nn:=n) (E:=⟨3,1,Ak (rpA x n 0)⟩) (hd:=D43) (hte:=T3) (Adm (p:=1=1) rfl rfl (by simpa using h1)) rfl (by decide) (by simp) (Aay x n 0 1 (by omega)) (by simp[Tn]) ?_
 refine Ac 1 ?_
 refine XO.done [7,8] ?_
 refine AX 1 (fun j:Nat=>⟨[(7,.osl 0 n 1),(8,I j)],[(0,some ⟨3,1,Ak (rpA x n j)⟩)]⟩) (fun j=>1≤j∧j≤n) (fun j=>n-j) 1 (AD B.eq_1 [some 0] []) ?_ (h0:=⟨by decide,h1⟩);rintro j hI0 Y0 hY0;skip
 refine Aa 8 [7,8,37] ?_
 refine Az 37 (fun c37=>?_) (fun c37=>?_)
 refine XW.at 9 ?_;obtain⟨m,hm⟩: ∃ m,m=min j (n-j):=⟨_,rfl⟩;have hcl:=Tn x n j hI0.2;have hct:=AfK x n j m (by omega);have hcc:=Aay x n j m (by omega)
 refine Ae 9 ?_
 refine AP 7 ?_
 refine AaO (Ak (List.replicate m x)) (Ak (rpA x n (j+m))) (d:= .tmp 41) (y:= .tmp 44) (nn:=n-j) (rs:=[0]) (E:=⟨3,1,Ak (rpA x n j)⟩) (hd:=D43) (hte:=T3) (by rw[← hct];exact Ady (E:=⟨3,1,Ak (rpA x n j)⟩) rfl rfl (by rw[ED,hcl];exact hI0.2) hm) (by simp[Ak]) (by omega) (by simp) hcc (by rw[ED,hcl];omega) ?_
 refine EW 2 ?_
 refine XO.done [7,8] ?_
 refine XH.le ?_;(exact eY hY0 (j+m) (AD B.eq_1 [some 0] []))
 refine Aa 10 [4] ?_
 refine Ap ?_;((obtain rfl:j=n:=(by omega);have hfin:=AfR x j;refine XB.ret [some 0] [] (hids:=⟨by simp[Al],by simp[Al],rfl⟩) (hwk:=?_) (hwh:=?_);(next=>simp[Ax,lk,lkh,wk,wkL,wkE,I]);(next=>simp[Am,Ai,Aj,lkh,wkE,wkL,wk,B,I,hfin])))
theorem AcG:N7:=fun x n h1 h2=>AdM x n h1 h2
theorem Abk(v:List Int)(hl:v.length≤16384)(hv: ∀ x∈v,Ce x):Ad Tryz.prog 117 [.sl 1 (Ab (BF v))] (fun r=>r= .tup [.sl 1 (Ak v),I 0]):=Xw AcG v hl hv
def em(c:Bool)(x:Int):List Int:=if c then [x]else []
def mg(w:Bool→Bool→Bool):List Int→List Int→List Int
 | [],[]=>[]
 |x::a,[]=>em (w true false) x++mg w a []
 | [],y::b=>em (w false true) y++mg w [] b
 |x::a,y::b=>if x<y then em (w true false) x++mg w a (y::b)else if y<x then em (w false true) y++mg w (x::a) b else em (w true true) x++mg w a b
 termination_by a b=>a.length+b.length
theorem at0{a:List Int}{x:Int}(h:a[0]? =some x):a=x::a.drop 1:=by
 cases a with
 |nil=>simp at h
 |cons z a=>simp at h;subst h;rfl
theorem US{a:List Int}(h: ¬ (a.length:Int)>0):a=[]:=List.eq_nil_of_length_eq_zero (by omega)
theorem AaE{w:Bool→Bool→Bool}{a b:List Int}{x:Int}(hx:a[0]? =some x)(hb:b=[]):mg w a b=em (w true false) x++mg w (a.drop 1) b:=by
 subst hb
 conv=>lhs;rw[at0 hx,mg]
theorem AaH{w:Bool→Bool→Bool}{a b:List Int}{y:Int}(hy:b[0]? =some y)(ha:a=[]):mg w a b=em (w false true) y++mg w a (b.drop 1):=by
 subst ha
 conv=>lhs;rw[at0 hy,mg]
theorem Aap{w:Bool→Bool→Bool}{a b:List Int}{x y:Int}(hx:a[0]? =some x)(hy:b[0]? =some y)(h1:x≤y)(h2: ¬ y≤x):mg w a b=em (w true false) x++mg w (a.drop 1) b:=by
 conv=>lhs;rw[at0 hx,at0 hy,mg,if_pos (by omega)]
 rw[← at0 hy]
theorem AaB{w:Bool→Bool→Bool}{a b:List Int}{x y:Int}(hx:a[0]? =some x)(hy:b[0]? =some y)(h1: ¬ x≤y)(h2:y≤x):mg w a b=em (w false true) y++mg w a (b.drop 1):=by
 conv=>lhs;rw[at0 hx,at0 hy,mg,if_neg (by omega),if_pos (by omega)]
 rw[← at0 hx]
theorem AaP{w:Bool→Bool→Bool}{a b:List Int}{x y:Int}(hx:a[0]? =some x)(hy:b[0]? =some y)(h1:x≤y)(h2:y≤x):mg w a b=em (w true true) y++mg w (a.drop 1) (b.drop 1):=by
 conv=>lhs;rw[at0 hx,at0 hy,mg,if_neg (by omega),if_neg (by omega)]
 rw[show x=y by omega]
theorem AdU(w:Bool→Bool→Bool):mg w [] []=[]:=by rw[mg]
theorem L9(c:Bool)(x:Int):(em c x).length≤1:=by unfold em;split<;>simp
theorem Jq(w:Bool→Bool→Bool): ∀ (n:Nat) (a b:List Int),a.length+b.length≤n→(mg w a b).length≤a.length+b.length
 |n,[],[],_=>by rw[mg];simp
 |0,x::a,_,h=>by simp at h
 |0,[],y::b,h=>by simp at h
 |n+1,x::a,[],h=>by
   have h1:=Jq w n a [] (by simp at h ⊢;omega)
   have:=L9 (w true false) x
   rw[mg,List.length_append];simp only[List.length_cons,List.length_nil]at*;omega
 |n+1,[],y::b,h=>by
   have h1:=Jq w n [] b (by simp at h ⊢;omega)
   have:=L9 (w false true) y
   rw[mg,List.length_append];simp only[List.length_cons,List.length_nil]at*;omega
 |n+1,x::a,y::b,h=>by
   have h1:=Jq w n a (y::b) (by simp at h ⊢;omega)
   have h2:=Jq w n (x::a) b (by simp at h ⊢;omega)
   have h3:=Jq w n a b (by simp at h ⊢;omega)
   have:=L9 (w true false) x
   have:=L9 (w false true) y
   have:=L9 (w true true) x
   rw[mg]
   simp only[List.length_cons]at*
   split
   · rw[List.length_append];omega
   · split<;>(rw[List.length_append];omega)
theorem Q3(g:Nat)(w:Bool→Bool→Bool)(hw: ∀ p q,Ad Tryz.prog g [B p,B q] (fun r=>r=B (w p q)))(a0 b0:List Int)(hl:a0.length+b0.length≤2^40):Ad Tryz.prog 121 [.sl 1 (Ak a0),.sl 1 (Ak b0),fnV g] (fun r=>r= .sl 1 (Ak (mg w a0 b0))):=by
 refine Au 74 Tryz.func121 ?_
 refine Aa 0 [0,1,2] ?_
 refine Aa 1 [0,1,2,7] ?_
 refine AX 1 (fun s:List Int×List Int×List Int=>⟨[(0,.sl 1 (Ak s.1)),(1,.sl 1 (Ak s.2.1)),(2,fnV g),(7,.osl 0 s.2.2.length 1)],[(0,some ⟨3,1,Ak s.2.2⟩)]⟩) (fun s=>s.2.2++mg w s.1 s.2.1=mg w a0 b0∧s.1.length+s.2.1.length+s.2.2.length≤2^40) (fun s=>s.1.length+s.2.1.length) (a0,b0,[]) (AD (And.intro fnV.eq_1 Ak.eq_1) [none] []) ?_ (h0:=⟨by simp,by simpa using hl⟩);rintro⟨a,b,out⟩ hI0 Y0 hY0;simp only at hI0
 refine Ae 2 ?_
 refine Ac 4 ?_
 refine BV 14 (fun g14=>?_) (fun g14=>?_)
 any_goals(refine Ac 4 ?_;refine XO.done [0,1,2,7,18] ?_;(first|refine Cd 18 ?_|refine Az 18 (fun c18=>?_) (fun c18=>?_)))
 any_goals(refine Ae 3 ?_;refine Aq 4 ?_;refine BV 22 (fun g22=>?_) (fun g22=>?_))
 any_goals(exfalso;omega)
 any_goals refine Aq 4 ?_
 refine BV 26 (fun g26=>?_) (fun g26=>?_)
 any_goals((first|(have h0:=(show 0<a.length by omega);have h1:=(show 0<b.length by omega);obtain⟨x,hx,hxm⟩:=Bd a 0 h0;obtain⟨y,hx2,hym⟩:=Bd b 0 h1)|(have h0:=(show 0<a.length by omega);obtain⟨x,hx,hxm⟩:=Bd a 0 h0)|(have h1:=(show 0<b.length by omega);obtain⟨y,hx2,hym⟩:=Bd b 0 h1));refine Aq 10 ?_;refine XO.done [0,1,2,7,8] ?_;refine Ae 4 ?_;refine Ac 4 ?_;refine BV 39 (fun g39=>?_) (fun g39=>?_))
 any_goals(exfalso;omega)
 any_goals refine Ac 4 ?_
 any_goals refine BV 43 (fun g43=>?_) (fun g43=>?_)
 any_goals(exfalso;omega)
 any_goals(refine Aq 10 ?_;refine XO.done [0,1,2,7,8,9] ?_;refine Aa 5 [0,1,2,7,8,9,10] ?_;refine Aa 6 [0,1,2,7,8,9,10,53] ?_;(first|refine Cd 53 ?_|refine AM 53 ?_|refine Az 53 (fun c53=>?_) (fun c53=>?_)))
 any_goals refine Ba 7 [0,1,2,7,8,9,10] ?_
 any_goals(refine Aa 8 [0,1,2,7,8,9,10,59] ?_;(first|refine Cd 59 ?_|refine AM 59 ?_|refine Az 59 (fun c59=>?_) (fun c59=>?_)))
 any_goals(exfalso;omega)
 any_goals refine Ba 9 [0,1,2,7,8,9,10] ?_
 any_goals(refine Ae 10 ?_;refine Ac 3 ?_;refine KM (hw _ _) ?_;rintro _ rfl;refine XO.done [0,1,2,7,10,68] ?_;refine By 68 (fun c68=>?_) (fun c68=>?_))
 any_goals refine Aa 11 [0,1,2,7] ?_
 any_goals(refine XH.le ?_;((first|(have hs:=Aap (w:=w) hx hx2 c53 c59)|(have hs:=AaB (w:=w) hx hx2 c53 c59)|(have hs:=AaP (w:=w) hx hx2 c53 c59)|(have hs:=AaE (w:=w) hx (US (a:=b) (by omega)))|(have hs:=AaH (w:=w) hx2 (US (a:=a) (by omega))));(try simp only[c53,c59,decide_true,decide_false]at c68));first|(refine hY0 (a.drop 1,b,out++[x]) ?_ ?_ _ _ (Cy [some 0] [] ?_ ?_);(next=>exact⟨by rw[← hI0.1,hs];simp[em,c68],by simp at hI0 ⊢;omega⟩);(next=>simp;omega);(next=>simp[AR,lk,lkh,I,str,B,U8,U64,U32,fnV];first|done|omega);(next=>simp[Am,Ai,Aj,lkh,I,str,fnV]))|(refine hY0 (a.drop 1,b,out) ?_ ?_ _ _ (Cy [some 0] [] ?_ ?_);(next=>exact⟨by rw[← hI0.1,hs];simp[em,c68],by simp at hI0 ⊢;omega⟩);(next=>simp;omega);(next=>simp[AR,lk,lkh,I,str,B,U8,U64,U32,fnV];first|done|omega);(next=>simp[Am,Ai,Aj,lkh,I,str,fnV]))|(refine hY0 (a,b.drop 1,out++[y]) ?_ ?_ _ _ (Cy [some 0] [] ?_ ?_);(next=>exact⟨by rw[← hI0.1,hs];simp[em,c68],by simp at hI0 ⊢;omega⟩);(next=>simp;omega);(next=>simp[AR,lk,lkh,I,str,B,U8,U64,U32,fnV];first|done|omega);(next=>simp[Am,Ai,Aj,lkh,I,str,fnV]))|(refine hY0 (a,b.drop 1,out) ?_ ?_ _ _ (Cy [some 0] [] ?_ ?_);(next=>exact⟨by rw[← hI0.1,hs];simp[em,c68],by simp at hI0 ⊢;omega⟩);(next=>simp;omega);(next=>simp[AR,lk,lkh,I,str,B,U8,U64,U32,fnV];first|done|omega);(next=>simp[Am,Ai,Aj,lkh,I,str,fnV]))|(refine hY0 (a.drop 1,b.drop 1,out++[y]) ?_ ?_ _ _ (Cy [some 0] [] ?_ ?_);(next=>exact⟨by rw[← hI0.1,hs];simp[em,c68],by simp at hI0 ⊢;omega⟩);(next=>simp;omega);(next=>simp[AR,lk,lkh,I,str,B,U8,U64,U32,fnV];first|done|omega);(next=>simp[Am,Ai,Aj,lkh,I,str,fnV]))|(refine hY0 (a.drop 1,b.drop 1,out) ?_ ?_ _ _ (Cy [some 0] [] ?_ ?_);(next=>exact⟨by rw[← hI0.1,hs];simp[em,c68],by simp at hI0 ⊢;omega⟩);(next=>simp;omega);(next=>simp[AR,lk,lkh,I,str,B,U8,U64,U32,fnV];first|done|omega);(next=>simp[Am,Ai,Aj,lkh,I,str,fnV])))
 refine Aa 12 [6] ?_
 refine Ap ?_;((have ha:=US g14;have hb:=US c18;have h9:=hI0.1;rw[ha,hb,AdU,List.append_nil]at h9;rw[← h9];exact Kv rfl))
abbrev mgA:=mg (fun p q=>p&&q)
abbrev mgO:=mg (fun _ _=>true)
theorem AgA(a b:List Int)(hl:a.length+b.length≤2^40):Ad Tryz.prog 68 [.sl 1 (Ak a),.sl 1 (Ak b)] (fun r=>r= .sl 1 (Ak (mgA a b))):=by
 refine Au 8 Tryz.func68 ?_
 refine Aa 0 [0,1] ?_
 refine Ae 1 ?_
 refine Ac 2 ?_
 refine AC (Q3 122 (fun p q=>p&&q) Afd a b hl) ?_;rintro _ rfl
 refine Ac 1 ?_
 refine XO.done [4] ?_
 refine Ap ?_;((exact Bc rfl))
theorem or69(a b:List Int)(hl:a.length+b.length≤2^40):Ad Tryz.prog 69 [.sl 1 (Ak a),.sl 1 (Ak b)] (fun r=>r= .sl 1 (Ak (mgO a b))):=by
 refine Au 8 Tryz.func69 ?_
 refine Aa 0 [0,1] ?_
 refine Ae 1 ?_
 refine Ac 2 ?_
 refine AC (Q3 123 (fun _ _=>true) Agv a b hl) ?_;rintro _ rfl
 refine Ac 1 ?_
 refine XO.done [4] ?_
 refine Ap ?_;((exact Bc rfl))
theorem dr0{a:List Int}{i:Nat}{x:Int}(h:a[i]? =some x):(a.drop i)[0]? =some x:=by simpa using h
theorem dr1(a:List Int)(i:Nat):(a.drop i).drop 1=a.drop (i+1):=by rw[List.drop_drop]
theorem Adj{w:Bool→Bool→Bool}{a b:List Int}{i k:Nat}{x y:Int}(hx:a[i]? =some x)(hy:b[k]? =some y)(h:x<y):mg w (a.drop i) (b.drop k)=em (w true false) x++mg w (a.drop (i+1)) (b.drop k):=by
 rw[Aap (dr0 hx) (dr0 hy) (by omega) (by omega),dr1]
theorem Ae2{w:Bool→Bool→Bool}{a b:List Int}{i k:Nat}{x y:Int}(hx:a[i]? =some x)(hy:b[k]? =some y)(h:y<x):mg w (a.drop i) (b.drop k)=em (w false true) y++mg w (a.drop i) (b.drop (k+1)):=by
 rw[AaB (dr0 hx) (dr0 hy) (by omega) (by omega),dr1]
theorem Aej{w:Bool→Bool→Bool}{a b:List Int}{i k:Nat}{x y:Int}(hx:a[i]? =some x)(hy:b[k]? =some y)(h1: ¬ x<y)(h2: ¬ y<x):mg w (a.drop i) (b.drop k)=em (w true true) x++mg w (a.drop (i+1)) (b.drop (k+1)):=by
 rw[AaP (dr0 hx) (dr0 hy) (by omega) (by omega),dr1,dr1,show y=x by omega]
theorem AdO{w:Bool→Bool→Bool}{a b:List Int}{i k:Nat}{x:Int}(hx:a[i]? =some x)(hb:b.length≤k):mg w (a.drop i) (b.drop k)=em (w true false) x++mg w (a.drop (i+1)) (b.drop k):=by
 rw[AaE (dr0 hx) (List.drop_eq_nil_of_le hb),dr1]
theorem AdY{w:Bool→Bool→Bool}{a b:List Int}{i k:Nat}{y:Int}(hy:b[k]? =some y)(ha:a.length≤i):mg w (a.drop i) (b.drop k)=em (w false true) y++mg w (a.drop i) (b.drop (k+1)):=by
 rw[AaH (dr0 hy) (List.drop_eq_nil_of_le ha),dr1]
theorem AcN{w:Bool→Bool→Bool}{a b:List Int}{i k:Nat}(ha:a.length≤i)(hb:b.length≤k):mg w (a.drop i) (b.drop k)=[]:=by
 rw[List.drop_eq_nil_of_le ha,List.drop_eq_nil_of_le hb,mg]
theorem UB(w:Bool→Bool→Bool)(a b:List Int)(hl:a.length+b.length≤2^40):Ad Tryz.prog 131 [.sl 1 (Ak a),.sl 1 (Ak b),B (w true true),B (w true false),B (w false true)] (fun r=>r= .sl 1 (Ak (mg w a b))):=by
 refine Au 95 Tryz.func131 ?_
 refine Aa 0 [0,1,2,3,4] ?_
 refine Aa 1 [0,1,2,3,4,11] ?_
 refine Aa 2 [0,1,2,3,4,11,12,13] ?_
 refine AX 1 (fun s:Nat×Nat×List Int=>⟨[(0,.sl 1 (Ak a)),(1,.sl 1 (Ak b)),(2,B (w true true)),(3,B (w true false)),(4,B (w false true)),(11,.osl 0 s.2.2.length 1),(12,I s.1),(13,I s.2.1)],[(0,some ⟨3,1,Ak s.2.2⟩)]⟩) (fun s=>s.2.2++mg w (a.drop s.1) (b.drop s.2.1)=mg w a b∧s.1≤a.length∧s.2.1≤b.length∧s.2.2.length≤s.1+s.2.1) (fun s=>(a.length-s.1)+(b.length-s.2.1)) (0,0,[]) (AD (And.intro Ak.eq_1 B.eq_1) [none] []) ?_ (h0:=⟨by simp,by simp⟩);rintro⟨i,k,out⟩ hI0 Y0 hY0;simp only at hI0
 refine Ae 3 ?_
 refine Ac 5 ?_
 refine BV 18 (fun g18=>?_) (fun g18=>?_)
 any_goals(refine Ac 5 ?_;refine XO.done [0,1,2,3,4,11,12,13,23] ?_;(first|refine Cd 23 ?_|refine Az 23 (fun c23=>?_) (fun c23=>?_)))
 any_goals(refine Ae 8 ?_;refine Aq 5 ?_;refine BV 41 (fun g41=>?_) (fun g41=>?_))
 any_goals(exfalso;omega)
 any_goals refine Aq 5 ?_
 any_goals refine BV 46 (fun g46=>?_) (fun g46=>?_)
 any_goals(exfalso;omega)
 any_goals((first|(have h0:=(show i<a.length by omega);have h1:=(show k<b.length by omega);obtain⟨x,hx,hxm⟩:=Bd a i h0;obtain⟨y,hx2,hym⟩:=Bd b k h1)|(have h0:=(show i<a.length by omega);obtain⟨x,hx,hxm⟩:=Bd a i h0)|(have h1:=(show k<b.length by omega);obtain⟨y,hx2,hym⟩:=Bd b k h1));refine Aq 12 ?_;refine XO.done [0,1,2,3,4,11,12,13,36] ?_;(first|refine Cd 36 ?_|refine AM 36 ?_|refine Az 36 (fun c36=>?_) (fun c36=>?_)))
 any_goals(refine Aa 9 [0,1,2,3,4,11,12,13,58] ?_;refine By 58 (fun c58=>?_) (fun c58=>?_))
 any_goals refine Bl 10 [0,1,2,3,4,11,12,13] ?_
 any_goals refine AJ 11 [0,1,2,3,4,11,12,13] ?_
 any_goals(refine Ae 12 ?_;refine Ac 5 ?_;refine BV 73 (fun g73=>?_) (fun g73=>?_))
 any_goals(exfalso;omega)
 any_goals(refine Aq 11 ?_;refine XO.done [0,1,2,3,4,11,12,13,68] ?_;(first|refine Cd 68 ?_|refine Az 68 (fun c68=>?_) (fun c68=>?_)))
 any_goals(refine Aa 13 [0,1,2,3,4,11,12,13,84] ?_;refine By 84 (fun c84=>?_) (fun c84=>?_))
 any_goals refine Bl 14 [0,1,2,3,4,11,12,13] ?_
 any_goals refine AJ 15 [0,1,2,3,4,11,12,13] ?_
 any_goals(refine Aa 4 [0,1,2,3,4,11,12,13,24] ?_;refine By 24 (fun c24=>?_) (fun c24=>?_))
 any_goals refine Bl 5 [0,1,2,3,4,11,12,13] ?_
 any_goals(refine AJ 6 [0,1,2,3,4,11,12,13] ?_;refine AJ 7 [0,1,2,3,4,11,12,13] ?_)
 any_goals(refine XH.le ?_;((first|(have hs:=Adj (w:=w) hx hx2 c36)|(have hs:=Ae2 (w:=w) hx hx2 c68)|(have hs:=Aej (w:=w) hx hx2 c36 c68)|(have hs:=AdO (w:=w) (b:=b) (k:=k) hx (by omega))|(have hs:=AdY (w:=w) (a:=a) (i:=i) hx2 (by omega))));first|(refine hY0 (i+1,k,out++[x]) ?_ ?_ _ _ (Cy [some 0] [] ?_ ?_);(next=>exact⟨by rw[← hI0.1,hs];simp[em, *],by simp at hI0 ⊢;omega⟩);(next=>simp;omega);(next=>simp[AR,lk,lkh,I,str,B,U8,U64,U32];first|done|omega);(next=>simp[Am,Ai,Aj,lkh,I,str]))|(refine hY0 (i+1,k,out) ?_ ?_ _ _ (Cy [some 0] [] ?_ ?_);(next=>exact⟨by rw[← hI0.1,hs];simp[em, *],by simp at hI0 ⊢;omega⟩);(next=>simp;omega);(next=>simp[AR,lk,lkh,I,str,B,U8,U64,U32];first|done|omega);(next=>simp[Am,Ai,Aj,lkh,I,str]))|(refine hY0 (i,k+1,out++[y]) ?_ ?_ _ _ (Cy [some 0] [] ?_ ?_);(next=>exact⟨by rw[← hI0.1,hs];simp[em, *],by simp at hI0 ⊢;omega⟩);(next=>simp;omega);(next=>simp[AR,lk,lkh,I,str,B,U8,U64,U32];first|done|omega);(next=>simp[Am,Ai,Aj,lkh,I,str]))|(refine hY0 (i,k+1,out) ?_ ?_ _ _ (Cy [some 0] [] ?_ ?_);(next=>exact⟨by rw[← hI0.1,hs];simp[em, *],by simp at hI0 ⊢;omega⟩);(next=>simp;omega);(next=>simp[AR,lk,lkh,I,str,B,U8,U64,U32];first|done|omega);(next=>simp[Am,Ai,Aj,lkh,I,str]))|(refine hY0 (i+1,k+1,out++[x]) ?_ ?_ _ _ (Cy [some 0] [] ?_ ?_);(next=>exact⟨by rw[← hI0.1,hs];simp[em, *],by simp at hI0 ⊢;omega⟩);(next=>simp;omega);(next=>simp[AR,lk,lkh,I,str,B,U8,U64,U32];first|done|omega);(next=>simp[Am,Ai,Aj,lkh,I,str]))|(refine hY0 (i+1,k+1,out) ?_ ?_ _ _ (Cy [some 0] [] ?_ ?_);(next=>exact⟨by rw[← hI0.1,hs];simp[em, *],by simp at hI0 ⊢;omega⟩);(next=>simp;omega);(next=>simp[AR,lk,lkh,I,str,B,U8,U64,U32];first|done|omega);(next=>simp[Am,Ai,Aj,lkh,I,str])))
 refine Aa 16 [10] ?_
 refine Ap ?_;((have h9:=hI0.1;rw[AcN (by omega) (by omega),List.append_nil]at h9;rw[← h9];exact Kv rfl))
theorem Af1(a b:List Int)(hl:a.length+b.length≤2^40):Ad Tryz.prog 75 [.sl 1 (Ak a),.sl 1 (Ak b)] (fun r=>r= .sl 1 (Ak (mgA a b))):=by
 refine Au 8 Tryz.func75 ?_
 refine Aa 0 [0,1] ?_
 refine Ae 1 ?_
 refine Ac 2 ?_
 refine AC (UB (fun p q=>p&&q) a b hl) ?_;rintro _ rfl
 refine Ac 1 ?_
 refine XO.done [4] ?_
 refine Ap ?_;((exact Bc rfl))
theorem or76(a b:List Int)(hl:a.length+b.length≤2^40):Ad Tryz.prog 76 [.sl 1 (Ak a),.sl 1 (Ak b)] (fun r=>r= .sl 1 (Ak (mgO a b))):=by
 refine Au 8 Tryz.func76 ?_
 refine Aa 0 [0,1] ?_
 refine Ae 1 ?_
 refine Ac 2 ?_
 refine AC (UB (fun _ _=>true) a b hl) ?_;rintro _ rfl
 refine Ac 1 ?_
 refine XO.done [4] ?_
 refine Ap ?_;((exact Bc rfl))
def Cz(f:List Int→List Int→List Int):List (List Int)→List Int
 | []=>[]
 |x::r=>r.foldl f x
theorem Kh{f:List Int→List Int→List Int}{X:List (List Int)}{i:Nat}{x:List Int}(h:X[i]? =some x):Cz f (X.take (i+1))=if i=0 then x else f (Cz f (X.take i)) x:=by
 cases X with
 |nil=>simp at h
 |cons z X=>
   cases i with
   |zero=>simp at h;subst h;simp[Cz]
   |succ i=>
     have h2:X[i]? =some x:=by simpa using h
     rw[if_neg (by omega),List.take_succ_cons,List.take_succ_cons,Cz,Cz,List.take_add_one,h2,List.foldl_append];rfl
theorem Ti: ∀ x:List Int,mgO [] x=x
 | []=>by rw[mgO,mg]
 |y::x=>by rw[mgO,mg];show em true y++mgO [] x=_;rw[Ti x];rfl
def Fp(X:List (List Int)):Nat:=(X.map List.length).sum
theorem L6{X:List (List Int)}{i:Nat}{x:List Int}(h:X[i]? =some x):Fp (X.take (i+1))=Fp (X.take i)+x.length:=by
 rw[Fp,Fp,List.take_add_one,h];simp
theorem ML(X:List (List Int))(i:Nat):Fp (X.take i)≤Fp X:=by
 have:Fp X=Fp (X.take i)+Fp (X.drop i):=by
   conv=>lhs;rw[← List.take_append_drop i X]
   simp only[Fp,List.map_append,List.sum_append]
 omega
theorem G7{f:List Int→List Int→List Int}(hf: ∀ a b,(f a b).length≤a.length+b.length)(X:List (List Int)): ∀ i,i≤X.length→(Cz f (X.take i)).length≤Fp (X.take i)
 |0,_=>by simp[Cz]
 |i+1,h=>by
   have hx:=List.getElem?_eq_getElem (l:=X) (i:=i) (by omega)
   have ih:=G7 hf X i (by omega)
   rw[Kh hx,L6 hx]
   split
   · omega
   · have:=hf (Cz f (X.take i)) X[i];omega
theorem Pi(a b:List Int):(mgA a b).length≤a.length+b.length:=Jq _ _ a b (Nat.le_refl _)
theorem OM(a b:List Int):(mgO a b).length≤a.length+b.length:=Jq _ _ a b (Nat.le_refl _)
theorem VQ(g:Nat)(f:List Int→List Int→List Int)(hfl: ∀ a b,(f a b).length≤a.length+b.length)(hf: ∀ a b,a.length+b.length≤2^40→Ad Tryz.prog g [.sl 1 (Ak a),.sl 1 (Ak b)] (fun r=>r= .sl 1 (Ak (f a b))))(X:List (List Int))(hX:Fp X≤2^40)(hXl:X.length≤2^40):Ad Tryz.prog 67 [.sl 1 (iiE X),fnV g] (fun r=>r= .sl 1 (Ak (Cz f X))):=by
 refine Au 28 Tryz.func67 ?_
 refine Aa 0 [0,1] ?_
 refine Aa 1 [0,1,10] ?_
 refine Az 10 (fun c10=>?_) (fun c10=>?_)
 refine Aa 2 [4] ?_
 refine Ap ?_;((have h0:=(show X.length=0 by omega);obtain rfl:=List.eq_nil_of_length_eq_zero h0;exact XP.ret [] (.sl 1 (Ak [])) rfl))
 refine XW.at 3 ?_;have h0:=(show 0<X.length by omega);obtain⟨x,hx,hxm⟩:=Bd X 0 h0;have hfz:x=Cz f (X.take (0+1)):=(by rw[Kh hx];rfl);have hxl1:x.length≤2^40:=(by have h1:=L6 hx;have h2:=ML X (0+1);omega);have hxl:((X.drop 1).length:Int)=((X.length-1:Nat):Int):=(by simp)
 refine Ae 3 ?_
 refine Aq 3 ?_
 refine AC (CL (Yf x hxl1)) ?_;rintro _ rfl
 refine Aq 1 ?_
 refine XO.done [0,1,5] ?_
 refine Ba 4 [1,5,16,17,18] ?_
 refine AX 0 (fun j:Nat=>⟨[(1,fnV g),(5,.sl 1 (Ak (Cz f (X.take (j+1))))),(16,.sl 1 (iiE (X.drop 1))),(17,I (X.length-1:Nat)),(18,I j)],[]⟩) (fun j=>j+1≤X.length) (fun j=>X.length-j) 0 (AD (And.intro fnV.eq_1 (And.intro hfz hxl)) [] []) ?_;rintro j hI0 Y0 hY0;skip
 refine Aa 5 [1,5,16,17,18,19] ?_
 refine Az 19 (fun c19=>?_) (fun c19=>?_)
 refine XW.at 6 ?_;obtain⟨x2,hx2,hxm2⟩:=Bd X (j+1) (by omega);have hx:(X.drop 1)[j]? =some x2:=(by rw[List.getElem?_drop,Nat.add_comm 1 j];exact hx2);have hfs:f (Cz f (X.take (j+1))) x2=Cz f (X.take (j+1+1)):=(by rw[Kh hx2,if_neg (by omega)]);have hsl:(Cz f (X.take (j+1))).length+x2.length≤2^40:=(by have h1:=G7 hfl X (j+1) (by omega);have h2:=L6 hx2;have h3:=ML X (j+1+1);omega)
 refine Bl 6 [1,5,7,16,17,18] ?_
 refine Ae 7 ?_
 refine Ac 3 ?_
 refine KM (hf _ _ hsl) ?_;rintro _ rfl
 refine Ac 1 ?_
 refine XO.done [1,5,16,17,18] ?_
 refine AJ 8 [1,5,16,17,18] ?_
 refine XH.le ?_;(exact eY hY0 (j+1) (AD (And.intro fnV.eq_1 hfs) [] []))
 refine XW.at 9 ?_;have hj:j+1=X.length:=(by omega);have hfin:X.take (j+1)=X:=List.take_of_length_le (by omega);rw[hfin]
 refine Aa 9 [4] ?_
 refine Ap ?_;(exact BT rfl)
theorem Af9(X:List (List Int))(hX:Fp X≤2^40)(hXl:X.length≤2^40):Ad Tryz.prog 30 [.sl 1 (iiE X)] (fun r=>r= .sl 1 (Ak (Cz mgA X))):=by
 refine Au 5 Tryz.func30 ?_
 refine Aa 0 [0] ?_
 refine Ae 1 ?_
 refine Ac 1 ?_
 refine AC (VQ 68 mgA Pi AgA X hX hXl) ?_;rintro _ rfl
 refine Ac 1 ?_
 refine XO.done [2] ?_
 refine Ap ?_;((exact Bc rfl))
theorem Afp(X:List (List Int))(hX:Fp X≤2^40)(hXl:X.length≤2^40):Ad Tryz.prog 31 [.sl 1 (iiE X)] (fun r=>r= .sl 1 (Ak (Cz mgO X))):=by
 refine Au 5 Tryz.func31 ?_
 refine Aa 0 [0] ?_
 refine Ae 1 ?_
 refine Ac 1 ?_
 refine AC (VQ 69 mgO OM or69 X hX hXl) ?_;rintro _ rfl
 refine Ac 1 ?_
 refine XO.done [2] ?_
 refine Ap ?_;((exact Bc rfl))
theorem Afs(X:List (List Int))(hX:Fp X≤2^40)(hXl:X.length≤2^40):Ad Tryz.prog 34 [.sl 1 (iiE X)] (fun r=>r= .sl 1 (Ak (Cz mgA X))):=by
 refine Au 25 Tryz.func34 ?_
 refine Aa 0 [0] ?_
 refine Aa 1 [0,3] ?_
 refine Aa 2 [0,3,4] ?_
 refine AX 0 (fun j:Nat=>⟨[(0,.sl 1 (iiE X)),(3,(if j=0 then .val (.slice none 0 0)else .sl 1 (Ak (Cz mgA (X.take j))))),(4,I j)],[]⟩) (fun j=>j≤X.length) (fun j=>X.length-j) 0 (AD (And.intro Cz.eq_1 Cz.eq_2) [] []) ?_;rintro j hI0 Y0 hY0;skip
 refine XW.at 3 ?_;rcases Nat.eq_zero_or_pos j with hj0|hj0;rw[if_pos hj0];rotate_left;rw[if_neg (by omega)];rotate_left
 any_goals(refine Aa 3 [0,3,4,8] ?_;refine Az 8 (fun c8=>?_) (fun c8=>?_))
 any_goals(refine XW.at 5 ?_;obtain⟨x2,hx2,hxm2⟩:=Bd X j (by omega);have hfs:=Kh (f:=mgA) hx2;have hsl:(Cz mgA (X.take j)).length+x2.length≤2^40:=(by have h1:=G7 Pi X j (by omega);have h2:=L6 hx2;have h3:=ML X (j+1);omega);refine Bl 5 [0,3,4,12] ?_;refine Az 12 (fun c12=>?_) (fun c12=>?_))
 any_goals(exfalso;omega)
 refine XW.at 6 ?_;have hx:X[0]? =some x2:=(by rw[← hj0];exact hx2)
 refine Bl 6 [0,3,4] ?_
 any_goals(refine XW.at 7 ?_;have hx:=hx2;refine Ae 7 ?_;refine Aq 5 ?_;refine AC (Af1 _ _ hsl) ?_;rintro _ rfl;refine Aq 1 ?_;refine XO.done [0,3,4] ?_)
 any_goals(refine AJ 4 [0,3,4] ?_;(refine XH.le ?_;(have hz:=hfs;first|rw[if_pos (by omega)]at hz|rw[if_neg (by omega)]at hz);(refine eY hY0 (j+1) (AD (And.intro hz @List.append_nil.{0}) [] [0]))))
 any_goals(refine XW.at 8 ?_;obtain rfl:j=X.length:=(by omega);refine Aa 8 [2] ?_;(refine Ap ?_;first|((rw[List.eq_nil_of_length_eq_zero hj0];exact XP.ret [] (.sl 1 (Ak [])) rfl))|(exact BT rfl)))
theorem Agb(X:List (List Int))(hX:Fp X≤2^40)(hXl:X.length≤2^40):Ad Tryz.prog 35 [.sl 1 (iiE X)] (fun r=>r= .sl 1 (Ak (Cz mgO X))):=by
 refine Au 18 Tryz.func35 ?_
 refine Aa 0 [0] ?_
 refine Aa 1 [0,3] ?_
 refine Aa 2 [0,3,4] ?_
 refine AX 0 (fun j:Nat=>⟨[(0,.sl 1 (iiE X)),(3,.sl 1 (Ak (Cz mgO (X.take j)))),(4,I j)],[]⟩) (fun j=>j≤X.length) (fun j=>X.length-j) 0 (AD (And.intro Cz.eq_1 Cz.eq_2) [] []) ?_;rintro j hI0 Y0 hY0;skip
 refine Aa 3 [0,3,4,8] ?_
 refine Az 8 (fun c8=>?_) (fun c8=>?_)
 refine XW.at 5 ?_;obtain⟨x2,hx2,hxm2⟩:=Bd X j (by omega);have hfs:=Kh (f:=mgO) hx2;have hsl:(Cz mgO (X.take j)).length+x2.length≤2^40:=(by have h1:=G7 OM X j (by omega);have h2:=L6 hx2;have h3:=ML X (j+1);omega);have hx:=hx2
 refine Ae 5 ?_
 refine Aq 5 ?_
 refine AC (or76 _ _ hsl) ?_;rintro _ rfl
 refine Aq 1 ?_
 refine XO.done [0,3,4] ?_
 refine AJ 4 [0,3,4] ?_
 refine XH.le ?_;(have hz:mgO (Cz mgO (X.take j)) x2=Cz mgO (X.take (j+1)):=(by rw[hfs];split;(next h=>rw[h];exact Ti x2);rfl));(exact eY hY0 (j+1) (AD hz [] []))
 refine XW.at 6 ?_;obtain rfl:j=X.length:=(by omega);rw[List.take_length]
 refine Aa 6 [2] ?_
 refine Ap ?_;(exact BT rfl)
end Go.Proofs.YtpkhodjlnodagaaGreatDoor
namespace Go.Proofs.YtpkhodjlnodagaaGreatDoor
open Go.Av

end Go.Proofs.YtpkhodjlnodagaaGreatDoor
namespace Go.Proofs.YtpkhodjlnodagaaGreatDoor
open Go.Av
set_option maxHeartbeats 4000000
attribute [local irreducible] Af

theorem PP(o:List Ev)(e:Ev):evE (o++[e])=evE o++[[.val (.int .i64 e.host),.val (.int .i64 e.file),.val (.int .i64 e.frm),.val (.int .i64 e.to),.sl 3 (lnE e.lines),.val (.int .i64 e.time),.val (.int .i64 e.weight),.val (.string ⟨e.trace.toArray⟩),.val (.string ⟨e.stream.toArray⟩),.sl 2 (flE e.fields)]]:=by simp[evE,evC,I,str]

def cdE(L:List UInt8)(a:Nat):Ent:=⟨98,2,[[.sl 1 (Ab L),I a]]⟩
attribute [go_sem] cdE
@[simp] theorem AfM(k:Nat)(c:AV)(r:List AV):AE k (c::r)=(AO k c&&AE k r):=rfl
@[simp] theorem AgH(k:Nat):AE k []=true:=rfl
@[simp] theorem Ah4(k sz:Nat)(es:List (List AV)):AO k (.sl sz es)=true:=rfl
@[simp] theorem Ahq(k:Nat)(v:Value):AO k (.val v)=true:=rfl
theorem VU(L:List UInt8)(a:Nat):Af Tryz.prog 55 [.ptr 0 2 0 0] [some (cdE L a)] (B (decide ((a:Int)<L.length))) [some (cdE L a)]:=by
 refine acN 13 1 Tryz.func55 fun C hN hk=>?_
 refine Ah [0] ?_ noc [0]
 refine IC [2] ?_ noc [0]
 refine AW.ret (B0 [some 0] [] rfl (by simp[Ax,lk,lkh,I,str,B,U8,U64,U32,cdE]<;>omega) (by first|(simp[Am,Ai,Aj,lkh,cdE];done)|simp[Am,Ai,Aj,lkh,I,str,cdE]))
theorem A7(L:List UInt8)(hL:L.length≤2^20)(a n:Nat)(ha:a≤L.length)(hn:n≤2^30)(hn1:1≤n):
   ∃ v a':Nat,a'≤L.length∧v<n∧Af Tryz.prog 20 [.ptr 0 2 0 0,I n] [some (cdE L a)] (I v) [some (cdE L a')]:=by
 have q:=VU L a
 have d1:=HB (a:=(n:Int)) (b:=1) (by omega)
 by_cases h:a<L.length
 · rw[Zf (by omega)]at q
   have hx:=List.getElem?_eq_getElem h
   generalize L[a]=b at*
   have hb:=b.toNat_lt
   have hm:b.toNat*n≤255*n:=Nat.mul_le_mul_right _ (by omega)
   have e1:((b.toNat:Int)*(n:Int)).tdiv 256=((b.toNat*n / 256:Nat):Int):=by
     rw[Int.tdiv_eq_ediv_of_nonneg (Int.mul_nonneg (by omega) (by omega)),Int.natCast_ediv,Int.natCast_mul]
     rfl
   have w1:=As (n:=(b.toNat:Int)*(n:Int)) (by
     have:((b.toNat:Int)*(n:Int))=((b.toNat*n:Nat):Int):=by rw[Int.natCast_mul]
     omega)
   have w2:=As (n:=(b.toNat:Int)) (by omega)
   have w3:=As (n:=((b.toNat*n / 256:Nat):Int)) (by omega)
   refine⟨b.toNat*n / 256,a+1,by omega,by omega,?_⟩
   refine acN 35 1 Tryz.func20 fun C hN hk=>?_
   refine Ah [0,1] ?_ noc [0]
   refine rG hN hk (onc 1 (ocq 0 q) noc) [0] [0,1,12] fun K hK=>?_;simp only[go_sem,seval,d1]
   try simp (disch:=omega) only[au]
   try simp only[go_sem,seval,d1]
   refine obK (hK _ _ ?_);clear hK K;refine nx ?_;refine cF ?_;have F:=And.intro hx w2;refine DV [0,1,5] ?_ noc [0];clear F
   refine AU [1,5] ?_ noc [0]
   have F:=And.intro w1 (And.intro e1 w3);refine A5 [4] ?_ noc [0];clear F
   refine AW.ret (B0 [some 0] [] rfl (by simp[Ax,lk,lkh,I,str,B,U8,U64,U32,cdE]<;>omega) (by first|(simp[Am,Ai,Aj,lkh,cdE];done)|simp[Am,Ai,Aj,lkh,I,str,cdE]))
 · rw[HB (by omega)]at q
   refine⟨0,a,ha,by omega,?_⟩
   refine acN 35 1 Tryz.func20 fun C hN hk=>?_
   refine Ah [0,1] ?_ noc [0]
   refine rG hN hk (onc 1 (ocq 0 q) noc) [0] [0,1,12] fun K hK=>?_;simp only[go_sem,seval]
   try simp (disch:=omega) only[au]
   try simp only[go_sem,seval]
   refine obK (hK _ _ ?_);clear hK K;refine nx ?_;refine cT ?_;refine Ah [4] ?_ noc [0]
   refine AW.ret (B0 [some 0] [] rfl (by simp[Ax,lk,lkh,I,str,B,U8,U64,U32,cdE]<;>omega) (by first|(simp[Am,Ai,Aj,lkh,cdE];done)|simp[Am,Ai,Aj,lkh,I,str,cdE]))
theorem J6{T:Tab}{rv:List ResultVar}{r:AV}{hs':List (Option Ent)}{k:Nat}{l:List AV}{p:Prop}{s:AS}(ids:List (Option Nat))(D:List Nat)(h1:AY T s rv=some (l,p):=by rfl)(hr:wk (lkh s.hp) ids D (Ax l) r:=by simp[Ax,lk,lkh,I,str,B,U8,U64,U32,cdE]<;>omega)(hh:Am (lkh s.hp) ids D (hs'.zipIdx.map fun x=>(x.2,x.1)):=by first|(simp[Am,Ai,Aj,lkh,cdE];done)|simp[Am,Ai,Aj,lkh,I,str,cdE])
   (h2:p:=by simp) (hi:IdsOk ids D k (hs'.zipIdx.map fun x=>(x.2,x.1)):=by exact⟨by simp[Al],by simp[Al],by simp⟩) (hl:ids.length=hs'.length:=by simp):Df T rv r hs' k .ret 0 s:=B0 ids D h1 hr hh h2 hi hl
theorem Eo{l:List S}{b:Nat}(h: ∀ w∈l,w.length≤b)(i:Nat):(l.getD i []).length≤b:=by
 by_cases hi:i<l.length
 · rw[DN hi];exact h _ (List.getElem_mem hi)
 · simp[List.getD,List.getElem?_eq_none (Nat.le_of_not_lt hi)]
def KD:List S:=[[103,101,116],[101,114,114,111,114],[119,97,114,110],[97,49],[117,115,101,114,95,55],[120],[84,105,109,101,111,117,116],[50,48,48],[71,69,84],[101,114,114,111],[122],[],[255],[97,46,98]]
theorem PK(i:Nat):(KD.getD i []).length≤19:=Eo (by decide) i
def GN:List S:=[[108,101,118,101,108],[109,115],[117,115,101,114],[99,111,100,101]]
theorem Hb(i:Nat):(GN.getD i []).length≤19:=Eo (by decide) i
def LY:List S:=[[119,97,114,110],[105,110,102,111],[55],[45,51],[51,49],[],[120,32,121],[57,57,57,57,57,57,57,57,57,57,57,57,57,57,57,57,57,57],[49,48,48,48,48,48,48,48,48,48,48,48,48,48,48,48,48,48,48],[48,55],[45]]
theorem M9(i:Nat):(LY.getD i []).length≤19:=Eo (by decide) i
theorem XT(L:List UInt8)(hL:L.length≤2^20)(a:Nat)(ha:a≤L.length):
   ∃ v a':Nat,a'≤L.length∧Af Tryz.prog 204 [.ptr 0 2 0 0] [some (cdE L a)] (str (KD.getD v [])) [some (cdE L a')]:=by
 obtain⟨v,a',h1,h2,q⟩:=A7 L hL a 14 ha (by omega) (by omega)
 refine⟨v,a',h1,?_⟩
 obtain rfl|rfl|rfl|rfl|rfl|rfl|rfl|rfl|rfl|rfl|rfl|rfl|rfl|rfl:v=0∨v=1∨v=2∨v=3∨v=4∨v=5∨v=6∨v=7∨v=8∨v=9∨v=10∨v=11∨v=12∨v=13:=by omega
 all_goals
   refine acN 12 1 Tryz.func204 fun C hN hk=>?_
   refine Ah [0] ?_ noc [0]
   refine Ah [0,3] ?_ noc [0]
   refine Ah [2] ?_ (onc 4 (ocq 0 q) noc) [0]
   refine AW.ret (B0 [some 0] [] rfl (by simp[Ax,lk,lkh,I,str,B,U8,U64,U32,cdE,KD]<;>omega) (by first|(simp[Am,Ai,Aj,lkh,cdE,KD];done)|simp[Am,Ai,Aj,lkh,I,str,cdE,KD]))
theorem Kl(L:List UInt8)(hL:L.length≤2^20)(a:Nat)(ha:a≤L.length):
   ∃ v a':Nat,a'≤L.length∧Af Tryz.prog 25 [.ptr 0 2 0 0] [some (cdE L a)] (str (GN.getD v [])) [some (cdE L a')]:=by
 obtain⟨v,a',h1,h2,q⟩:=A7 L hL a 4 ha (by omega) (by omega)
 refine⟨v,a',h1,?_⟩
 obtain rfl|rfl|rfl|rfl:v=0∨v=1∨v=2∨v=3:=by omega
 all_goals
   refine acN 8 1 Tryz.func25 fun C hN hk=>?_
   refine Ah [0] ?_ noc [0]
   refine Ah [2] ?_ (onc 2 (ocq 0 q) noc) [0]
   refine AW.ret (B0 [some 0] [] rfl (by simp[Ax,lk,lkh,I,str,B,U8,U64,U32,cdE,GN]<;>omega) (by first|(simp[Am,Ai,Aj,lkh,cdE,GN];done)|simp[Am,Ai,Aj,lkh,I,str,cdE,GN]))
theorem O8(L:List UInt8)(hL:L.length≤2^20)(a:Nat)(ha:a≤L.length):
   ∃ v a':Nat,a'≤L.length∧Af Tryz.prog 26 [.ptr 0 2 0 0] [some (cdE L a)] (str (LY.getD v [])) [some (cdE L a')]:=by
 obtain⟨v,a',h1,h2,q⟩:=A7 L hL a 11 ha (by omega) (by omega)
 refine⟨v,a',h1,?_⟩
 obtain rfl|rfl|rfl|rfl|rfl|rfl|rfl|rfl|rfl|rfl|rfl:v=0∨v=1∨v=2∨v=3∨v=4∨v=5∨v=6∨v=7∨v=8∨v=9∨v=10:=by omega
 all_goals
   refine acN 12 1 Tryz.func26 fun C hN hk=>?_
   refine Ah [0] ?_ noc [0]
   refine Ah [0,3] ?_ noc [0]
   refine Ah [2] ?_ (onc 4 (ocq 0 q) noc) [0]
   refine AW.ret (B0 [some 0] [] rfl (by simp[Ax,lk,lkh,I,str,B,U8,U64,U32,cdE,LY]<;>omega) (by first|(simp[Am,Ai,Aj,lkh,cdE,LY];done)|simp[Am,Ai,Aj,lkh,I,str,cdE,LY]))
def weL:List Int:=[1,1,2,5,10,5040]
theorem Z3(L:List UInt8)(hL:L.length≤2^20)(a:Nat)(ha:a≤L.length):
   ∃ (w:Int) (a':Nat),Kk w=true∧a'≤L.length∧Af Tryz.prog 151 [.ptr 0 2 0 0] [some (cdE L a)] (I w) [some (cdE L a')]:=by
 obtain⟨v,a',h1,h2,q⟩:=A7 L hL a 6 ha (by omega) (by omega)
 refine⟨weL.getD v 1,a',?_,h1,?_⟩
 · exact(by decide: ∀ i<6,Kk (weL.getD i 1)=true) v h2
 obtain rfl|rfl|rfl|rfl|rfl|rfl:v=0∨v=1∨v=2∨v=3∨v=4∨v=5:=by omega
 all_goals
   refine acN 8 1 Tryz.func151 fun C hN hk=>?_
   refine Ah [0] ?_ noc [0]
   refine Ah [2] ?_ (onc 2 (ocq 0 q) noc) [0]
   refine AW.ret (B0 [some 0] [] rfl (by simp[Ax,lk,lkh,I,str,B,U8,U64,U32,cdE,weL]<;>omega) (by first|(simp[Am,Ai,Aj,lkh,cdE,weL];done)|simp[Am,Ai,Aj,lkh,I,str,cdE,weL]))
theorem AdP(L:List UInt8)(hL:L.length≤2^20)(a:Nat)(ha:a≤L.length):
   ∃ (t:Int) (a':Nat),(0≤t∧t≤253402300799999)∧a'≤L.length∧Af Tryz.prog 150 [.ptr 0 2 0 0] [some (cdE L a)] (I t) [some (cdE L a')]:=by
 obtain⟨v,a',h1,h2,q⟩:=A7 L hL a 4 ha (by omega) (by omega)
 obtain rfl|hv:v=0∨v≠0:=by omega
 · obtain⟨v2,a2,g1,g2,q2⟩:=A7 L hL a' 40 h1 (by omega) (by omega)
   have w1:=As (n:=(v2:Int)*86400000) (by omega)
   refine⟨(v2:Int)*86400000,a2,by omega,g1,?_⟩
   refine acN 19 1 Tryz.func150 fun C hN hk=>?_
   refine Ah [0] ?_ noc [0]
   refine Ah [0,4] ?_ (onc 1 (ocq 0 q) noc) [0]
   refine AU [0,4,5] ?_ noc [0];refine cT ?_;have F:=w1;refine A5 [2] ?_ (onc 1 (ocq 0 q2) noc) [0];clear F
   refine AW.ret (J6 [some 0] [])
 · have d0:((v:Int)==0)=false:=by simp;omega
   obtain rfl|hv1:v=1∨v≠1:=by omega
   · obtain⟨v2,a2,g1,g2,q2⟩:=A7 L hL a' 3 h1 (by omega) (by omega)
     have w1:=As (n:=(v2:Int)*86400000) (by omega)
     have w2:=As (n:=253402300799999- (v2:Int)*86400000) (by omega)
     refine⟨253402300799999- (v2:Int)*86400000,a2,by omega,g1,?_⟩
     refine acN 19 1 Tryz.func150 fun C hN hk=>?_
     refine Ah [0] ?_ noc [0]
     refine Ah [0,4] ?_ (onc 1 (ocq 0 q) noc) [0]
     refine AU [0,4,5] ?_ noc [0];refine cF ?_;refine AU [0,10] ?_ noc [0];refine cT ?_;have F:=And.intro w1 w2;refine A5 [2] ?_ (onc 1 (ocq 0 q2) noc) [0];clear F
     refine AW.ret (J6 [some 0] [])
   · obtain⟨v2,a2,g1,g2,q2⟩:=A7 L hL a' 60 h1 (by omega) (by omega)
     have d1:((v:Int)==1)=false:=by simp;omega
     have w1:=As (n:=1000+(v2:Int)) (by omega)
     refine⟨1000+(v2:Int),a2,by omega,g1,?_⟩
     refine acN 19 1 Tryz.func150 fun C hN hk=>?_
     refine Ah [0] ?_ noc [0]
     refine Ah [0,4] ?_ (onc 1 (ocq 0 q) noc) [0]
     have F:=d0;refine A5 [0,4,5] ?_ noc [0];clear F;refine cF ?_;have F:=d1;refine A5 [0,10] ?_ noc [0];clear F;refine cF ?_;have F:=w1;refine A5 [2] ?_ (onc 1 (ocq 0 q2) noc) [0];clear F
     refine AW.ret (J6 [some 0] [])
def Zq:List S:=[[32],[32],[44,32],[61],[]]
theorem YI(i:Nat):(Zq.getD i []).length≤2:=Eo (by decide) i
theorem Aeb(L:List UInt8)(hL:L.length≤2^20)(a:Nat)(ha:a≤L.length):
   GK Tryz.prog 149 [.ptr 0 2 0 0] [some (cdE L a)] (fun x=> ∃ (t:S) (a':Nat),x=(str t,[some (cdE L a')])∧t.length≤100∧a'≤L.length):=by
 obtain⟨v,a1,h1,q1⟩:=XT L hL a ha
 obtain⟨n,a2,h2,h3,q2⟩:=A7 L hL a1 4 h1 (by omega) (by omega)
 have hw:=PK v
 generalize KD.getD v []=w at*
 refine GI 24 1 Tryz.func149 rfl rfl rfl (by simp) rfl rfl ?_
 refine C4 [0] ?_ noc [0]
 refine C4 [0,3] ?_ (onc 1 (ocq 0 q1) noc) [0]
 refine C4 [0,3,4] ?_ (onc 1 (ocq 0 q2) noc) [0]
 refine lpX 1 (fun s:Nat×S×Nat=>⟨[(0,.ptr 0 2 0 0),(3,str s.2.1),(4,I s.1)],[(0,some ⟨98,2,[[.sl 1 (Ab L),I s.2.2]]⟩)]⟩) (fun s=>s.1≤3∧s.2.1.length+21*s.1≤100∧s.2.2≤L.length) (fun s=>s.1) (n,w,a2) (Eb [some 0] []) ?_
 intro ⟨j,t,a3⟩ hI Y hY
 obtain⟨g1,g2,g3⟩:=hI
 simp only at g1 g2 g3
 cases j with
 |zero=>
   have d0:decide (((0:Nat):Int)>0)=false:=by simp
   have F:=d0;refine Eu [0,3,4,10] ?_ noc [0];clear F
   refine C4 [2] ?_ noc [0]
   refine EX.ret (str t) [some (cdE L a3)] ?_ (fun C hN hk=>AW.ret (J6 [some 0] []))
   exact⟨t,a3,rfl,by omega,g3⟩
 |succ j=>
   obtain⟨v3,a4,k1,k2,q3⟩:=A7 L hL a3 5 g3 (by omega) (by omega)
   obtain⟨v4,a5,k3,q4⟩:=XT L hL a4 k1
   have d0:decide (((j+1:Nat):Int)>0)=true:=by simp
   have e1:(((j+1:Nat):Int)-1)=(j:Int):=by omega
   have w1:=As (n:=(j:Int)) (by omega)
   have hw4:=PK v4
   have hs3:=YI v3
   generalize KD.getD v4 []=u at*
   obtain⟨t',ht'⟩: ∃ t',t'=t++(Zq.getD v3 []++u):=⟨_,rfl⟩
   have hlen:t'.length≤t.length+21:=by rw[ht'];simp only[List.length_append];omega
   obtain rfl|rfl|rfl|rfl|rfl:v3=0∨v3=1∨v3=2∨v3=3∨v3=4:=by omega
   all_goals
     have F:=d0;refine Eu [0,3,4,10] ?_ noc [0];clear F
     apply EX.step
     · intro xX C hN hk hqX
       refine IC [0,3,4] ?_ (onc 3 (ocq 0 q3) (onc 7 (ocq 0 q4) noc)) [0] (hN:=hN) (hk:=hk)
       exact hqX
     have F:=And.intro e1 w1;refine Eu [0,3,4] ?_ noc [0];clear F
     refine eY hY ((j,t',a5)) (C9 (And.intro ht' Zq.eq_1) [some 0] [])
def fnL:List S:=[[99,111,100,101],[108,101,118,101,108],[109,115],[117,115,101,114]]
theorem Aeq: ∀ n∈fnL,Qk n:=by
 intro n hn
 refine⟨?_,?_,?_⟩
 · exact(by decide: ∀ n∈fnL,1≤n.length) n hn
 · exact(by decide: ∀ n∈fnL,n.length≤32) n hn
 · exact(by decide: ∀ n∈fnL,∀ c∈n,G6 c=true) n hn
theorem Ur:fnL.Pairwise ltS:=by decide
theorem AdL{α:Type}(l:List α)(i:Nat)(h:i<l.length):l.take (i+1)=l.take i++[l[i]]:=by
 rw[List.take_add_one,List.getElem?_eq_getElem h];rfl
structure FlG(F:List Fl):Prop where
 mem: ∀ f∈F,f.name∈fnL∧f.val.length≤19
 asc:F.Pairwise fun a b=>ltS a.name b.name
 len:F.length≤4
theorem Y7(L:List UInt8)(hL:L.length≤2^20)(a:Nat)(ha:a≤L.length):
   GK Tryz.prog 152 [.ptr 0 2 0 0] [some (cdE L a)] (fun x=> ∃ (F:List Fl) (a':Nat),x=(.osl 1 F.length 2,[some (cdE L a'),some ⟨203,2,flE F⟩])∧FlG F∧a'≤L.length):=by
 refine GI 27 1 Tryz.func152 rfl rfl rfl (by simp) rfl rfl ?_
 refine C4 [0] ?_ noc [0]
 refine C4 [0,3] ?_ noc [0]
 refine C4 [0,3,4] ?_ noc [0]
 refine C4 [0,3,4,5] ?_ noc [0]
 have e0:Ay fnL=[[.val (.string ⟨#[99,111,100,101]⟩)],[.val (.string ⟨#[108,101,118,101,108]⟩)],[.val (.string ⟨#[109,115]⟩)],[.val (.string ⟨#[117,115,101,114]⟩)]]:=rfl
 refine Nw ?_
 refine lpX 3 (fun s:Nat×List Fl×Nat=>⟨[(0,.ptr 0 2 0 0),(3,.osl 1 s.2.1.length 2),(4,.osl 2 4 1),(5,I s.1)],[(0,some ⟨98,2,[[.sl 1 (Ab L),I s.2.2]]⟩),(1,some ⟨203,2,flE s.2.1⟩),(2,some ⟨9,1,Ay fnL⟩)]⟩) (fun s=>s.1≤4∧s.2.1.length≤s.1∧s.2.2≤L.length∧(∀ f∈s.2.1,f.name∈fnL.take s.1∧f.val.length≤19)∧(s.2.1.Pairwise fun a b=>ltS a.name b.name)) (fun s=>4-s.1) (0,[],a) (C9 e0 [some 0,none,some 1] []) ?_
 intro ⟨i,F,a1⟩ hI Y hY
 obtain⟨g1,g2,g3,g4,g5⟩:=hI
 simp only at g1 g2 g3 g4 g5
 by_cases hi:i<4
 · have hx:fnL[i]? =some fnL[i]:=List.getElem?_eq_getElem (show i<fnL.length from hi)
   have hx4:fnL.length=4:=rfl
   obtain⟨v,a2,k1,k2,q1⟩:=A7 L hL a1 3 g3 (by omega) (by omega)
   have htk:fnL.take (i+1)=fnL.take i++[fnL[i]]:=AdL fnL i hi
   have hlt: ∀ n∈fnL.take i,ltS n fnL[i]:=by
     intro n hn
     obtain⟨j,hj,rfl⟩:=List.getElem_of_mem hn
     simp only[List.length_take]at hj
     rw[List.getElem_take]
     exact List.pairwise_iff_getElem.1 Ur j i (by omega) (by omega) (by omega)
   generalize fnL[i]=nm at*
   obtain hv|hv:v=1∨v≠1:=by omega
   · subst hv
     obtain⟨v2,a3,k3,q2⟩:=O8 L hL a2 k1
     have hw:=M9 v2
     generalize LY.getD v2 []=w at*
     have hfe:flE (F++[(⟨nm,w⟩:Fl)])=flE F++[[.val (.string ⟨nm.toArray⟩),.val (.string ⟨w.toArray⟩)]]:=by simp[flE,flC,str]
     have hA: ∀ f∈F++[(⟨nm,w⟩:Fl)],f.name∈fnL.take (i+1)∧f.val.length≤19:=by
       intro f hf
       rw[htk]
       rcases List.mem_append.1 hf with hf|hf
       · exact⟨List.mem_append.2 (.inl (g4 f hf).1),(g4 f hf).2⟩
       · rw[List.mem_singleton.1 hf];exact⟨by simp,hw⟩
     have hB:(F++[(⟨nm,w⟩:Fl)]).Pairwise fun a b=>ltS a.name b.name:=by
       rw[List.pairwise_append]
       refine⟨g5,by simp,fun f hf g hg=>?_⟩
       rw[List.mem_singleton.1 hg]
       exact hlt _ (g4 f hf).1
     have hC:(F++[(⟨nm,w⟩:Fl)]).length≤i+1:=by simp;omega
     obtain⟨F2,hF2⟩: ∃ F2,F2=F++[(⟨nm,w⟩:Fl)]:=⟨_,rfl⟩
     rw[← hF2]at hA hB hC hfe
     have hlf:F2.length=F.length+1:=by rw[hF2];simp
     refine Gl [0,3,4,5,10] ?_ noc [0]
     refine Gl [0,3,4,5,15] ?_ (onc 1 (ocq 0 q1) noc) [0]
     apply EX.step
     · intro xX C hN hk hqX
       have F:=hx;refine DV [0,3,4,5] ?_ (onc 6 (ocq 0 q2) noc) [0] (hN:=hN) (hk:=hk);clear F
       exact hqX
     refine Gl [0,3,4,5] ?_ noc [0]
     refine eY hY ((i+1,F2,a3)) (C9 (And.intro hfe hlf) [some 0,some 1,some 2] [])
   · have d0:((v:Int)==1)=false:=by simp;omega
     have hA: ∀ f∈F,f.name∈fnL.take (i+1)∧f.val.length≤19:=by
       intro f hf
       rw[htk]
       exact⟨List.mem_append.2 (.inl (g4 f hf).1),(g4 f hf).2⟩
     refine Gl [0,3,4,5,10] ?_ noc [0]
     have F:=d0;refine Eu [0,3,4,5,15] ?_ (onc 1 (ocq 0 q1) noc) [0];clear F
     refine Gl [0,3,4,5] ?_ noc [0]
     refine eY hY ((i+1,F,a2)) (Eb [some 0,some 1,some 2] [])
 · refine Gl [0,3,4,5,10] ?_ noc [0]
   refine C4 [2] ?_ noc [0]
   refine EX.ret (.osl 1 F.length 2) [some (cdE L a1),some ⟨203,2,flE F⟩] ?_ (fun C hN hk=>AW.ret (J6 [some 0,some 1] []))
   exact⟨F,a1,rfl,⟨fun f hf=>⟨List.mem_of_mem_take (g4 f hf).1,(g4 f hf).2⟩,g5,by omega⟩,g3⟩
structure It where
 rule:S
 ev:Ev
def itC(x:It):List AV:=str x.rule::evC x.ev
def itE(l:List It):List (List AV):=l.map itC
theorem Tu(l:List It):(itE l).length=l.length:=by simp[itE]
theorem Zu(l:List It)(i:Nat):(itE l)[i]? =(l[i]?).map itC:=by simp[itE]
@[simp] theorem itE_id(k:Nat)(l:List It):AA k (itE l)=true:=by
 simp only[AA,itE,List.all_map,List.all_eq_true]
 intro x _
 rfl
theorem Abv(L:List Nat)(l:List It):BK L (itE l)=itE l:=by
 simp only[BK,itE,List.map_map]
 apply List.map_congr_left
 intro x _
 rfl
theorem YE(l:List It)(x:It):itE l++[[.val (.string ⟨x.rule.toArray⟩),.val (.int .i64 x.ev.host),.val (.int .i64 x.ev.file),.val (.int .i64 x.ev.frm),.val (.int .i64 x.ev.to),.sl 3 (lnE x.ev.lines),.val (.int .i64 x.ev.time),.val (.int .i64 x.ev.weight),.val (.string ⟨x.ev.trace.toArray⟩),.val (.string ⟨x.ev.stream.toArray⟩),.sl 2 (flE x.ev.fields)]]=itE (l++[x]):=by simp[itE,itC,evC,I,str]
@[simp] theorem AhA:itE []=[]:=rfl
attribute [go_sem] Tu Zu Abv YE itC
def jjC(x:List It):List AV:=[.sl 11 (itE x)]
def jjE(l:List (List It)):List (List AV):=l.map jjC
theorem Ub(l:List (List It)):(jjE l).length=l.length:=by simp[jjE]
theorem Yx(l:List (List It))(i:Nat):(jjE l)[i]? =(l[i]?).map jjC:=by simp[jjE]
@[simp] theorem WW(k:Nat)(l:List (List It)):AA k (jjE l)=true:=by
 simp only[AA,jjE,List.all_map,List.all_eq_true]
 intro x _
 rfl
theorem Abj(L:List Nat)(l:List (List It)):BK L (jjE l)=jjE l:=by
 simp only[BK,jjE,List.map_map]
 apply List.map_congr_left
 intro x _
 rfl
theorem ZH(ρ:Nat→Nat)(l:List (List It)):(jjE l).map (BJ ρ)=jjE l:=EB ρ (WW 0 l)
theorem RR(l:List (List It))(x:(List It)):jjE l++[[.sl 11 (itE x)]]=jjE (l++[x]):=by simp[jjE,jjC,I,str]
@[simp] theorem AhH:jjE []=[]:=rfl
attribute [go_sem] Ub Yx Abj ZH RR jjC
attribute [simp] Tu Ub
structure LnsG(f:Int)(l:List Ln):Prop where
 off: ∀ i (h:i<l.length),l[i].off=Dj f (l.take i)∧1≤l[i].len
 tx: ∀ x∈l,x.text.length≤100
 lo:f+l.length≤Dj f l
 hi:Dj f l≤f+102*l.length
theorem LnsG.nil(f:Int):LnsG f []:=⟨fun i h=>by simp at h,fun x h=>by simp at h,by simp[Dj],by simp[Dj]⟩
theorem LnsG.snoc{f:Int}{l:List Ln}(h:LnsG f l)(x:Ln)(h1:x.off=Dj f l)(h2:1≤x.len∧x.len≤102)(h3:x.text.length≤100):LnsG f (l++[x]):=by
 refine⟨fun i hi=>?_,fun y hy=>?_,?_,?_⟩
 · simp only[List.length_append,List.length_singleton]at hi
   by_cases hl:i<l.length
   · rw[List.getElem_append_left hl,List.take_append_of_le_length (by omega)];exact h.off i hl
   · have:i=l.length:=by omega
     subst this
     rw[List.getElem_append_right (Nat.le_refl _)]
     simp only[Nat.sub_self,List.getElem_cons_zero,List.take_left']
     exact⟨h1,h2.1⟩
 · rcases List.mem_append.1 hy with hy|hy
   · exact h.tx y hy
   · rw[List.mem_singleton.1 hy];exact h3
 · have:=h.lo;rw[Lu];simp;omega
 · have:=h.hi;rw[Lu];simp;omega
structure ItG(host file frm:Int)(x:It):Prop where
 to:frm<x.ev.to∧x.ev.to≤frm+306
 good:x.rule=[]→EvG x.ev∧x.ev.host=host∧x.ev.file=file∧x.ev.frm=frm∧(∀ f∈x.ev.fields,f.name∈fnL)∧x.ev.lines.length≤3∧ ∀ y∈x.ev.lines,y.text.length≤100
def trL:List S:=[[116,49],[116,50],[],[49,58,50,58,48]]
def stL:List S:=[[109,97,105,110],[100,101,98,117,103]]
theorem AcL(i:Nat):(trL.getD i []).length≤5:=Eo (by decide) i
theorem Abp(i:Nat):(stL.getD i []).length≤5:=Eo (by decide) i
theorem Ad7(L:List UInt8)(hL:L.length≤2^20)(a:Nat)(ha:a≤L.length)(host file frm:Int)(hh:0≤host∧host≤999)(hf:0≤file∧file≤2147483646)(hfr:0≤frm∧frm≤50000):
   GK Tryz.prog 99 [.ptr 0 2 0 0,I host,I file,I frm] [some (cdE L a)] (fun x=> ∃ (it:It) (a':Nat),x=(.agg (itC it),[some (cdE L a')])∧ItG host file frm it∧a'≤L.length):=by
 obtain⟨v,a1,h1,h2,q1⟩:=A7 L hL a 3 ha (by omega) (by omega)
 have w1:=As (n:=1+(v:Int)) (by omega)
 refine GI 94 1 Tryz.func99 rfl rfl rfl (by simp) rfl rfl ?_
 refine C4 [0,1,2,3,8] ?_ noc [0]
 refine C4 [0,3,8,9] ?_ noc [0]
 refine C4 [0,8,9,10] ?_ noc [0]
 have F:=w1;refine Eu [0,8,9,10,11] ?_ (onc 1 (ocq 0 q1) noc) [0];clear F
 have h0:Dj frm []=frm:=by simp[Dj]
 have h1v:1+(v:Int)=((v+1:Nat):Int):=by omega
 rw[h1v]
 have hnil:=LnsG.nil frm
 have hnl0:([]:List Ln).length+(v+1)=v+1:=by simp
 refine Nw ?_
 refine lpX 4 (fun s:Nat×List Ln×Nat=>⟨[(0,.ptr 0 2 0 0),(8,.ptr 1 11 0 0),(9,.ptr 2 10 0 0),(10,I (Dj frm s.2.1)),(11,I s.1)],[(0,some ⟨98,2,[[.sl 1 (Ab L),I s.2.2]]⟩),(1,some ⟨108,11,[[str [],I 0,I 0,I 0,I 0,AH,I 0,I 0,str [],str [],AH]]⟩),(2,some ⟨56,10,[[I host,I file,I frm,I 0,.osl 3 s.2.1.length 3,I 0,I 0,str [],str [],AH]]⟩),(3,some ⟨156,3,lnE s.2.1⟩)]⟩) (fun s=>LnsG frm s.2.1∧s.2.1.length+s.1=v+1∧s.2.2≤L.length) (fun s=>s.1) (v+1,[],a1) (C9 (And.intro h0 AH.eq_1) [some 0,some 1,some 2,none] []) ?_
 clear q1 hnil
 intro ⟨j,ls,a2⟩ hI Y hY
 obtain⟨g1,g2,g3⟩:=hI
 simp only at g1 g2 g3
 have hlo:=g1.lo
 have hhi:=g1.hi
 cases j with
 |succ j=>
   obtain⟨_,⟨t,a3,rfl,k1,k2⟩,q2⟩:=Aeb L hL a2 g3
   obtain⟨u,a4,k3,k4,q3⟩:=A7 L hL a3 2 k2 (by omega) (by omega)
   simp only at q2
   have d0:decide (((j+1:Nat):Int)>0)=true:=by simp
   have e1:(((j+1:Nat):Int)-1)=(j:Int):=by omega
   have w2:=As (n:=(j:Int)) (by omega)
   have w3:=As (n:=(t.length:Int)+1) (by omega)
   have w4:=As (n:=(t.length:Int)+1+(u:Int)) (by omega)
   have w5:=As (n:=Dj frm ls+((t.length:Int)+1+(u:Int))) (by omega)
   obtain⟨x,hx⟩: ∃ x:Ln,x=⟨Dj frm ls,(t.length:Int)+1+(u:Int),t⟩:=⟨_,rfl⟩
   have hln:lnE (ls++[x])=lnE ls++[[.val (.int .i64 (Dj frm ls)),.val (.int .i64 ((t.length:Int)+1+(u:Int))),.val (.string ⟨t.toArray⟩)]]:=by rw[hx];simp[lnE,lnC,I,str]
   have hg:=g1.snoc x (by rw[hx]) (by rw[hx];simp only;omega) (by rw[hx];exact k1)
   have hat:=Lu frm ls x
   have hxl:x.len=(t.length:Int)+1+(u:Int):=by rw[hx]
   rw[hxl]at hat
   obtain⟨ls2,hls2⟩: ∃ ls2,ls2=ls++[x]:=⟨_,rfl⟩
   have hl2:ls2.length=ls.length+1:=by rw[hls2];simp
   rw[← hls2]at hg hat hln
   have F:=d0;refine Eu [0,8,9,10,11,24] ?_ noc [0];clear F
   refine C4 [0,8,9,10,11,12] ?_ (onc 1 (ocq 0 q2) noc) [0]
   have F:=And.intro w3 w4;refine Eu [0,8,9,10,11,12,13] ?_ (onc 4 (ocq 0 q3) noc) [0];clear F
   refine C4 [0,8,9,10,11,13] ?_ noc [0]
   have F:=w5;refine Eu [0,8,9,10,11] ?_ noc [0];clear F
   have F:=And.intro e1 w2;refine Eu [0,8,9,10,11] ?_ noc [0];clear F
   refine eY hY ((j,ls2,a4)) (C9 (And.intro hat (And.intro hln (And.intro hl2 AH.eq_1))) [some 0,some 1,some 2,some 3] [])
 |zero=>
   have d0:decide (((0:Nat):Int)>0)=false:=by simp
   have g2:ls.length=v+1:=by omega
   obtain⟨b,a3,k1,k2,q2⟩:=A7 L hL a2 5 g3 (by omega) (by omega)
   obtain⟨to,hto⟩: ∃ to,to=Dj frm ls:=⟨_,rfl⟩
   rw[← hto]at hlo hhi ⊢
   have F:=d0;refine Eu [0,8,9,10,11,24] ?_ noc [0];clear F
   refine C4 [0,8,9] ?_ noc [0]
   by_cases hb:b=4
   · subst hb
     refine Gl [0,8,9,51] ?_ (onc 1 (ocq 0 q2) noc) [0]
     refine C4 [0,8,9,14] ?_ noc [0]
     clear q2
     refine Nw ?_
     refine lpX 4 (fun s:Nat×List Ln=>⟨[(0,.ptr 0 2 0 0),(8,.ptr 1 11 0 0),(9,.ptr 2 10 0 0),(14,I s.1)],[(0,some ⟨98,2,[[.sl 1 (Ab L),I a3]]⟩),(1,some ⟨108,11,[[str [],I 0,I 0,I 0,I 0,AH,I 0,I 0,str [],str [],AH]]⟩),(2,some ⟨56,10,[[I host,I file,I frm,I to,.osl 3 s.2.length 3,I 0,I 0,str [],str [],AH]]⟩),(3,some ⟨156,3,lnE s.2⟩)]⟩) (fun s=>s.1≤ls.length∧s.2.length=ls.length) (fun s=>ls.length-s.1) (0,ls) (C9 AH.eq_1 [some 0,some 1,some 2,some 3] []) ?_
     intro ⟨i,l2⟩ hI2 Y2 hY2
     obtain⟨m1,m2⟩:=hI2
     simp only at m1 m2
     by_cases hi:i<l2.length
     · have hx:=List.getElem?_eq_getElem hi
       generalize l2[i]=x at*
       have hset:(lnE l2).set i [.val (.int .i64 x.off),.val (.int .i64 x.len),.val (.string ⟨#[]⟩)]=lnE (l2.set i ⟨x.off,x.len,[]⟩):=by simp[lnE,List.map_set,lnC,I,str]
       have hsl:(l2.set i ⟨x.off,x.len,[]⟩).length=l2.length:=by simp
       generalize l2.set i ⟨x.off,x.len,[]⟩=l3 at*
       refine Gl [0,8,9,14,56] ?_ noc [0]
       have F:=And.intro hx (And.intro hi hset);refine exFx [0,8,9,14] ?_ noc [0];clear F
       refine Gl [0,8,9,14] ?_ noc [0]
       refine eY hY2 ((i+1,l3)) (C9 (And.intro hsl AH.eq_1) [some 0,some 1,some 2,some 3] [])
     · obtain⟨v3,a4,k3,k4,q3⟩:=A7 L hL a3 3 k1 (by omega) (by omega)
       refine Gl [0,8,9,14,56] ?_ noc [0]
       obtain rfl|rfl|rfl:v3=0∨v3=1∨v3=2:=by omega
       · apply EX.step
         · intro xX C hN hk hqX
           refine IC [8] ?_ (onc 2 (ocq 0 q3) noc) [0] (hN:=hN) (hk:=hk)
           exact hqX
         refine EX.ret (.agg (itC ⟨[115,97,109,112,108,101],⟨host,file,frm,to,l2,0,0,[],[],[]⟩⟩)) [some (cdE L a4)] ?_ (fun C hN hk=>AW.ret (B0 [some 0] [2] (by simp only[AY,go_sem,seval];rfl) (by simp[Ax,lk,lkh,I,str,B,U8,U64,U32,cdE,itC,evC]<;>omega) (by first|(simp[Am,Ai,Aj,lkh,cdE,itC,evC];done)|simp[Am,Ai,Aj,lkh,I,str,cdE,itC,evC])))
         exact⟨_,a4,rfl,⟨by simp only;omega,by simp⟩,k3⟩
       · apply EX.step
         · intro xX C hN hk hqX
           refine IC [8] ?_ (onc 2 (ocq 0 q3) noc) [0] (hN:=hN) (hk:=hk)
           exact hqX
         refine EX.ret (.agg (itC ⟨[100,114,111,112],⟨host,file,frm,to,l2,0,0,[],[],[]⟩⟩)) [some (cdE L a4)] ?_ (fun C hN hk=>AW.ret (B0 [some 0] [2] (by simp only[AY,go_sem,seval];rfl) (by simp[Ax,lk,lkh,I,str,B,U8,U64,U32,cdE,itC,evC]<;>omega) (by first|(simp[Am,Ai,Aj,lkh,cdE,itC,evC];done)|simp[Am,Ai,Aj,lkh,I,str,cdE,itC,evC])))
         exact⟨_,a4,rfl,⟨by simp only;omega,by simp⟩,k3⟩
       · apply EX.step
         · intro xX C hN hk hqX
           refine IC [8] ?_ (onc 2 (ocq 0 q3) noc) [0] (hN:=hN) (hk:=hk)
           exact hqX
         refine EX.ret (.agg (itC ⟨[116,111,111,45,108,111,110,103],⟨host,file,frm,to,l2,0,0,[],[],[]⟩⟩)) [some (cdE L a4)] ?_ (fun C hN hk=>AW.ret (B0 [some 0] [2] (by simp only[AY,go_sem,seval];rfl) (by simp[Ax,lk,lkh,I,str,B,U8,U64,U32,cdE,itC,evC]<;>omega) (by first|(simp[Am,Ai,Aj,lkh,cdE,itC,evC];done)|simp[Am,Ai,Aj,lkh,I,str,cdE,itC,evC])))
         exact⟨_,a4,rfl,⟨by simp only;omega,by simp⟩,k3⟩
   · have d4:((b:Int)==4)=false:=by simp;omega
     have F:=d4;refine Eu [0,8,9,51] ?_ (onc 1 (ocq 0 q2) noc) [0];clear F
     obtain⟨t,a4,t1,k3,q3⟩:=AdP L hL a3 k1
     obtain⟨w,a5,t2,k4,q4⟩:=Z3 L hL a4 k3
     obtain⟨v5,a6,k5,k6,q5⟩:=A7 L hL a5 4 k4 (by omega) (by omega)
     obtain⟨v6,a7,k7,k8,q6⟩:=A7 L hL a6 2 k5 (by omega) (by omega)
     obtain⟨_,⟨F,a8,rfl,hF,k9⟩,q7⟩:=Y7 L hL a7 k7
     simp only at q7
     have htr:=AcL v5
     have hst:=Abp v6
     obtain⟨e,he⟩: ∃ e:Ev,e=⟨host,file,frm,to,ls,t,w,trL.getD v5 [],stL.getD v6 [],F⟩:=⟨_,rfl⟩
     have hg:EvG e:=by
       rw[he]
       exact⟨hh,hf,hfr.1,by simp only;omega,t1,t2,by simp only;omega,fun i hi=>by simpa using g1.off i hi,hto.symm,fun y hy=>by have:=g1.tx y hy;omega,⟨by simp only;omega,by simp only;omega⟩,by have:=hF.len;simp only;omega,fun f hf=>⟨Aeq _ (hF.mem f hf).1,by have:=(hF.mem f hf).2;omega⟩,hF.asc⟩
     have hi:ItG host file frm ⟨[],e⟩:=by
       refine⟨?_,fun _=>⟨hg,?_⟩⟩
       · rw[he];simp only;omega
       · rw[he];exact⟨rfl,rfl,rfl,fun f hf=>(hF.mem f hf).1,by simp only;omega,g1.tx⟩
     have hec:itC ⟨[],e⟩=[str [],I host,I file,I frm,I to,.sl 3 (lnE ls),I t,I w,str (trL.getD v5 []),str (stL.getD v6 []),.sl 2 (flE F)]:=by rw[he];rfl
     refine C4 [0,8,9] ?_ (onc 1 (ocq 0 q3) (onc 3 (ocq 0 q4) noc)) [0]
     obtain rfl|rfl|rfl|rfl:v5=0∨v5=1∨v5=2∨v5=3:=by omega
     all_goals
       obtain rfl|rfl:v6=0∨v6=1:=by omega
       all_goals
         apply EX.step
         · intro xX C hN hk hqX
           refine IC [0,8,9] ?_ (onc 2 (ocq 0 q5) (onc 7 (ocq 0 q6) noc)) [0] (hN:=hN) (hk:=hk)
           exact hqX
         refine C4 [8,9] ?_ (onc 1 (ocq 0 q7) noc) [0]
         refine C4 [8] ?_ noc [0]
         refine EX.ret (.agg (itC ⟨[],e⟩)) [some (cdE L a8)] ?_ (fun C hN hk=>AW.ret (B0 [some 0] [2,3] (by simp only[AY,go_sem,seval];rfl) (by simp[Ax,lk,lkh,I,str,B,U8,U64,U32,cdE,hec,trL,stL]<;>omega) (by first|(simp[Am,Ai,Aj,lkh,cdE,hec,trL,stL];done)|simp[Am,Ai,Aj,lkh,I,str,cdE,hec,trL,stL])))
         exact⟨_,a8,rfl,hi,k9⟩
@[simp] theorem wkE_jj{hp:Hp}{ids:List (Option Nat)}{D:List Nat}(l:List (List It))(x:List It)(c:List AV):wkE hp ids D (jjE l++[c]) (jjE (l++[x]))↔wkL hp ids D c [.sl 11 (itE x)]:=by
 rw[← RR];exact Hi (WW 0 l)
structure DrE(e:Ev):Prop where
 good:EvG e
 fn: ∀ f∈e.fields,f.name∈fnL
 nl:e.lines.length≤3
 tx: ∀ y∈e.lines,y.text.length≤100
structure RowG(host file:Int)(l:List It):Prop where
 each: ∀ x∈l,x.rule=[]→DrE x.ev∧x.ev.host=host∧x.ev.file=file
 asc:l.Pairwise fun x y=>x.rule=[]→y.rule=[]→x.ev.frm<y.ev.frm
 len:l.length≤6
theorem Ab1(L:List UInt8)(hL:L.length≤2^20)(a:Nat)(ha:a≤L.length)(host:Int)(most:Nat)(hh:0≤host∧host≤999)(hm:most≤6):
   GK Tryz.prog 53 [.ptr 0 2 0 0,I host,I most] [some (cdE L a)] (fun x=> ∃ (out:List (List It)) (a':Nat),x=(.osl 1 out.length 1,[some (cdE L a'),some ⟨106,1,jjE out⟩])∧(out.length≤3∧ ∀ i (h:i<out.length),RowG host (5+i) out[i])∧a'≤L.length):=by
 refine GI 45 1 Tryz.func53 rfl rfl rfl (by simp) rfl rfl ?_
 refine C4 [0,1,2] ?_ noc [0]
 refine C4 [0,1,2,7] ?_ noc [0]
 refine C4 [0,1,2,7,8] ?_ noc [0]
 have hnil: ∀ i (h:i<([]:List (List It)).length),RowG host (5+i) ([]:List (List It))[i]:=fun i h=>by simp at h
 refine Nw ?_
 refine lpX 2 (fun s:Nat×List (List It)×Nat=>⟨[(0,.ptr 0 2 0 0),(1,I host),(2,I most),(7,.osl 1 s.2.1.length 1),(8,I s.1)],[(0,some ⟨98,2,[[.sl 1 (Ab L),I s.2.2]]⟩),(1,some ⟨106,1,jjE s.2.1⟩)]⟩) (fun s=>s.1≤3∧s.2.1.length=s.1∧s.2.2≤L.length∧ ∀ i (h:i<s.2.1.length),RowG host (5+i) s.2.1[i]) (fun s=>3-s.1) (0,[],a) (Eb [some 0,none] []) ?_
 intro ⟨f,out,a1⟩ hI Y hY
 obtain⟨g1,g2,g3,g4⟩:=hI
 simp only at g1 g2 g3 g4
 obtain⟨v,a2,h1,h2,q1⟩:=A7 L hL a1 3 g3 (by omega) (by omega)
 by_cases hfv:f≤v
 · have d0:=OL (a:=(f:Int)) (b:=(v:Int)) (by omega)
   obtain⟨n,a3,h3,h4,q2⟩:=A7 L hL a2 (most+1) h1 (by omega) (by omega)
   have w1:=As (n:=(most:Int)+1) (by omega)
   have F:=d0;refine Eu [0,1,2,7,8,16] ?_ (onc 2 (ocq 0 q1) noc) [0];clear F
   refine C4 [0,1,2,7,8,9] ?_ noc [0]
   refine C4 [0,1,2,7,8,9,10] ?_ noc [0]
   have F:=w1;refine Eu [0,1,2,7,8,9,10,11] ?_ (onc 3 (ocq 0 q2) noc) [0];clear F
   clear q1 q2
   have hnil2: ∀ x∈([]:List It),x.rule=[]→(DrE x.ev∧x.ev.host=host∧x.ev.file=5+f)∧x.ev.frm<0:=fun x h=>by simp at h
   refine Nw ?_
   refine lpX 3 (fun s:Nat×List It×Int×Nat=>⟨[(0,.ptr 0 2 0 0),(1,I host),(2,I most),(7,.osl 1 out.length 1),(8,I f),(9,.osl 2 s.2.1.length 11),(10,I s.2.2.1),(11,I s.1)],[(0,some ⟨98,2,[[.sl 1 (Ab L),I s.2.2.2]]⟩),(1,some ⟨106,1,jjE out⟩),(2,some ⟨108,11,itE s.2.1⟩)]⟩) (fun s=>s.2.1.length+s.1≤6∧s.2.2.2≤L.length∧(0≤s.2.2.1∧s.2.2.1≤306*s.2.1.length)∧(∀ x∈s.2.1,x.rule=[]→(DrE x.ev∧x.ev.host=host∧x.ev.file=5+f)∧x.ev.frm<s.2.2.1)∧s.2.1.Pairwise fun x y=>x.rule=[]→y.rule=[]→x.ev.frm<y.ev.frm) (fun s=>s.1) (n,[],0,a3) (Eb [some 0,some 1,none] []) ?_
   intro ⟨j,l,at',a4⟩ hI2 Y2 hY2
   obtain⟨m1,m2,m3,m4,m5⟩:=hI2
   simp only at m1 m2 m3 m4 m5
   cases j with
   |succ j=>
     have d0:decide (((j+1:Nat):Int)>0)=true:=by simp
     have e1:(((j+1:Nat):Int)-1)=(j:Int):=by omega
     have w2:=As (n:=(j:Int)) (by omega)
     have w3:=As (n:=5+(f:Int)) (by omega)
     obtain⟨_,⟨it,a5,rfl,k1,k2⟩,q3⟩:=Ad7 L hL a4 m2 host (5+f) at' hh (by omega) (by omega)
     simp only at q3
     have hto:=k1.to
     have hA: ∀ x∈l++[it],x.rule=[]→(DrE x.ev∧x.ev.host=host∧x.ev.file=5+f)∧x.ev.frm<it.ev.to:=by
       intro x hx hr
       rcases List.mem_append.1 hx with hx|hx
       · have:=m4 x hx hr
         exact⟨this.1,by omega⟩
       · obtain rfl:=List.mem_singleton.1 hx
         obtain⟨y1,y2,y3,y4,y5,y6,y7⟩:=k1.good hr
         exact⟨⟨⟨y1,y5,y6,y7⟩,y2,y3⟩,by omega⟩
     have hB:(l++[it]).Pairwise fun x y=>x.rule=[]→y.rule=[]→x.ev.frm<y.ev.frm:=by
       rw[List.pairwise_append]
       refine⟨m5,by simp,fun x hx y hy h1 h2=>?_⟩
       obtain rfl:=List.mem_singleton.1 hy
       have:=(m4 x hx h1).2
       have:=(k1.good h2).2.2.2.1
       omega
     obtain⟨l2,hl2⟩: ∃ l2,l2=l++[it]:=⟨_,rfl⟩
     have hll:l2.length=l.length+1:=by rw[hl2];simp
     rw[← hl2]at hA hB
     have F:=d0;refine Eu [0,1,2,7,8,9,10,11,24] ?_ noc [0];clear F
     have F:=w3;refine Eu [0,1,2,7,8,9,11,12] ?_ (onc 5 (ocq 0 q3) noc) [0];clear F
     refine C4 [0,1,2,7,8,9,11,12] ?_ noc [0]
     refine C4 [0,1,2,7,8,9,10,11] ?_ noc [0]
     have F:=And.intro e1 w2;refine Eu [0,1,2,7,8,9,10,11] ?_ noc [0];clear F
     refine eY hY2 ((j,l2,it.ev.to,a5)) (C9 (And.intro hll hl2) [some 0,some 1,some 2] [])
   |zero=>
     have d0:decide (((0:Nat):Int)>0)=false:=by simp
     have hrow:RowG host (5+f) l:=⟨fun x hx hr=>(m4 x hx hr).1,m5,by omega⟩
     have hS: ∀ i (h:i<(out++[l]).length),RowG host (5+i) (out++[l])[i]:=by
       intro i hi
       simp only[List.length_append,List.length_singleton]at hi
       by_cases hl:i<out.length
       · rw[List.getElem_append_left hl];exact g4 i hl
       · have:i=out.length:=by omega
         subst this
         rw[List.getElem_append_right (Nat.le_refl _)]
         simp only[Nat.sub_self,List.getElem_cons_zero,g2]
         exact hrow
     obtain⟨o2,ho2⟩: ∃ o2,o2=out++[l]:=⟨_,rfl⟩
     have hol:o2.length=out.length+1:=by rw[ho2];simp
     rw[← ho2]at hS
     have F:=d0;refine Eu [0,1,2,7,8,9,10,11,24] ?_ noc [0];clear F
     refine C4 [0,1,2,7,8,9] ?_ noc [0]
     refine Gl [0,1,2,7,8,9] ?_ noc [0]
     refine eY hY ((f+1,o2,a4)) (C9 (And.intro hol ho2) [some 0,some 1] [2])
 · have d0:=Vh (a:=(f:Int)) (b:=(v:Int)) (by omega)
   have F:=d0;refine Eu [0,1,2,7,8,16] ?_ (onc 2 (ocq 0 q1) noc) [0];clear F
   refine C4 [6] ?_ noc [0]
   refine EX.ret (.osl 1 out.length 1) [some (cdE L a2),some ⟨106,1,jjE out⟩] ?_ (fun C hN hk=>AW.ret (J6 [some 0,some 1] []))
   exact⟨out,a2,rfl,⟨by omega,g4⟩,h1⟩
end Go.Proofs.YtpkhodjlnodagaaGreatDoor
namespace Go.Proofs.YtpkhodjlnodagaaGreatDoor
open Go.Av
theorem L3(a b:Ev):B8 a b=true↔a.time<b.time∨(a.time=b.time∧(a.host<b.host∨(a.host=b.host∧(a.file<b.file∨(a.file=b.file∧a.frm<b.frm))))):=by
 unfold B8
 by_cases h1:a.time=b.time
 · by_cases h2:a.host=b.host
   · by_cases h3:a.file=b.file
     · simp[h1,h2,h3]
     · simp[h1,h2,h3]
   · simp[h1,h2]
 · simp[h1]
theorem MX{a b c:Ev}(h:B8 a b=true)(k:B8 b c=true):B8 a c=true:=by
 rw[L3]at*;omega
theorem Ob(l:List Ev)(e:Ev): ∀ i,i≤l.length→(∀ j (h:j<l.length),EJ l e i≤j→j<i→B8 e l[j]=true)∧(∀ m (h:m<l.length),EJ l e i=m+1→B8 e l[m]=false)
 |0,_=>⟨fun j h h1 h2=>absurd h2 (by omega),fun m h h1=>by simp[EJ]at h1⟩
 |i+1,hi=>by
   have hx:l[i]? =some l[i]:=List.getElem?_eq_getElem (by omega)
   obtain⟨IH1,IH2⟩:=Ob l e i (by omega)
   rw[EJ,hx]
   simp only
   split
   · next hl=>
     refine⟨fun j h h1 h2=>?_,IH2⟩
     by_cases hj:j=i
     · subst hj;exact hl
     · exact IH1 j h h1 (by omega)
   · next hl=>
     refine⟨fun j h h1 h2=>absurd h1 (by omega),fun m h h1=>?_⟩
     obtain rfl:i=m:=by omega
     simpa using hl
theorem Z5{l:List Ev}{e:Ev}(ha:Asc l)(ht: ∀ y∈l,B8 e y=true∨B8 y e=true):Asc (H1 l e):=by
 obtain⟨h1,h2⟩:=Ob l e l.length (Nat.le_refl _)
 have hle:=KS l e l.length
 unfold H1
 generalize EJ l e l.length=i at*
 have hlt: ∀ x∈l.take i,B8 x e=true:=by
   intro x hx
   obtain⟨j,hj,rfl⟩:=List.getElem_of_mem hx
   simp only[List.length_take]at hj
   rw[List.getElem_take]
   cases i with
   |zero=>omega
   |succ m=>
     have hm:m<l.length:=by omega
     have he:=h2 m hm rfl
     have hme:B8 l[m] e=true:=by
       rcases ht _ (List.getElem_mem hm)with h|h
       · rw[he]at h;simp at h
       · exact h
     by_cases hjm:j=m
     · subst hjm;exact hme
     · exact MX (List.pairwise_iff_getElem.1 ha j m (by omega) hm (by omega)) hme
 have hgt: ∀ x∈l.drop i,B8 e x=true:=by
   intro x hx
   obtain⟨j,hj,rfl⟩:=List.getElem_of_mem hx
   simp only[List.length_drop]at hj
   rw[List.getElem_drop]
   exact h1 (i+j) (by omega) (by omega) (by omega)
 unfold Asc at*
 rw[List.append_assoc,List.pairwise_append]
 refine⟨ha.sublist (List.take_sublist _ _),?_,?_⟩
 · simp only[List.singleton_append,List.pairwise_cons]
   exact⟨hgt,ha.sublist (List.drop_sublist _ _)⟩
 · intro x hx y hy
   simp only[List.singleton_append,List.mem_cons]at hy
   rcases hy with rfl|hy
   · exact hlt x hx
   · exact MX (hlt x hx) (hgt y hy)
theorem YB{l:List Ev}{e x:Ev}:x∈H1 l e↔x=e∨x∈l:=by
 unfold H1
 conv=>rhs;rhs;rw[← List.take_append_drop (EJ l e l.length) l]
 simp only[List.mem_append,List.mem_singleton]
 constructor
 · rintro((h|h)|h)<;>simp[h]
 · rintro(h|h|h)<;>simp[h]
theorem Yu(l:List Ev)(e:Ev):(H1 l e).length=l.length+1:=by
 have:=KS l e l.length
 unfold H1;simp;omega
end Go.Proofs.YtpkhodjlnodagaaGreatDoor
namespace Go.Proofs.YtpkhodjlnodagaaGreatDoor
open Go.Av
set_option maxHeartbeats 4000000
attribute [local irreducible] Af
def Bel(host file:Int)(l:List It)(k:Nat)(e:Ev):Prop:=
 e.host<host∨(e.host=host∧(e.file<file∨(e.file=file∧ ∀ j,k≤j→ ∀ x,l[j]? =some x→x.rule=[]→e.frm<x.ev.frm)))
theorem Bel.up{host file:Int}{l:List It}{k:Nat}{e:Ev}(h:Bel host file l k e):Bel host file l (k+1) e:=by
 rcases h with h|⟨h1,h|⟨h2,h⟩⟩
 · exact .inl h
 · exact .inr ⟨h1,.inl h⟩
 · exact .inr ⟨h1,.inr ⟨h2,fun j hj=>h j (by omega)⟩⟩
structure OutG(out:List Ev)(P:Ev→Prop):Prop where
 asc:Asc out
 ev: ∀ e∈out,DrE e∧P e
def Bef(host file:Int)(e:Ev):Prop:=e.host<host∨(e.host=host∧e.file<file)
theorem OutG.imp{out:List Ev}{P Q:Ev→Prop}(h:OutG out P)(hi: ∀ e,P e→Q e):OutG out Q:=⟨h.asc,fun e he=>⟨(h.ev e he).1,hi e (h.ev e he).2⟩⟩
theorem OutG.ins{out:List Ev}{host file:Int}{l:List It}{k:Nat}(h:OutG out (Bel host file l k))(hr:RowG host file l){x:It}(hx:l[k]? =some x)(hr0:x.rule=[]):OutG (H1 out x.ev) (Bel host file l (k+1)):=by
 obtain⟨hk,rfl⟩:=List.getElem?_eq_some_iff.1 hx
 have hg:=hr.each _ (List.getElem_mem hk) hr0
 refine⟨Z5 h.asc ?_,?_⟩
 · intro y hy
   have:=(h.ev y hy).2
   have hlt:y.host<l[k].ev.host∨(y.host=l[k].ev.host∧(y.file<l[k].ev.file∨(y.file=l[k].ev.file∧y.frm<l[k].ev.frm))):=by
     rcases this with h|⟨h1,h|⟨h2,h⟩⟩
     · left;omega
     · right;refine⟨by omega,.inl (by omega)⟩
     · right;exact⟨by omega,.inr ⟨by omega,h k (Nat.le_refl _) _ hx hr0⟩⟩
   rw[L3,L3]
   omega
 · intro e he
   rcases YB.1 he with rfl|he
   · refine⟨hg.1,.inr ⟨hg.2.1,.inr ⟨hg.2.2,fun j hj y hy hyr=>?_⟩⟩⟩
     obtain⟨hj2,rfl⟩:=List.getElem?_eq_some_iff.1 hy
     exact List.pairwise_iff_getElem.1 hr.asc k j hk hj2 (by omega) hr0 hyr
   · exact⟨(h.ev e he).1,(h.ev e he).2.up⟩
theorem X0(L:List UInt8)(hL:L.length≤2^20)(a:Nat)(ha:a≤L.length)(most:Nat)(hm:most≤6):
   GK Tryz.prog 19 [.ptr 0 2 0 0,I most] [some (cdE L a)] (fun x=> ∃ (out:List Ev) (a':Nat),x=(.sl 10 (evE out),[some (cdE L a')])∧(Asc out∧(∀ e∈out,DrE e)∧out.length≤36)∧a'≤L.length):=by
 refine GI 56 1 Tryz.func19 rfl rfl rfl (by simp) rfl rfl ?_
 refine C4 [0,1] ?_ noc [0]
 refine C4 [0,1,5] ?_ noc [0]
 refine C4 [0,1,5,6] ?_ noc [0]
 have hnil:OutG [] (Bef ((0+1:Nat):Int) 5):=⟨List.Pairwise.nil,fun e he=>by simp at he⟩
 refine Nw ?_
 refine lpX 1 (fun s:Nat×List Ev×Nat=>⟨[(0,.ptr 0 2 0 0),(1,I most),(5,.sl 10 (evE s.2.1)),(6,I (s.1+1:Nat))],[(0,some ⟨98,2,[[.sl 1 (Ab L),I s.2.2]]⟩)]⟩) (fun s=>s.1≤2∧s.2.1.length≤18*s.1∧s.2.2≤L.length∧OutG s.2.1 (Bef (s.1+1:Nat) 5)) (fun s=>2-s.1) (0,[],a) (Eb [some 0] []) ?_
 intro ⟨h,out,a1⟩ hI Y hY
 obtain⟨g1,g2,g3,g4⟩:=hI
 simp only at g1 g2 g3 g4
 obtain⟨v,a2,h1,h2,q1⟩:=A7 L hL a1 2 g3 (by omega) (by omega)
 have w1:=As (n:=1+(v:Int)) (by omega)
 by_cases hfv:h≤v
 · have d0:=OL (a:=((h+1:Nat):Int)) (b:=1+(v:Int)) (by omega)
   obtain⟨_,⟨fs,a3,rfl,⟨k1,k2⟩,k3⟩,q2⟩:=Ab1 L hL a2 h1 ((h+1:Nat):Int) most (by omega) hm
   simp only at q2
   have F:=And.intro d0 w1;refine Eu [0,1,5,6,14] ?_ (onc 2 (ocq 0 q1) noc) [0];clear F
   refine C4 [0,1,5,6,7] ?_ (onc 3 (ocq 0 q2) noc) [0]
   refine C4 [0,1,5,6,7,8] ?_ noc [0]
   clear q1 q2
   have hT: ∀ i,Bef ((h+1:Nat):Int) (5+(i+1:Nat))=Bef ((h+1:Nat):Int) (5+(i:Nat)+1):=by intro i;congr 1
   have g4':OutG out (Bef ((h+1:Nat):Int) (5+(0:Nat))):=g4
   refine Nw ?_
   refine lpX 2 (fun s:Nat×List Ev=>⟨[(0,.ptr 0 2 0 0),(1,I most),(5,.sl 10 (evE s.2)),(6,I (h+1:Nat)),(7,.osl 1 fs.length 1),(8,I s.1)],[(0,some ⟨98,2,[[.sl 1 (Ab L),I a3]]⟩),(1,some ⟨106,1,jjE fs⟩)]⟩) (fun s=>s.1≤fs.length∧s.2.length≤18*h+6*s.1∧OutG s.2 (Bef (h+1:Nat) (5+s.1))) (fun s=>fs.length-s.1) (0,out) (Eb [some 0,some 1] []) ?_
   intro ⟨i,o2⟩ hI2 Y2 hY2
   obtain⟨m1,m2,m3⟩:=hI2
   simp only at m1 m2 m3
   by_cases hi:i<fs.length
   · have hx:=List.getElem?_eq_getElem hi
     have hrow:=k2 i hi
     generalize fs[i]=l at*
     have hll:=hrow.len
     have hb0:OutG o2 (Bel ((h+1:Nat):Int) (5+i) l 0):=m3.imp (fun e he=>by
       rcases he with he|⟨e1,e2⟩
       · exact .inl he
       · exact .inr ⟨e1,.inl e2⟩)
     refine Gl [0,1,5,6,7,8,24] ?_ noc [0]
     refine C4 [0,1,5,6,7,8,9] ?_ noc [0]
     refine lpX 2 (fun s:Nat×List Ev=>⟨[(0,.ptr 0 2 0 0),(1,I most),(5,.sl 10 (evE s.2)),(6,I (h+1:Nat)),(7,.osl 1 fs.length 1),(8,I i),(9,I s.1)],[(0,some ⟨98,2,[[.sl 1 (Ab L),I a3]]⟩),(1,some ⟨106,1,jjE fs⟩)]⟩) (fun s=>s.1≤l.length∧s.2.length≤18*h+6*i+s.1∧OutG s.2 (Bel (h+1:Nat) (5+i) l s.1)) (fun s=>l.length-s.1) (0,o2) (Eb [some 0,some 1] []) ?_
     intro ⟨k,o3⟩ hI3 Y3 hY3
     obtain⟨n1,n2,n3⟩:=hI3
     simp only at n1 n2 n3
     by_cases hk2:k<l.length
     · have hy:=List.getElem?_eq_getElem hk2
       have hins:=fun h=>n3.ins hrow hy h
       generalize l[k]=x at*
       have F:=hx;refine Eu [0,1,5,6,7,8,9,33] ?_ noc [0];clear F
       rcases x with ⟨rl,e⟩
       cases rl with
       |nil=>
         have hi3:=hins rfl
         have q3:=Yi o3 e (by omega)
         have hil:=Yu o3 e
         simp only at hi3
         generalize H1 o3 e=o4 at*
         have F:=And.intro hx hy;refine Eu [0,1,5,6,7,8,9,44] ?_ noc [0];clear F
         have F:=And.intro hx hy;refine exFx [0,1,5,6,7,8,9] ?_ (onc 9 (pcq q3) noc) [0];clear F
         refine Gl [0,1,5,6,7,8,9] ?_ noc [0]
         refine eY hY3 ((k+1,o4)) (Eb [some 0,some 2] [1])
       |cons c rl=>
         have hup:OutG o3 (Bel ((h+1:Nat):Int) (5+i) l (k+1)):=n3.imp (fun e he=>he.up)
         have dc:((c::rl)==([]:List UInt8))=false:=rfl
         have F:=And.intro hx (And.intro hy dc);refine Eu [0,1,5,6,7,8,9,44] ?_ noc [0];clear F
         refine Gl [0,1,5,6,7,8,9] ?_ noc [0]
         refine eY hY3 ((k+1,o3)) (Eb [some 0,some 1] [])
     · have:k=l.length:=by omega
       subst this
       have hb:OutG o3 (Bef ((h+1:Nat):Int) (5+(i+1:Nat))):=n3.imp (fun e he=>by
         rcases he with he|⟨e1,e2|⟨e2,_⟩⟩
         · exact .inl he
         · exact .inr ⟨e1,by omega⟩
         · exact .inr ⟨e1,by omega⟩)
       have F:=hx;refine Eu [0,1,5,6,7,8,9,33] ?_ noc [0];clear F
       refine Gl [0,1,5,6,7,8] ?_ noc [0]
       refine eY hY2 ((i+1,o3)) (Eb [some 0,some 1] [])
   · have:i=fs.length:=by omega
     subst this
     have hb:OutG o2 (Bef ((h+1+1:Nat):Int) 5):=m3.imp (fun e he=>by
       rcases he with he|⟨e1,e2⟩
       · exact .inl (by omega)
       · exact .inl (by omega))
     refine Gl [0,1,5,6,7,8,24] ?_ noc [0]
     refine Gl [0,1,5,6] ?_ noc [0]
     refine eY hY ((h+1,o2,a3)) (Eb [some 0] [])
 · have d0:=Vh (a:=((h+1:Nat):Int)) (b:=1+(v:Int)) (by omega)
   have F:=And.intro d0 w1;refine Eu [0,1,5,6,14] ?_ (onc 2 (ocq 0 q1) noc) [0];clear F
   refine C4 [4] ?_ noc [0]
   refine EX.ret (.sl 10 (evE out)) [some (cdE L a2)] ?_ (fun C hN hk=>AW.ret (J6 [some 0] []))
   exact⟨out,a2,rfl,⟨g4.asc,fun e he=>(g4.ev e he).1,by omega⟩,h1⟩
end Go.Proofs.YtpkhodjlnodagaaGreatDoor
