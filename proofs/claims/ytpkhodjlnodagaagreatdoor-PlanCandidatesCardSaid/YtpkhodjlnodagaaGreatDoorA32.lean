/- Part 32 of the proof of PlanCandidates. -/
import Derived.Test.YtpkhodjlnodagaaGreatDoorA15
import Derived.Test.YtpkhodjlnodagaaGreatDoorA31
set_option linter.unusedSimpArgs false
set_option linter.unusedVariables false
set_option linter.unusedSectionVars false
namespace Go.Proofs.YtpkhodjlnodagaaGreatDoor
open Go.Av
set_option maxHeartbeats 4000000
set_option maxRecDepth 10000
attribute [local irreducible] XH XO Ad Af A0
theorem Pm(T:Nat)(b:List UInt8):A0 Tryz.prog 114 2 [I 0] (cuE T b false) (fun r e=>r= .tup []∧e=cuE T b false):=by
 all_goals refine D7 17 (fn:=Tryz.f114) Tryz.func114 rfl rfl rfl (by simp) rfl ?_
 refine Ae 0 ?_
 refine Ac 7 ?_
 refine BE 10 ?_
 refine Ac 7 ?_
 refine XO.done [] ?_
 refine XR.es ⟨rfl,?_⟩;rfl
theorem Ka(T:Nat)(d:List S)(R b:List UInt8)(hb:b=AF (AG d)++R)(hc:A6 d=0)(hp:d.Pairwise ltS)(hl:b.length≤2^40):A0 Tryz.prog 61 2 [] (cuE T b false) (fun r e=>r= .sl 1 (Ay d)∧e=cuE T R false):=by
 have hel:=Lb d hc d.length (Nat.le_refl _)
 all_goals refine D7 17 (fn:=Tryz.f61) Tryz.func61 rfl rfl rfl (by simp) rfl ?_
 refine Aa 0 [0] ?_
 refine Ae 1 ?_
 refine Ac 3 ?_
 refine BM 0 (Kn T (AG d) R b hb (by unfold AG;omega) hl) ?_;rintro _ _ ⟨rfl,rfl⟩
 refine AC (Wh d hc hp) ?_;rintro _ rfl
 refine Ac 5 ?_
 refine XO.done [0,3,4] ?_
 refine Ae 2 ?_
 refine Ac 2 ?_
 refine BM 0 (Pm T R) ?_;rintro _ _ ⟨rfl,rfl⟩
 refine XO.done [3] ?_
 refine Aa 3 [2] ?_
 refine Ap ?_;((refine GM ?_;simp[Ax,cuE,B]))
theorem Qo(T:Nat)(b:List UInt8):A0 Tryz.prog 62 2 [] (cuE T b false) (fun r e=>r=I 0∧e=cuE T b false):=by
 all_goals refine D7 8 (fn:=Tryz.f62) Tryz.func62 rfl rfl rfl (by simp) rfl ?_
 refine Aa 0 [0] ?_
 refine Aa 1 [7] ?_
 refine AM 7 ?_
 refine Aa 3 [2] ?_
 refine Ap ?_;((refine GM ?_;simp[Ax,cuE,B,I]))
theorem NT{bs:List UInt8}{c a z:Nat}{ss:List S}(V:SegV bs c a z ss)(q:Nat)(x:S)(hq:ss[q]? =some x):Af Tryz.prog 59 [.sl 1 (Ab bs),I (q+1:Nat)] [] (.tup [.ptr 0 2 0 0,I 0]) [some (cuE 122 x false)]:=by
 refine BB 19 0 Tryz.func59 ?_
 refine Aa 0 [0,1] ?_
 refine Ae 1 ?_
 refine Ac 2 ?_
 refine AC (OD V q x hq) ?_;rintro _ rfl
 refine Ac 5 ?_
 refine XO.done [6,7] ?_
 refine Aa 2 [4,5] ?_
 refine Ap ?_;((refine XB.ret [some 0] [] (hids:=⟨by simp[Al],by simp[Al],rfl⟩) (hwk:=?_) (hwh:=?_);(next=>simp[Ax,lk,lkh,wk,wkL,wkE,I]);(next=>simp[Am,Ai,Aj,lkh,wkE,wkL,wk,B,I,cuE])))
theorem Ug{l:List Int}(hp:Post l){i:Nat}{x y:Int}(h1:l[i]? =some x)(h2:l[i+1]? =some y):x<y:=by
 obtain⟨a1,rfl⟩:=List.getElem?_eq_some_iff.1 h1
 obtain⟨a2,rfl⟩:=List.getElem?_eq_some_iff.1 h2
 exact hp.asc i a2
theorem NB{l:List Int}(hp:Post l){x:Int}(hx:x∈l):0≤x∧x<4096:=by
 obtain⟨i,h,rfl⟩:=List.mem_iff_getElem.1 hx
 exact hp.rng i h
theorem Ae8(x:Int):Ad Tryz.prog 244 [I x] (fun r=>r=B (decide (x<0)||decide (x≥4096))):=by
 refine Au 9 Tryz.func244 ?_
 refine Aa 0 [0] ?_
 refine Ae 1 ?_
 refine Ac 3 ?_
 refine BV 5 (fun g5=>?_) (fun g5=>?_)
 any_goals(refine Ac 4 ?_;refine XO.done [2] ?_;refine Ap ?_;((refine Bc ?_;simp only[Ax,B];(simp[g5];done))))
theorem Aew(g:Nat)(p:Int→Bool)(l:List Int)(hl:l.length≤2^40)(h: ∀ x∈l,Ad Tryz.prog g [I x] (fun r=>r=B (p x))):Ad Tryz.prog 181 [.sl 1 (Ak l),fnV g] (fun r=>r=I (Gz p l)):=by
 refine Au 19 Tryz.func181 ?_
 refine Aa 0 [0,1] ?_
 refine Aa 1 [0,1,7,8] ?_
 refine AX 0 (fun i:Nat=>⟨[(0,.sl 1 (Ak l)),(1,fnV g),(7,I l.length),(8,I i)],[]⟩) (fun i=>i≤l.length∧ ∀ y∈l.take i,p y=false) (fun i=>l.length-i) 0 (AD (And.intro @Of fnV.eq_1) [] []) ?_ (h0:=by simp);rintro i hI0 Y0 hY0;skip
 refine XW.at 2 ?_;obtain⟨m1,m2⟩:=hI0
 refine Aa 2 [0,1,7,8,9] ?_
 refine Az 9 (fun c9=>?_) (fun c9=>?_)
 refine Aa 3 [0,1,5,7,8] ?_
 refine XW.at 4 ?_;obtain⟨x,hx,hxm⟩:=Bd l i (by omega)
 refine Ae 4 ?_
 refine Aq 5 ?_
 refine KM (h x hxm) ?_;rintro _ rfl
 refine XO.done [0,1,5,7,8,16] ?_
 refine By 16 (fun c16=>?_) (fun c16=>?_)
 refine XW.at 5 ?_;have hfin:=Lw m2 hx c16
 refine Bl 5 [4] ?_
 refine Ap ?_;((refine Bc ?_;rw[hfin];rfl))
 refine AJ 6 [0,1,7,8] ?_
 refine XH.le ?_;(exact hY0 (i+1) (⟨by omega,EA m2 hx c16⟩) (by first|omega|(simp;done)|(simp;omega)) _ _ (AD fnV.eq_1 [] []))
 refine XW.at 7 ?_;obtain rfl:i=l.length:=(by omega);rw[List.take_length]at m2;have hfin:=L7 m2
 refine Aa 7 [4] ?_
 refine Ap ?_;((refine Bc ?_;rw[hfin];rfl))
theorem AeF(g:Nat)(p:Int→Bool)(l:List Int)(hl:l.length≤2^40)(h: ∀ x∈l,Ad Tryz.prog g [I x] (fun r=>r=B (p x))):Ad Tryz.prog 118 [.sl 1 (Ak l),fnV g] (fun r=>r=B (l.any p)):=by
 refine Au 9 Tryz.func118 ?_
 refine Aa 0 [0,1] ?_
 refine Ae 1 ?_
 refine Ac 2 ?_
 refine AC (Aew g p l hl h) ?_;rintro _ rfl
 refine Ac 2 ?_
 refine XO.done [4] ?_
 refine Ap ?_;((refine Bc ?_;rw[← Jm];rfl))
theorem Za(l:List Int)(hp:Post l):Ad Tryz.prog 214 [.sl 1 (Ak l)] (fun r=>r=I 0):=by
 have hll:=hp.len
 have hcf:=AeF 244 (fun x=>decide (x<0)||decide (x≥4096)) l (by omega) (fun x _=>Ae8 x)
 have hcl:l.any (fun x=>decide (x<0)||decide (x≥4096))=false:=(by rw[List.any_eq_false];intro x hx;have:=NB hp hx;simp;omega)
 rw[hcl]at hcf
 refine Au 25 Tryz.func214 ?_
 refine Aa 0 [0] ?_
 refine Aa 1 [0,6] ?_
 refine Az 6 (fun c6=>?_) (fun c6=>?_)
 exfalso;omega
 refine Ae 3 ?_
 refine Ac 1 ?_
 refine AC (hcf) ?_;rintro _ rfl
 refine XO.done [0,8] ?_
 refine AM 8 ?_
 refine Aa 5 [0,3] ?_
 refine AX 0 (fun i:Nat=>⟨[(0,.sl 1 (Ak l)),(3,I i)],[]⟩) (fun i=>1≤i) (fun i=>l.length+1-i) 1 (HG [] []) ?_;rintro i hI0 Y0 hY0;skip
 refine Aa 6 [0,3,12] ?_
 refine Az 12 (fun c12=>?_) (fun c12=>?_)
 refine XW.at 8 ?_;obtain⟨x,hx,_⟩:=Bd l (i-1) (by omega);obtain⟨y,hx2,_⟩:=Bd l i (by omega);have ha:=Ug hp hx (show l[i-1+1]? =some y by rw[Nat.sub_add_cancel (by omega)];exact hx2);have hi1:((i:Int)-1).toNat=i-1:=(by omega)
 refine Ae 8 ?_
 refine Aq 4 ?_
 refine AP 3 ?_
 have hx:=hi1;have hx2:=(by assumption:l[i-1]? =some x)
 refine Aq 3 ?_
 refine XO.done [0,3,24] ?_
 refine Az 24 (fun c24=>?_) (fun c24=>?_)
 exfalso;omega
 refine AJ 7 [0,3] ?_
 refine XH.le ?_;(exact eY hY0 (i+1) (HG [] []))
 refine Aa 10 [2] ?_
 refine Ap ?_;(exact BT rfl)
def peH(l:List Int)(n:Nat):List UInt8:=(Bq l).drop (C3 l n).length
theorem MF(l:List Int)(n:Nat)(h:n≤2*Bp l):Bq l=C3 l n++peH l n:=by
 obtain⟨t,ht⟩:=KJ l n h
 rw[peH,ht,List.drop_left]
theorem AaC{l:List Int}{n:Nat}(h:n<2*Bp l):peH l n=An (Et l n)++peH l (n+1):=by
 have h1:=MF l n (by omega)
 have h2:=MF l (n+1) h
 rw[show C3 l (n+1)=C3 l n++An (Et l n)from rfl,List.append_assoc]at h2
 exact List.append_cancel_left (h1.symm.trans h2)
theorem AfJ(l:List Int):Bq l=An l.length++peH l 0:=MF l 0 (by omega)
theorem Af8(l:List Int):peH l (2*Bp l)=Ck l l.length:=by
 have h1:=MF l _ (Nat.le_refl _)
 have h2:=KQ l
 exact List.append_cancel_left (h1.symm.trans h2)
theorem WX(l:List Int)(hp:Post l)(n:Nat):(peH l n).length≤100000:=by
 have:=DA l hp
 rw[peH,List.length_drop];omega
theorem TW(l:List Int)(hp:Post l)(n:Nat)(h:n<2*Bp l):Et l n<16384:=by
 unfold Et
 have hnb:n / 2<Bp l:=by omega
 split
 · unfold F5
   have hl:=ER l (n / 2)
   have h0:32*(n / 2)<l.length:=by unfold Bp at hnb;omega
   obtain⟨h1,e1⟩:=Ft l (n / 2) ((AT l (n / 2)).length-1) (by omega)
   have:=hp.rng _ h1
   rw[show(AT l (n / 2)).getD ((AT l (n / 2)).length-1) 0=(AT l (n / 2))[(AT l (n / 2)).length-1]'(by omega) by simp[List.getD,show(AT l (n / 2)).length-1<(AT l (n / 2)).length by omega],e1]
   omega
 · have:=Jp l (n / 2);omega
def etC(p:Nat×Nat):List AV:=[I p.1,I p.2]
def etE(l:List (Nat×Nat)):List (List AV):=l.map etC
theorem Tw(l:List (Nat×Nat)):(etE l).length=l.length:=by simp[etE]
@[simp] theorem etE_id(k:Nat)(l:List (Nat×Nat)):AA k (etE l)=true:=by
 simp only[AA,etE,List.all_map,List.all_eq_true]
 intro x _
 rfl
theorem Aa2(L:List Nat)(l:List (Nat×Nat)):BK L (etE l)=etE l:=by
 simp only[BK,etE,List.map_map]
 apply List.map_congr_left
 intro x _
 rfl
@[simp] theorem Ah5:etE []=[]:=rfl
attribute [go_sem] Tw Aa2 etC
def etL(l:List Int)(j:Nat):List (Nat×Nat):=(List.range j).map fun k=>(Et l (2*k),Et l (2*k+1))
@[simp,go_sem] theorem Acj(l:List Int)(j:Nat):(etL l j).length=j:=by simp[etL]
theorem Agn(l:List Int)(j:Nat):etL l (j+1)=etL l j++[(Et l (2*j),Et l (2*j+1))]:=by simp[etL,List.range_succ]
def bdR(l:List Int)(i:Nat):List UInt8:=(Ck l l.length).drop (Ck l i).length
theorem TU(l:List Int)(i:Nat)(h:i≤l.length):Ck l l.length=Ck l i++bdR l i:=by
 obtain⟨t,ht⟩:=J0 l i (l.length-i)
 rw[show i+(l.length-i)=l.length by omega]at ht
 rw[bdR,ht,List.drop_left]
theorem Agr{l:List Int}{i:Nat}(h:i<l.length):bdR l i=An (g25 l i).toNat++bdR l (i+1):=by
 have h1:=TU l i (by omega)
 have h2:=TU l (i+1) h
 rw[show Ck l (i+1)=Ck l i++An (g25 l i).toNat from rfl,List.append_assoc]at h2
 exact List.append_cancel_left (h1.symm.trans h2)
theorem Afx(l:List Int):bdR l 0=Ck l l.length:=by simp[bdR,Ck]
theorem Ac8(l:List Int)(hp:Post l)(i:Nat):(bdR l i).length≤100000:=by
 have h1:=DA l hp
 have h2:=congrArg List.length (KQ l)
 simp only[List.length_append]at h2
 rw[bdR,List.length_drop];omega
def HP(l:List Int)(i:Nat):Int:=if i%32=0 then 0 else l.getD (i-1) 0
theorem AbN(l:List Int)(hp:Post l){i:Nat}{x:Int}(hx:l[i]? =some x):g25 l i=x-HP l i∧0≤x-HP l i∧x-HP l i<4096∧0≤HP l i∧HP l i<4096:=by
 have hxr:=NB hp (List.mem_of_getElem? hx)
 have e:l.getD i 0=x:=BC hx
 unfold g25 HP
 split
 · rw[e];omega
 · have hi:=(List.getElem?_eq_some_iff.1 hx).1
   have h1:l[i-1]? =some l[i-1]:=List.getElem?_eq_getElem (by omega)
   have h2:=Ug hp h1 (show l[i-1+1]? =some x by rw[Nat.sub_add_cancel (by omega)];exact hx)
   have h3:=NB hp (List.mem_of_getElem? h1)
   have e2:l.getD (i-1) 0=l[i-1]:=BC h1
   rw[e,e2]
   exact⟨rfl,by omega⟩
theorem AdS{l:List Int}{i:Nat}{x:Int}(hx:l[i]? =some x)(h: ¬ (i+1)%32=0):HP l (i+1)=x:=by
 unfold HP
 rw[if_neg h,Nat.add_sub_cancel];exact BC hx
theorem Ac0(l:List Int)(i:Nat){x:Int}(h:l[i]? =some x):l.take (i+1)=l.take i++[x]:=by rw[List.take_add_one,h];rfl
theorem U4(l:List Int)(hp:Post l):Ad Tryz.prog 174 [.sl 1 (Ab (Bq l))] (fun r=>r= .tup [I l.length,.sl 2 (etE (etL l (Bp l))),.sl 1 (Ab (Ck l l.length)),B true]):=by
 have hll:=hp.len
 have hel:=DA l hp
 have hnb:Bp l=(l.length+31) / 32:=rfl
 refine Au 49 Tryz.func174 ?_
 refine Aa 0 [0,3] ?_
 refine Ae 1 ?_
 refine Ac 1 ?_
 refine AC (On l.length (peH l 0) (Bq l) (AfJ l) (by omega) (by omega)) ?_;rintro _ rfl
 refine Ac 7 ?_
 refine XO.done [0,2,3,5] ?_
 refine Ae 2 ?_
 refine Ac 3 ?_
 refine BE 15 ?_
 refine Ac 3 ?_
 refine XO.done [0,2,3,18] ?_
 refine Az 18 (fun c18=>?_) (fun c18=>?_)
 exfalso;omega
 refine AX 1 (fun j:Nat=>⟨[(0,.sl 1 (Ab (peH l (2*j)))),(2,I l.length),(3,.osl 0 j 2)],[(0,some ⟨261,2,etE (etL l j)⟩)]⟩) (fun j=>j≤Bp l) (fun j=>Bp l-j) 0 (AD etL.eq_1 [none] []) ?_;rintro j hI0 Y0 hY0;skip
 refine AJ 4 [0,2,3,23] ?_
 refine Az 23 (fun c23=>?_) (fun c23=>?_)
 refine XW.at 5 ?_;have hes:etE (etL l (j+1))=etE (etL l j)++[[.val (.int .i64 (Et l (2*j):Nat)),.val (.int .i64 (Et l (2*j+1):Nat))]]:=(by rw[Agn];simp[etE,etC,I]);have h22:2*(j+1)=2*j+2:=(by omega)
 refine Aa 5 [0,2,3,6] ?_
 refine Ae 6 ?_
 refine Ac 1 ?_
 refine AC (On (Et l (2*j)) (peH l (2*j+1)) (peH l (2*j)) (AaC (by omega)) (TW l hp _ (by omega)) (by have:=WX l hp (2*j);omega)) ?_;rintro _ rfl
 refine Ac 8 ?_
 refine XO.done [0,2,3,5,6] ?_
 refine Aa 7 [0,2,3,6,32] ?_
 refine AM 32 ?_
 refine Ae 9 ?_
 refine Ac 1 ?_
 refine AC (On (Et l (2*j+1)) (peH l (2*j+2)) (peH l (2*j+1)) (AaC (by omega)) (TW l hp _ (by omega)) (by have:=WX l hp (2*j+1);omega)) ?_;rintro _ rfl
 refine Ac 8 ?_
 refine XO.done [0,2,3,5,6] ?_
 refine Aa 10 [0,2,3,6,41] ?_
 refine AM 41 ?_
 refine Aa 12 [0,2,3] ?_
 refine XH.le ?_;(exact eY hY0 (j+1) (Cy [some 0] [] (by simp[AR,lk,lkh,I,str,B,U8,U64,U32,hes,h22,AE,AO];first|done|omega) (by simp[Am,Ai,Aj,lkh,I,str,hes,h22,AE,AO])))
 refine XW.at 13 ?_;obtain rfl:j=Bp l:=(by omega)
 refine Aa 13 [2,3,4,5] ?_
 refine Ap ?_;(exact XP.ret [0] (.tup [I l.length,.sl 2 (etE (etL l (Bp l))),.sl 1 (Ab (Ck l l.length)),B true]) rfl (hwk:=by simp[Ax,lk,lkh,wkL,I,B,Tw,Acj,Af8,and_assoc]))
theorem WJ(l:List Int)(hp:Post l)(hE:Ad Tryz.prog 176 [.sl 1 (Ak l)] (fun r=>r= .tup [.sl 1 (Ab (Bq l)),I 0])):Ad Tryz.prog 116 [.sl 1 (Ab (Bq l))] (fun r=>r= .tup [.sl 1 (Ak l),I 0]):=by
 have hll:=hp.len
 have hel:=DA l hp
 have hnb:Bp l=(l.length+31) / 32:=rfl
 refine Au 70 Tryz.func116 ?_
 refine Aa 0 [0] ?_
 refine Ae 1 ?_
 refine Ac 1 ?_
 refine AC (U4 l hp) ?_;rintro _ rfl
 refine Ac 9 ?_
 refine XO.done [0,4,5,6,7] ?_
 refine Aa 2 [0,4,5,6,7,8] ?_
 refine Aa 3 [0,4,6,7,8,22,23] ?_
 refine AX 1 (fun j:Nat=>⟨[(0,.sl 1 (Ab (Bq l))),(4,I l.length),(6,.sl 1 (Ab (bdR l (min (32*j) l.length)))),(7,B true),(8,.osl 0 (min (32*j) l.length) 1),(22,I (Bp l)),(23,I j)],[(0,some ⟨3,1,Ak (l.take (min (32*j) l.length))⟩)]⟩) (fun j=>j≤Bp l) (fun j=>Bp l-j) 0 (AD (And.intro @Afx (And.intro @List.take_zero.{0} B.eq_1)) [none] []) ?_;rintro j hI0 Y0 hY0;skip
 refine Aa 4 [0,4,6,7,8,22,23,24] ?_
 refine Az 24 (fun c24=>?_) (fun c24=>?_)
 refine Aa 5 [0,4,6,7,8,9,22,23] ?_
 refine XW.at 6 ?_;have hmj:min (32*j) l.length=32*j:=(by omega)
 refine AJ 6 [0,4,6,7,8,9,10,22,23] ?_
 refine AX 1 (fun s:Nat×Int=>⟨[(0,.sl 1 (Ab (Bq l))),(4,I l.length),(6,.sl 1 (Ab (bdR l s.1))),(7,B true),(8,.osl 0 s.1 1),(9,I s.2),(10,I (min (32*j+32) l.length-s.1:Nat)),(22,I (Bp l)),(23,I j)],[(0,some ⟨3,1,Ak (l.take s.1)⟩)]⟩) (fun s=>32*j≤s.1∧s.1≤min (32*j+32) l.length∧s.1≤l.length∧(s.1<min (32*j+32) l.length→s.2=HP l s.1)) (fun s=>l.length-s.1) (32*j,0) (AD (And.intro hmj B.eq_1) [some 0] []) ?_ (h0:=⟨by simp,by simp only;omega,by simp only;omega,fun _=>by simp[HP]⟩);rintro⟨i,la⟩ hI1 Y1 hY1;skip
 refine XW.at 7 ?_;obtain⟨m1,m2,m3,m4⟩:=hI1;simp only at m1 m2 m3 m4
 refine Ae 7 ?_
 refine Ac 3 ?_
 refine BV 32 (fun g32=>?_) (fun g32=>?_)
 any_goals(refine Ac 2 ?_;refine XO.done [0,4,6,7,8,9,10,22,23,34] ?_;(first|refine Cd 34 ?_|refine AM 34 ?_))
 refine Aa 9 [0,4,6,8,9,10,22,23] ?_
 refine XW.at 10 ?_;obtain⟨x,hx,hxm⟩:=Bd l i (by omega);have hg:=AbN l hp hx;have hxi:=hx;have hts:=Ac0 l i hx;have hgi:(((g25 l i).toNat:Nat):Int)=x-HP l i:=(by omega);obtain rfl:=m4 (by omega);have hxs:HP l i+(x-HP l i)=x:=(by omega)
 refine Ae 10 ?_
 refine Aq 1 ?_
 refine AC (On (g25 l i).toNat (bdR l (i+1)) (bdR l i) (Agr (by omega)) (by omega) (by have:=Ac8 l hp i;omega)) ?_;rintro _ rfl
 refine Aq 7 ?_
 refine XO.done [0,4,6,7,8,9,10,11,22,23] ?_
 refine Aa 11 [0,4,6,7,8,9,10,11,22,23,43] ?_
 refine Cd 43 ?_
 refine XW.at 12 ?_;have hx:=hgi;have hx2:=hxs
 refine Ba 12 [0,4,6,7,8,9,10,22,23] ?_
 refine Aa 13 [0,4,6,7,8,9,10,22,23] ?_
 refine AJ 8 [0,4,6,7,8,9,10,22,23] ?_
 refine XH.le ?_;(exact hY1 (i+1,x) (⟨by simp only;omega,by simp only;omega,by simp only;omega,fun h=>(AdS hxi (by simp only at h;omega)).symm⟩) (by first|omega|(simp;done)|(simp;omega)) _ _ (AD (And.intro hts B.eq_1) [some 0] []))
 refine AJ 14 [0,4,6,7,8,22,23] ?_
 refine XH.le ?_;(have hij:i=min (32*(j+1)) l.length:=(by omega));(exact eY hY0 (j+1) (AD (And.intro hij B.eq_1) [some 0] []))
 refine XW.at 15 ?_;obtain rfl:j=Bp l:=(by omega);have hm32:min (32*Bp l) l.length=l.length:=(by omega);refine EG 15 0 ⟨[(0,.sl 1 (Ab (Bq l))),(7,B true),(8,.sl 1 (Ak l))],[]⟩ (AD (And.intro hm32 (And.intro @ED (And.intro @List.take_length.{0} B.eq_1))) [] [0]) ?_
 refine Ae 15 ?_
 refine Ac 1 ?_
 refine AC (hE) ?_;rintro _ rfl
 refine Ac 5 ?_
 refine XO.done [0,7,8,12,13] ?_
 refine Ae 16 ?_
 refine Ac 3 ?_
 refine BE 59 ?_
 refine Ac 4 ?_
 refine BE 63 ?_
 refine Ac 2 ?_
 refine AC (Gs _ _) ?_;rintro _ rfl
 refine Ac 2 ?_
 refine XO.done [8,68] ?_
 refine AM 68 ?_
 refine Aa 18 [2,3] ?_
 refine Ap ?_;(exact BT rfl)
section
variable {P : Program} {n k : Nat} {ops : Array Oper} {s0 s : AS} {G : Prop} {rem : List Oper} {ts : List Av.Touch}
theorem XJ{o:Oper}{g:FuncId}{xa:List AV}{r r':AV}{e e2:Ent}(q:Af P g xa [] r [some e,some e2])
   (h':XO P n ops s0 G (k+1) rem ⟨BR o.dst r' s.env,(n+8*k+1,some e2)::(n+8*k,some e)::s.hp⟩ ((k,[],[n+8*k,n+8*k+1])::ts)) (hr:ren (Bs [] (n+8*k)) r=r':=by(simp only[ren,BJ,Bs,List.length_nil,Nat.not_lt_zero,if_false,Nat.sub_zero,go_sem,seval];rfl)) (hei:AA 0 e.es=true:=by rfl) (hei2:AA 0 e2.es=true:=by rfl) (hcal:FI o=some g:=by rfl) (hgd:BI ops (lk s.env) o=some true:=by rfl)
   (ha:BU o (lk s.env)=xa:=by rfl) (hid:AE 0 xa=true:=by rfl):XO P n ops s0 G k (o::rem) s ts:=by
 have hx:CA P (Ao P) (some ⟨[],[],xa,r,[some e,some e2],[],none⟩) (n+8*k) (lk s.env) (lkh s.hp) o.op=some (Bf P g (BU o (lk s.env)) (lkh s.hp) (n+8*k) ⟨[],[],xa,r,[some e,some e2],[],none⟩):=by
   unfold FI at hcal
   split at hcal
   · rename_i c hop
     split at hcal
     · rename_i g' hcl
       simp only[Option.some.injEq]at hcal
       subst hcal
       simp only[CA,FM,Bj,hop,hcl,evA,BU]
     · simp at hcal
   · simp at hcal
 have hρ:(⟨[],[],xa,r,[some e,some e2],[],none⟩:Orc).ρ (n+8*k)=Bs [] (n+8*k):=rfl
 have hob:(Bf P g (BU o (lk s.env)) (lkh s.hp) (n+8*k) ⟨[],[],xa,r,[some e,some e2],[],none⟩).ob:=
   DR ⟨q,by rw[hρ,ha,CE _ _ hid];exact Cn _ _,by simp,trivial,by simp,by simp,trivial,trivial,hid⟩
 refine CU (orc:=fun _=>some ⟨[],[],xa,r,[some e,some e2],[],none⟩) 1 (by simp) (rem':=rem) rfl (s':=⟨BR o.dst r' s.env,(n+8*k+1,some e2)::(n+8*k,some e)::s.hp⟩) (ts':=(k,[],[n+8*k,n+8*k+1])::ts) (p:=True∧_) ?_ ⟨trivial,hob⟩ h'
 simp only[List.take_succ_cons,List.take_zero,Bt,hgd,hx]
 have e1:(Bf P g (BU o (lk s.env)) (lkh s.hp) (n+8*k) ⟨[],[],xa,r,[some e,some e2],[],none⟩).v=r':=by rw[Hg,hρ];exact hr
 have e0:Bs [] (n+8*k) 0=n+8*k:=by simp[Bs]
 have e0':Bs [] (n+8*k) (0+1)=n+8*k+1:=by simp[Bs]
 have e2h:(Bf P g (BU o (lk s.env)) (lkh s.hp) (n+8*k) ⟨[],[],xa,r,[some e,some e2],[],none⟩).hw=[(n+8*k,some e),(n+8*k+1,some e2)]:=by rw[H0,hρ];simp only[DM,Option.map_some,e0,e0',Cm _ hei,Cm _ hei2]
 have e3:(Bf P g (BU o (lk s.env)) (lkh s.hp) (n+8*k) ⟨[],[],xa,r,[some e,some e2],[],none⟩).hr=[]:=by rw[Jd];simp
 rw[e1,e2h]
 simp only[DF,e2h,e3]
 rfl
end
theorem Aab(es:List (List AV))(he:AA 0 es=true):Af Tryz.prog 216 [.sl 1 es,I 32] [] (.fn 245 0 [.ptr 0 1 0 0,.ptr 1 1 0 0]) [some ⟨43,1,[[.sl 1 es]]⟩,some ⟨3,1,[[I 32]]⟩]:=by
 refine BB 9 0 Tryz.func216 ?_
 refine Aa 0 [2,3] ?_
 refine Aa 1 [2,3,6] ?_
 refine AM 6 ?_
 refine Aa 3 [4] ?_
 refine Ap ?_;((refine XB.ret [some 0,some 1] [] (hids:=⟨by simp[Al],by simp[Al],rfl⟩) (hwk:=?_) (hwh:=?_);(next=>simp[Ax,lk,lkh,wk,wkL,wkE,I]);(next=>simp[Am,Ai,Aj,lkh,wkE,wkL,wk,B,I])))
@[go_sem] theorem AhT(l:List Int)(i:Nat):(Ak l).take i=Ak (l.take i):=by simp[Ak]
@[go_sem] theorem AhX(l:List Int)(i:Nat):(Ak l).drop i=Ak (l.drop i):=by simp[Ak]
abbrev ceH(l:List Int)(j:Nat):List (Nat×Option Ent):=[(0,some ⟨22,1,[[.osl 5 (Co l j).length 1]]⟩),(1,none),(2,some ⟨22,1,[[.osl 6 (B1 l j).length 1]]⟩),(3,some ⟨43,1,[[.sl 1 (Ak l)]]⟩),(4,some ⟨3,1,[[I 32]]⟩),(5,some ⟨5,1,Ab (Co l j)⟩),(6,some ⟨5,1,Ab (B1 l j)⟩)]
abbrev ceH'(l:List Int)(j:Nat):List (Nat×Option Ent):=[(0,some ⟨22,1,[[.osl 8 (Co l j).length 1]]⟩),(1,none),(2,some ⟨22,1,[[.osl 7 (B1 l j).length 1]]⟩),(3,some ⟨43,1,[[.sl 1 (Ak l)]]⟩),(4,some ⟨3,1,[[I 32]]⟩),(5,none),(6,none),(7,some ⟨5,1,Ab (B1 l j)⟩),(8,some ⟨5,1,Ab (Co l j)⟩)]
abbrev ceF(l:List Int):List (Option Ent):=[some ⟨22,1,[[.osl 5 (Co l (Bp l)).length 1]]⟩,none,some ⟨22,1,[[.osl 6 (B1 l (Bp l)).length 1]]⟩,some ⟨43,1,[[.sl 1 (Ak l)]]⟩,some ⟨3,1,[[I 32]]⟩,some ⟨5,1,Ab (Co l (Bp l))⟩,some ⟨5,1,Ab (B1 l (Bp l))⟩]
theorem Aff(l:List Int)(j:Nat):(if((l.drop (32*j)).length:Int)<32 then((l.drop (32*j)).length:Int)else 32)=((min 32 (l.length-32*j):Nat):Int):=by rw[List.length_drop];split<;>omega
theorem AbA(l:List Int)(j:Nat):(l.take (32*j+min 32 (l.length-32*j))).drop (32*j)=AT l j:=by
 unfold AT
 rcases Nat.le_total (32*j+32) l.length with h|h
 · rw[show 32*j+min 32 (l.length-32*j)=32*j+32 by omega]
 · rw[List.take_of_length_le (by omega),List.take_of_length_le (by omega)]
theorem Agq(l:List Int)(hp:Post l)(y0:Nat)(assign body:Code)(cenv:List (Nat×AV))(c:Code)(hcode:Tryz.f245.body=some c)(hB: ∀ j,j<Bp l→ ∃ nB sB,RD Tryz.prog 49 7 assign 7 ⟨E7 ([22].zip [.sl 1 (Ak (AT l j))]) cenv,ceH l j⟩ nB sB∧RD Tryz.prog 49 7 body nB sB 9 ⟨[],ceH' l (j+1)⟩): @XW ⟨some ⟨y0,49,lk cenv,#[22],assign,body⟩⟩ Tryz.prog 31 5 (fun x=>x=(.tup [],ceF l)) [] c [] 5 ⟨[(0,YV y0),(1,.ptr 3 1 0 0),(2,.ptr 4 1 0 0)],[(0,some ⟨22,1,[[.osl 1 (An l.length).length 1]]⟩),(1,some ⟨5,1,Ab (An l.length)⟩),(2,some ⟨22,1,[[.val (.slice none 0 0)]]⟩),(3,some ⟨43,1,[[.sl 1 (Ak l)]]⟩),(4,some ⟨3,1,[[I 32]]⟩)]⟩:=by
 have hll:=hp.len
 have hnb:Bp l=(l.length+31) / 32:=rfl
 letI Y:Yl:=⟨some ⟨y0,49,lk cenv,#[22],assign,body⟩⟩;obtain rfl:=Option.some.inj (show some _=some c from hcode);refine Qp ?_
 refine Ae 0 ?_
 refine Ac 1 ?_
 refine A4 [0,1,2,4] ?_
 refine AX 7 (fun j:Nat=>⟨[(0,YV y0),(1,.ptr 3 1 0 0),(2,.ptr 4 1 0 0),(4,I (32*j:Nat))],ceH l j⟩) (fun j=>j≤Bp l) (fun j=>Bp l-j) 0 (AD (And.intro (And.intro Co.eq_1 Co.eq_2) (And.intro (And.intro B1.eq_1 B1.eq_2) B.eq_1)) [some 0,some 1,some 2,some 3,some 4,some 1,none] []) ?_;rintro j hI0 Y0 hY0;skip
 refine Ae 1 ?_
 refine Ac 4 ?_
 refine A4 [0,1,2,4,9] ?_
 refine Az 9 (fun c9=>?_) (fun c9=>?_)
 refine XW.at 3 ?_;have hx:=Aff l j
 refine Ae 3 ?_
 refine AP 7 ?_
 refine A4 [0,1,2,4,5] ?_
 refine XW.at 4 ?_;obtain⟨nB,sB,hb1,hb2⟩:=hB j (by omega);rw[← AbA l j]at hb1;have hx:((32*j:Nat):Int)+((min 32 (l.length-32*j):Nat):Int)=((32*j+min 32 (l.length-32*j):Nat):Int):=(by omega)
 refine XOW.start 4 ?_
 refine Gh 9 [0,1,2,4,19,20,21,24,27] ?_
 refine XOW.raw [0,1,2,4,19,28] (Uw (x:= .tmp 20) (lo:= .tmp 21) (hi:= .tmp 24) (mx:= .tmp 27) (l:=32*j) (h:=32*j+min 32 (l.length-32*j)) (m:=32*j+min 32 (l.length-32*j)) (es:=Ak l) (BQ _) D43 T3 rfl rfl rfl rfl rfl (by omega) (by omega) (by rw[ED];omega)) ?_
 refine XOW.yield hb1 hb2 ?_
 refine Gh 1 [0,1,2,4,30] ?_
 refine XOW.done ?_
 refine AM 30 ?_
 refine Ae 2 ?_
 refine EW 4 ?_
 refine A4 [0,1,2,4] ?_
 refine XH.le ?_;(exact eY hY0 (j+1) (AD B.eq_1 [some 0,some 1,some 2,some 3,some 4,some 5,some 6] []))
 obtain rfl:j=Bp l:=(by omega);refine Ke [some 0,some 1,some 2,some 3,some 4,some 5,some 6] [] (hids:=⟨by simp[Al],by simp[Al],rfl⟩) (hwk:=by simp[Ax,lk,lkh,wk,wkL,wkE,I]) (hwh:=?_);simp[Am,Ai,Aj,lkh,wkE,wkL,wk,B,I]
theorem AeK{p:List Int}{k:Nat}{x:Int}(hx:p[k]? =some x):D1 p k=x- (if 0<k then p.getD (k-1) 0 else 0):=by
 unfold D1
 rw[BC hx]
 split<;>omega
theorem Yp{l:List Int}{j:Nat}(hp:Post l)(h:0<(AT l j).length):(AT l j).getD ((AT l j).length-1) 0=((F5 l j:Nat):Int)∧F5 l j<4096:=by
 obtain⟨h1,e1⟩:=Ft l j ((AT l j).length-1) (by omega)
 have:=hp.rng _ h1
 unfold F5
 rw[show(AT l j).getD ((AT l j).length-1) 0=(AT l j)[(AT l j).length-1]'(by omega) by simp[List.getD,show(AT l j).length-1<(AT l j).length by omega],e1]
 omega
theorem Xa(l:List Int)(hp:Post l):Ad Tryz.prog 176 [.sl 1 (Ak l)] (fun r=>r= .tup [.sl 1 (Ab (Bq l)),I 0]):=by
 have hll:=hp.len
 have hel:=DA l hp
 have hnb:Bp l=(l.length+31) / 32:=rfl
 refine Au 49 Tryz.func176 ?_
 refine Ae 0 ?_
 refine Ac 2 ?_
 refine A4 [0] ?_
 refine Ae 1 ?_
 refine Ac 1 ?_
 refine AC (Za l hp) ?_;rintro _ rfl
 refine Ac 1 ?_
 refine A4 [0,4] ?_
 refine Ae 2 ?_
 refine Ac 2 ?_
 refine A4 [0,4,15] ?_
 refine AM 15 ?_
 refine Ae 4 ?_
 refine Ac 2 ?_
 refine AaQ (Ya l.length (by omega)) ?_
 refine Ac 2 ?_
 refine A4 [0,5] ?_
 refine Ae 5 ?_
 refine Ac 1 ?_
 refine A4 [0,5,6] ?_
 refine Ae 6 ?_
 refine Ac 1 ?_
 refine XJ (Aab (Ak l) (by simp)) ?_
 refine A4 [5,6,21] ?_
 refine Qm (gf:=245) (j:=0) (cs:=[.ptr 3 1 0 0,.ptr 4 1 0 0]) (Ni:=31) (ceF l) Tryz.func245 rfl rfl rfl (by decide) rfl (fun l0=>Agq l hp l0 _ _ _ _ rfl ?_) ?_
 · intro j hj
   have hpn:=ER l j
   have hpl:0<(AT l j).length:=by omega
   have hhl:=IQ l j
   have hbl:=IL l j
   refine⟨7,⟨[(5,.ptr 0 1 0 0),(6,.ptr 2 1 0 0),(7,.sl 1 (Ak (AT l j)))],ceH l j⟩,Ju ?_,Ju ?_⟩
   · simp only[E7,List.zip_cons_cons,List.zip_nil_right]
     refine Aa 7 [5,6,7] ?_
     exact XH.rd ⟨[some 0,some 1,some 2,some 3,some 4,some 5,some 6],[],⟨by simp[Al],by simp[Al],by rfl⟩,by simp,by simp[AR,lk,lkh,I,str],by simp[Am,Ai,Aj,lkh,wkE,wkL,B,I]⟩
   · skip
     all_goals try refine Ae 8 ?_
     all_goals try refine Ac 4 ?_
     all_goals try refine A4 [5,6,7,8,9] ?_
     all_goals try refine Ae 9 ?_
     all_goals try refine Ac 3 ?_
     all_goals try refine A4 [5,6,8,9,25,26,27] ?_
     all_goals try(refine AX 8 (fun s:Nat×Int=>⟨[(5,.ptr 0 1 0 0),(6,.ptr 2 1 0 0),(8,I (B1 l j).length),(9,I s.2),(25,.sl 1 (Ak (AT l j))),(26,I (AT l j).length),(27,I s.1)],[(0,some ⟨22,1,[[.osl 5 (Co l j).length 1]]⟩),(1,none),(2,some ⟨22,1,[[.osl 7 (B1 l j++Di (AT l j) s.1).length 1]]⟩),(3,some ⟨43,1,[[.sl 1 (Ak l)]]⟩),(4,some ⟨3,1,[[I 32]]⟩),(5,some ⟨5,1,Ab (Co l j)⟩),(6,none),(7,some ⟨5,1,Ab (B1 l j++Di (AT l j) s.1)⟩)]⟩) (fun s=>s.1≤(AT l j).length∧s.2=(if 0<s.1 then(AT l j).getD (s.1-1) 0 else 0)) (fun s=>(AT l j).length-s.1) (0,0) (AD (And.intro (And.intro Di.eq_1 Di.eq_2) (And.intro (And.intro wkE.eq_1 wkE.eq_2) (And.intro (And.intro wkL.eq_1 wkL.eq_2) (And.intro @List.append_nil.{0} B.eq_1)))) [some 0,some 1,some 2,some 3,some 4,some 5,some 6,some 6] []) ?_ (h0:=⟨by simp,by simp⟩);rintro⟨k,la⟩ hI0 Y0 hY0;skip)
     all_goals try(refine XW.at 10 ?_;obtain⟨n1,n2⟩:=hI0;simp only at n1 n2;have hbk:=JQ (AT l j) k;have hlb:(B1 l j++Di (AT l j) k).length=(B1 l j).length+(Di (AT l j) k).length:=List.length_append)
     all_goals try refine Ae 10 ?_
     all_goals try refine Ac 1 ?_
     all_goals try refine A4 [5,6,8,9,25,26,27,28] ?_
     all_goals try first|refine Cd 28 ?_|refine AM 28 ?_|refine Az 28 (fun c28=>?_) (fun c28=>?_)|refine By 28 (fun c28=>?_) (fun c28=>?_)
     all_goals try(exfalso;omega)
     all_goals try(refine XW.at 11 ?_;obtain⟨x,hx,hxm⟩:=Bd (AT l j) k (by omega);have hgr:=Td l hp j k (by omega);have hga:=AeK hx;have hbs:Di (AT l j) (k+1)=Di (AT l j) k++An (D1 (AT l j) k).toNat:=rfl;rw[← n2]at hga;have hgt:x-la=(((D1 (AT l j) k).toNat:Nat):Int):=(by omega);have hvl:=Bh (D1 (AT l j) k).toNat;have hn2:(AT l j).getD k 0=x:=BC hx)
     all_goals try refine Ae 11 ?_
     all_goals try refine Aq 3 ?_
     all_goals try refine A4 [5,6,8,9,11,25,26,27] ?_
     all_goals try(refine XW.at 12 ?_;have hx:=hgt)
     all_goals try refine Ae 12 ?_
     all_goals try refine AP 4 ?_
     all_goals try(refine FJ 7 (Pr (B1 l j++Di (AT l j) k) (D1 (AT l j) k).toNat (by omega) (by omega)) ?_)
     all_goals try refine Aq 1 ?_
     all_goals try refine A4 [5,6,8,11,25,26,27] ?_
     all_goals try refine Ae 13 ?_
     all_goals try refine Ac 2 ?_
     all_goals try refine A4 [5,6,8,9,25,26,27] ?_
     all_goals try refine Ae 14 ?_
     all_goals try refine EW 2 ?_
     all_goals try refine A4 [5,6,8,9,25,26,27] ?_
     all_goals try(refine XH.le ?_;first|(exact hY0 (k+1,x) (⟨by simp only;omega,by simp only;rw[if_pos (by omega),Nat.add_sub_cancel,hn2]⟩) (by first|omega|(simp;done)|(simp;omega)) _ _ (AD (And.intro (And.intro wkE.eq_1 wkE.eq_2) (And.intro (And.intro wkL.eq_1 wkL.eq_2) (And.intro hbs (And.intro @List.append_assoc.{0} B.eq_1)))) [some 0,some 1,some 2,some 3,some 4,some 5,some 6,some 7] [])))
     all_goals try(refine XW.at 15 ?_;obtain rfl:k=(AT l j).length:=(by omega);have hlf:=Yp hp hpl;obtain⟨hlf1,hlf2⟩:=hlf;rw[if_pos hpl,hlf1]at n2;have hblk:Di (AT l j) (AT l j).length=GA l j:=rfl;have hx:=n2;have hx2:=hblk;have hvl1:=Bh (F5 l j);have hvl2:=Bh (GA l j).length;have hbf:=Jp l j;rw[hblk]at hlb)
     all_goals try refine Ae 15 ?_
     all_goals try refine Aq 2 ?_
     all_goals try(refine FJ 5 (Pr (Co l j) (F5 l j) (by omega) (by omega)) ?_)
     all_goals try refine Aq 3 ?_
     all_goals try(have hx:((B1 l j++GA l j).length:Int)- ((B1 l j).length:Int)=((GA l j).length:Int):=(by omega))
     all_goals try refine AP 1 ?_
     all_goals try(skip)
     all_goals try(refine FJ 24 (Pr (Co l j++An (F5 l j)) (GA l j).length (by omega) (by rw[List.length_append];omega)) ?_)
     all_goals try refine Aq 1 ?_
     all_goals try refine A4 [] ?_
     exact XH.rd ⟨[some 0,some 1,some 2,some 3,some 4,some 5,some 6,some 8,some 7],[],⟨by simp[Al],by simp[Al],by rfl⟩,by simp,by simp[AR,lk,lkh,I,str,Co,B1,List.append_assoc],by simp[Am,Ai,Aj,lkh,wkE,wkL,B,I,Co,B1,List.append_assoc]⟩
 simp only[ceF,List.zipIdx_cons,List.zipIdx_nil,List.map_cons,List.map_nil,List.length_cons,List.length_nil,Nat.reduceAdd,Nat.zero_add]
 refine XW.at 16 ?_;have hel2:(Co l (Bp l)).length+(B1 l (Bp l)).length≤100000:=(by rw[← List.length_append];exact hel)
 refine Ae 16 ?_
 refine Ac 5 ?_
 refine A4 [2,3] ?_
 refine Ap ?_;(exact Ff rfl (hm:=by rw[Cw,Bq,List.length_append]))
theorem Adt(l:List Int)(hp:Post l):Ad Tryz.prog 116 [.sl 1 (Ab (Bq l))] (fun r=>r= .tup [.sl 1 (Ak l),I 0]):=WJ l hp (Xa l hp)
theorem AcY(n:Nat)(h:n<2^64):AN .and .u64 (n:Int) 127=((n%128:Nat):Int):=by
 simp only[AN]
 have e:IntKind.u64.bits=64:=rfl
 rw[show(127:Int)=((127:Nat):Int)from rfl,BitVec.toNat_and,BitVec.ofInt_natCast,BitVec.ofInt_natCast,BitVec.toNat_ofNat,BitVec.toNat_ofNat,e,Nat.mod_eq_of_lt (by omega),Nat.mod_eq_of_lt (by decide)]
 rw[show(127:Nat)=2^7-1 from rfl,Nat.and_two_pow_sub_one_eq_mod]
 exact IntWalk.u64_in _ (by omega)
theorem XD(n:Nat):AN .or .u64 ((n%128:Nat):Int) 128=((n%128+128:Nat):Int):=by
 have h:=Nat.two_pow_add_eq_or_of_lt (i:=7) (b:=n%128) (by omega) 1
 have e:IntKind.u64.bits=64:=rfl
 simp only[AN]
 rw[show(128:Int)=((128:Nat):Int)from rfl,BitVec.toNat_or,BitVec.ofInt_natCast,BitVec.ofInt_natCast,BitVec.toNat_ofNat,BitVec.toNat_ofNat,e,Nat.mod_eq_of_lt (show n%128<2^64 by omega),Nat.mod_eq_of_lt (show 128<2^64 by decide),Nat.or_comm]
 rw[show 2^7*1=128 from rfl]at h
 rw[← h,Nat.add_comm]
 exact IntWalk.u64_in _ (by omega)
theorem Od(x:Int):Ad Tryz.prog 260 [I x] (fun r=>r=U64 (Dn x)):=by
 refine Au 10 Tryz.func260 ?_
 refine Aa 0 [0] ?_
 refine AJ 1 [2] ?_
 refine Ap ?_;((exact Bc rfl))
theorem Nk(v:Int):Ad Tryz.prog 246 [U64 v] (fun r=>r=I (HC v)):=by
 refine Au 11 Tryz.func246 ?_
 refine Aa 0 [0] ?_
 refine AJ 1 [2] ?_
 refine Ap ?_;((exact Bc rfl))
theorem MG(c:UInt8)(b:List UInt8)(hc:c.toNat<4):Ad Tryz.prog 177 [.sl 1 (Ab (c::b))] (fun r=>r= .tup [I c.toNat,B true]):=by
 have hb0:(c::b)[0]? =some c:=rfl
 have hcl:=c.toNat_lt
 refine Au 17 Tryz.func177 ?_
 refine Aa 0 [0] ?_
 refine XW.at 1 ?_;have hx:=hb0
 refine Ae 1 ?_
 refine Aq 4 ?_
 refine BE 7 ?_
 refine Aq 5 ?_
 refine XO.done [0,12] ?_
 refine Az 12 (fun c12=>?_) (fun c12=>?_)
 exfalso;omega
 refine XW.at 3 ?_;have hx:=hb0
 refine Ba 3 [2,3] ?_
 refine Ap ?_;((exact Bc rfl))
theorem Pn(b:List UInt8)(v:Nat)(hv:v<2^64)(hb:b.length≤2^45):D4 223 [U64 v] b (b++An v):=by
 unfold D4
 refine BB 21 1 Tryz.func223 ?_
 refine Aa 0 [0,1] ?_
 refine AX 2 (fun s:List UInt8×Nat=>⟨[(0,.osl 1 s.1.length 1),(1,U64 s.2)],[(0,none),(1,some ⟨5,1,Ab s.1⟩)]⟩) (fun s=>s.1++An s.2=b++An v∧s.2≤v) (fun s=>s.2) (b,v) (AD (And.intro @A3 @FH) [some 0,some 0] []) ?_ (h0:=⟨rfl,Nat.le_refl _⟩);rintro⟨out,w⟩ hI0 Y0 hY0;skip
 refine XW.at 1 ?_;obtain⟨m1,m2⟩:=hI0;simp only at m1 m2;have ml:=LH m1
 refine Aa 1 [0,1,6] ?_
 refine Az 6 (fun c6=>?_) (fun c6=>?_)
 refine XW.at 3 ?_;have hx:=AcY w (by omega);have hw128:w%128+128<256:=(by omega)
 refine Ae 3 ?_
 refine AP 3 ?_
 have hx:=XD w
 refine AP 1 ?_
 have hx:=XD w;have hx2:=u8w _ hw128
 refine AP 4 ?_
 refine XO.done [0,1] ?_
 refine XW.at 2 ?_;have hx:=sh7 w
 refine Ba 2 [0,1] ?_
 refine XH.le ?_;(exact hY0 (out++[UInt8.ofNat (w%128+128)],w / 128) (⟨LU m1 (by omega) (by omega),by simp only;omega⟩) (by simp only;omega) _ _ (AD (And.intro @Ej @A3) [some 0,some 1] []))
 refine XW.at 4 ?_;have hx:=u8w w (by omega);have hf:=Lg m1 (by omega)
 refine Ba 4 [4] ?_
 refine Ap ?_;((refine XB.ret [some 0,some 1] [] (hids:=⟨by simp[Al],by simp[Al],rfl⟩) (hwk:=?_) (hwh:=?_);(next=>simp[Ax,lk,lkh,wk,wkL,wkE,I,← hf]);(next=>simp[Am,Ai,Aj,lkh,Ej,A3,← hf])))
theorem Me(x:Int):Dn x=((Dn x).toNat:Int):=by have:=Gp x;omega
theorem Qu(b:List UInt8)(x:Int)(hb:b.length≤2^45):D4 223 [U64 (Dn x)] b (b++Be x):=by
 have hz:=Gp x
 have:=Pn b (Dn x).toNat (by omega) hb
 rwa [← Me]at this
theorem Ads{v:List Int}{i:Nat}{x:Int}(h:v[i]? =some x):Cq v i++Be x=Cq v (i+1):=by rw[Cq,BC h]
theorem YM{x:Int}(h:Ce x):IntKind.i64.wrap x=x:=by exact As h
def MB(v:List Int)(i:Nat):Int:=if i=0 then 0 else v.getD (i-1) 0
theorem Aeg{v:List Int}(hv: ∀ x∈v,Ce x){i:Nat}{x:Int}(h:v[i]? =some x):B3 v i++Be (IntKind.i64.wrap (x-MB v i))=B3 v (i+1):=by
 rw[B3]
 congr 2
 unfold EV MB
 by_cases h0:i=0
 · subst h0
   rw[if_pos rfl,if_neg (by omega),BC h,Int.sub_zero,YM (hv x (List.mem_of_getElem? h))]
 · rw[if_neg h0,if_pos (by omega),BC h]
theorem Acs{v:List Int}{i:Nat}{x:Int}(h:v[i]? =some x):MB v (i+1)=x:=by
 unfold MB
 rw[if_neg (by omega),Nat.add_sub_cancel,BC h]
theorem Ye(v:List Int)(hl:v.length≤16384):D4 249 [.sl 1 (Ak v)] (BD 0 v) (Cq v v.length):=by
 unfold D4
 refine BB 19 1 Tryz.func249 ?_
 refine Aa 0 [0,1] ?_
 refine Aa 1 [0,7,8,9] ?_
 refine AX 2 (fun i:Nat=>⟨[(0,.osl 1 (Cq v i).length 1),(7,.sl 1 (Ak v)),(8,I v.length),(9,I i)],[(0,none),(1,some ⟨5,1,Ab (Cq v i)⟩)]⟩) (fun i=>i≤v.length) (fun i=>v.length-i) 0 (AD (And.intro @A3 (And.intro Cq.eq_1 Cq.eq_2)) [some 0,some 0] []) ?_ (h0:=Nat.zero_le _);rintro i hI0 Y0 hY0;skip
 refine XW.at 2 ?_;have m1:=hI0;obtain hlt|hge:=Nat.lt_or_ge i v.length
 any_goals(refine Aa 2 [0,7,8,9,10] ?_;refine Az 10 (fun c10=>?_) (fun c10=>?_))
 any_goals(exfalso;omega)
 refine XW.at 3 ?_;(obtain⟨x,hx,hxm⟩:=Bd v i (by omega))
 refine Bl 3 [0,6,7,8,9] ?_
 refine Ae 4 ?_
 refine Ac 2 ?_
 refine AC (Od _) ?_;rintro _ rfl
 refine FJ 1 (Qu (Cq v i) _ (by have:=I9 v i;omega)) ?_
 refine Ac 1 ?_
 refine XO.done [0,7,8,9] ?_
 refine AJ 5 [0,7,8,9] ?_
 refine XH.le ?_;(exact hY0 (i+1) (by omega) (by omega) _ _ (AD (And.intro (Ads hx) @A3) [some 0,some 1] []))
 refine XW.at 6 ?_;have hi:i=v.length:=(by omega);subst hi
 refine Aa 6 [4] ?_
 refine Ap ?_;((refine XB.ret [some 0,some 1] [] (hids:=⟨by simp[Al],by simp[Al],rfl⟩) (hwk:=?_) (hwh:=?_);(next=>simp[Ax,lk,lkh,wk,wkL,wkE,I]);(next=>simp[Am,Ai,Aj,lkh,A3])))
theorem ZZ(v:List Int)(hl:v.length≤16384)(hv: ∀ x∈v,Ce x):D4 250 [.sl 1 (Ak v)] (BD 1 v) (B3 v v.length):=by
 unfold D4
 refine BB 23 1 Tryz.func250 ?_
 refine Aa 0 [0,1] ?_
 refine Aa 1 [0,1,5] ?_
 refine Aa 2 [0,5,8,9,10] ?_
 refine AX 2 (fun i:Nat=>⟨[(0,.osl 1 (B3 v i).length 1),(5,I (MB v i)),(8,.sl 1 (Ak v)),(9,I v.length),(10,I i)],[(0,none),(1,some ⟨5,1,Ab (B3 v i)⟩)]⟩) (fun i=>i≤v.length) (fun i=>v.length-i) 0 (AD (And.intro @A3 (And.intro (And.intro B3.eq_1 B3.eq_2) MB.eq_1)) [some 0,some 0] []) ?_ (h0:=Nat.zero_le _);rintro i hI0 Y0 hY0;skip
 refine XW.at 3 ?_;have m1:=hI0;obtain hlt|hge:=Nat.lt_or_ge i v.length
 any_goals(refine Aa 3 [0,5,8,9,10,11] ?_;refine Az 11 (fun c11=>?_) (fun c11=>?_))
 any_goals(exfalso;omega)
 refine XW.at 4 ?_;(obtain⟨x,hx,hxm⟩:=Bd v i (by omega))
 refine Bl 4 [0,5,7,8,9,10] ?_
 refine Ae 5 ?_
 refine EW 4 ?_
 refine AC (Od _) ?_;rintro _ rfl
 refine FJ 1 (Qu (B3 v i) _ (by have:=I2 v i;omega)) ?_
 refine Ac 1 ?_
 refine XO.done [0,7,8,9,10] ?_
 refine Aa 6 [0,5,8,9,10] ?_
 refine AJ 7 [0,5,8,9,10] ?_
 refine XH.le ?_;(exact hY0 (i+1) (by omega) (by omega) _ _ (AD (And.intro (Aeg hv hx) (And.intro (Acs hx) @A3)) [some 0,some 1] []))
 refine XW.at 8 ?_;have hi:i=v.length:=(by omega);subst hi
 refine Aa 8 [4] ?_
 refine Ap ?_;((refine XB.ret [some 0,some 1] [] (hids:=⟨by simp[Al],by simp[Al],rfl⟩) (hwk:=?_) (hwh:=?_);(next=>simp[Ax,lk,lkh,wk,wkL,wkE,I]);(next=>simp[Am,Ai,Aj,lkh,A3])))
theorem P1{v:List Int}{j:Nat}(hj:j≤v.length): ∀ (f i:Nat),v.length-i≤f→i<j→(∀ k,i≤k→k<j→v.getD k 0=v.getD i 0)→(j<v.length→v.getD j 0≠v.getD i 0)→C6 v f i=j-1
 |0,i,hf,hi,_,_=>by omega
 |f+1,i,hf,hi,ha,hn=>by
   rw[C6]
   by_cases h1:i+1=j
   · rw[if_neg]
     · omega
     · intro h;rw[h1]at h;exact hn h.1 h.2
   · have e:=ha (i+1) (by omega) (by omega)
     rw[if_pos ⟨by omega,e⟩]
     exact P1 hj f (i+1) (by omega) (by omega) (fun k h2 h3=>by rw[e];exact ha k (by omega) h3) (fun h=>by rw[e];exact hn h)
def RuI(v:List Int)(out:List UInt8)(i:Nat):Prop:=i≤v.length∧out.length≤12+i*22∧ ∃ f,v.length-i≤f∧out++ruG v f i=FA v
theorem RuI.z(v:List Int):RuI v (BD 2 v) 0:=⟨Nat.zero_le _,by have:=Fw 2 v;omega,v.length,by omega,rfl⟩
theorem RuI.s{v:List Int}{out:List UInt8}{i j:Nat}{x:Int}(h:RuI v out i)(hj:j≤v.length)(hi:i<j)(hx:v[i]? =some x)(ha: ∀ k,i≤k→k<j→v.getD k 0=v.getD i 0)(hn:j<v.length→v.getD j 0≠v.getD i 0):
   RuI v (out++Be x++An (j-i)) j:=by
 obtain⟨h1,h2,f,h3,h4⟩:=h
 refine⟨hj,?_,f-1,by omega,?_⟩
 · have:=CV x
   have:=Bh (j-i)
   simp only[List.length_append];omega
 · obtain⟨f,rfl⟩: ∃ g,f=g+1:=⟨f-1,by omega⟩
   rw[ruG,if_pos (by omega),P1 hj _ _ (by omega) hi ha hn,ha (j-1) (by omega) (by omega),BC hx,show j-1-i+1=j-i by omega,show j-1+1=j by omega]at h4
   rw[← h4,Nat.add_sub_cancel]
   simp only[List.append_assoc]
theorem RuI.e{v:List Int}{out:List UInt8}{i:Nat}(h:RuI v out i)(hi:v.length≤i):out=FA v:=by
 obtain⟨h1,h2,f,h3,h4⟩:=h
 rw[← h4]
 cases f with
 |zero=>simp[ruG]
 |succ f=>rw[ruG,if_neg (by omega)];simp
theorem Aga{v:List Int}{i j:Nat}{x y:Int}(h: ∀ k,i≤k→k<j→v.getD k 0=v.getD i 0)(hi:v[i]? =some x)(hj:v[j]? =some y)(he:y=x): ∀ k,i≤k→k<j+1→v.getD k 0=v.getD i 0:=by
 intro k h1 h2
 rcases Nat.lt_or_ge k j with h3|h3
 · exact h k h1 h3
 · obtain rfl:k=j:=by omega
   rw[BC hi,BC hj,he]
theorem AbK(v:List Int)(hl:v.length≤16384):D4 251 [.sl 1 (Ak v)] (BD 2 v) (FA v):=by
 unfold D4
 refine BB 42 1 Tryz.func251 ?_
 refine Aa 0 [0,1] ?_
 refine Aa 1 [0,1,5,6] ?_
 refine AX 2 (fun s:List UInt8×Nat=>⟨[(0,.osl 1 s.1.length 1),(1,.sl 1 (Ak v)),(5,I s.2),(6,I s.2)],[(0,none),(1,some ⟨5,1,Ab s.1⟩)]⟩) (fun s=>RuI v s.1 s.2) (fun s=>v.length-s.2) (BD 2 v,0) (AD @A3 [some 0,some 0] []) ?_ (h0:=RuI.z v);rintro⟨out,i⟩ hI0 Y0 hY0;skip
 refine XW.at 2 ?_;obtain⟨m1,m2,m3⟩:=hI0;simp only at m1 m2 m3
 refine Aa 2 [0,1,5,6,10] ?_
 refine Az 10 (fun c10=>?_) (fun c10=>?_)
 refine AX 2 (fun j:Nat=>⟨[(0,.osl 1 out.length 1),(1,.sl 1 (Ak v)),(5,I i),(6,I j)],[(0,none),(1,some ⟨5,1,Ab out⟩)]⟩) (fun j=>i≤j∧j≤v.length∧ ∀ k,i≤k→k<j→v.getD k 0=v.getD i 0) (fun j=>v.length-j) i (AD @A3 [some 0,some 1] []) ?_ (h0:=⟨Nat.le_refl _,by omega,fun k h1 h2=>by omega⟩);rintro j hI1 Y1 hY1;skip
 refine XW.at 4 ?_;obtain⟨n1,n2,n3⟩:=hI1;obtain⟨x,hxi,hxm⟩:=Bd v i (by omega);rcases Vk v j with ⟨y,hy,hlb⟩|hlb
 any_goals(refine Ae 4 ?_;refine Aq 5 ?_;refine BV 16 (fun g16=>?_) (fun g16=>?_))
 any_goals(exfalso;omega)
 any_goals refine Aq 2 ?_
 have hx:=hy;have hx2:=hxi
 any_goals(refine Aq 8 ?_;refine XO.done [0,1,5,6,26] ?_;(first|refine AM 26 ?_|refine Az 26 (fun c26=>?_) (fun c26=>?_)))
 refine AJ 5 [0,1,5,6] ?_
 refine XH.le ?_;(exact hY1 (j+1) (⟨by omega,by omega,Aga n3 hxi hy c26⟩) (by omega) _ _ (AD @A3 [some 0,some 1] []))
 any_goals(refine XW.at 6 ?_;have hij:i<j:=(by rcases Nat.lt_or_ge i j with h|h;exact h;exfalso;first|omega|(obtain rfl:i=j:=(by omega);rw[hxi]at hy;cases hy;first|exact c26 rfl|simp at c26));have hnj:j<v.length→v.getD j 0≠v.getD i 0:=(by intro h h2;first|omega|(rw[BC hy,BC hxi]at h2;exact c26 h2));have hcv:(j:Int)- (i:Int)=((j-i:Nat):Int):=(by omega);have hx:=hxi;have hx2:=hcv;refine Ae 6 ?_;refine Aq 5 ?_;refine AC (Od _) ?_;rintro _ rfl;refine FJ 1 (Qu out x (by omega)) ?_;refine AP 4 ?_;refine FJ 50 (Pn (out++Be x) (j-i) (by omega) (by rw[List.length_append];have:=CV x;omega)) ?_;refine Aq 1 ?_;refine XO.done [0,1,6] ?_;refine Aa 3 [0,1,5,6] ?_;refine XH.le ?_;(exact hY0 (out++Be x++An (j-i),j) (RuI.s ⟨m1,m2,m3⟩ (by omega) hij hxi n3 hnj) (by simp only;omega) _ _ (AD @A3 [some 0,some 1] [])))
 refine XW.at 7 ?_;have hfin:=RuI.e ⟨m1,m2,m3⟩ (by omega)
 refine Aa 7 [4] ?_
 refine Ap ?_;((refine XB.ret [some 0,some 1] [] (hids:=⟨by simp[Al],by simp[Al],rfl⟩) (hwk:=?_) (hwh:=?_);(next=>simp[Ax,lk,lkh,wk,wkL,wkE,I,hfin]);(next=>simp[Am,Ai,Aj,lkh,A3,hfin])))
theorem AfI{v:List Int}{x:Int}(h:v[0]? =some x):DG v 1=x:=by show(if v.getD 0 0<v.getD 0 0 then _ else v.getD 0 0)=x;rw[if_neg (by omega),BC h]
theorem AfT{v:List Int}{x:Int}(h:v[0]? =some x):B9 v 1=x:=by show(if v.getD 0 0>v.getD 0 0 then _ else v.getD 0 0)=x;rw[if_neg (by omega),BC h]
theorem Af6{v:List Int}{i:Nat}{x:Int}(h:v[i]? =some x):(if x<DG v i then x else DG v i)=DG v (i+1):=by rw[DG,BC h]
theorem Agj{v:List Int}{i:Nat}{x:Int}(h:v[i]? =some x):(if x>B9 v i then x else B9 v i)=B9 v (i+1):=by rw[B9,BC h]
theorem AdD(v:List Int)(h0:0<v.length)(hl:v.length≤2^40):Ad Tryz.prog 265 [.sl 1 (Ak v)] (fun r=>r=I (DG v v.length)):=by
 obtain⟨x0,hx0,_⟩:=Bd v 0 h0
 have hz:=AfI hx0
 refine Au 25 Tryz.func265 ?_
 refine Aa 0 [0] ?_
 refine Aa 1 [0,7] ?_
 refine Az 7 (fun c7=>?_) (fun c7=>?_)
 exfalso;omega
 refine XW.at 3 ?_;have hx:=hx0
 refine Bl 3 [0,3] ?_
 refine Aa 4 [0,3,4] ?_
 refine AX 0 (fun i:Nat=>⟨[(0,.sl 1 (Ak v)),(3,I (DG v i)),(4,I i)],[]⟩) (fun i=>1≤i∧i≤v.length) (fun i=>v.length-i) 1 (AD hz [] []) ?_ (h0:=⟨Nat.le_refl _,h0⟩);rintro i hI0 Y0 hY0;skip
 refine XW.at 5 ?_;obtain⟨m1,m2⟩:=hI0
 refine Aa 5 [0,3,4,15] ?_
 refine Az 15 (fun c15=>?_) (fun c15=>?_)
 refine XW.at 7 ?_;obtain⟨x,hx,hxm⟩:=Bd v i (by omega);have hs:=Af6 hx
 refine Bl 7 [0,3,4] ?_
 refine AJ 6 [0,3,4] ?_
 refine XH.le ?_;(exact eY hY0 (i+1) (AD (Eq.symm hs) [] []))
 refine XW.at 8 ?_;have hi:i=v.length:=(by omega);subst hi
 refine Aa 8 [2] ?_
 refine Ap ?_;(exact Bc rfl)
theorem Aet(v:List Int)(h0:0<v.length)(hl:v.length≤2^40):Ad Tryz.prog 266 [.sl 1 (Ak v)] (fun r=>r=I (B9 v v.length)):=by
 obtain⟨x0,hx0,_⟩:=Bd v 0 h0
 have hz:=AfT hx0
 refine Au 25 Tryz.func266 ?_
 refine Aa 0 [0] ?_
 refine Aa 1 [0,7] ?_
 refine Az 7 (fun c7=>?_) (fun c7=>?_)
 exfalso;omega
 refine XW.at 3 ?_;have hx:=hx0
 refine Bl 3 [0,3] ?_
 refine Aa 4 [0,3,4] ?_
 refine AX 0 (fun i:Nat=>⟨[(0,.sl 1 (Ak v)),(3,I (B9 v i)),(4,I i)],[]⟩) (fun i=>1≤i∧i≤v.length) (fun i=>v.length-i) 1 (AD hz [] []) ?_ (h0:=⟨Nat.le_refl _,h0⟩);rintro i hI0 Y0 hY0;skip
 refine XW.at 5 ?_;obtain⟨m1,m2⟩:=hI0
 refine Aa 5 [0,3,4,15] ?_
 refine Az 15 (fun c15=>?_) (fun c15=>?_)
 refine XW.at 7 ?_;obtain⟨x,hx,hxm⟩:=Bd v i (by omega);have hs:=Agj hx
 refine Bl 7 [0,3,4] ?_
 refine AJ 6 [0,3,4] ?_
 refine XH.le ?_;(exact eY hY0 (i+1) (AD (Eq.symm hs) [] []))
 refine XW.at 8 ?_;have hi:i=v.length:=(by omega);subst hi
 refine Aa 8 [2] ?_
 refine Ap ?_;(exact Bc rfl)
theorem V0(v:List Int)(h0:0<v.length)(hl:v.length≤2^40):Ad Tryz.prog 261 [.sl 1 (Ak v)] (fun r=>r= .tup [I (loF v),I (B9 v v.length),B true]):=by
 refine Au 12 Tryz.func261 ?_
 refine Aa 0 [0] ?_
 refine Aa 1 [0,7] ?_
 refine Az 7 (fun c7=>?_) (fun c7=>?_)
 exfalso;omega
 refine Ae 3 ?_
 refine Ac 1 ?_
 refine AC (AdD v h0 hl) ?_;rintro _ rfl
 refine Ac 1 ?_
 refine AC (Aet v h0 hl) ?_;rintro _ rfl
 refine Ac 3 ?_
 refine XO.done [2,3,4] ?_
 refine Ap ?_;(exact Bc rfl)
theorem Wp(x:Nat)(hx:x<2^64):Ad Tryz.prog 226 [U64 x] (fun r=>r=I (GF x)):=CL (TP x hx)
def nb8(d k p:Nat)(y:UInt8):Nat:=if d.testBit k then y.toNat ||| 2^(p%8)else y.toNat
theorem AgG(y:UInt8):AN .or .u8 (y.toNat:Int) 0=(y.toNat:Int):=by
 have h: ∀ x:Fin 256,AN .or .u8 ((x.val:Nat):Int) 0=((x.val:Nat):Int):=by decide+kernel
 exact h ⟨y.toNat,y.toNat_lt⟩
theorem AaJ(d k p:Nat)(y:UInt8):AN .or .u8 (y.toNat:Int) (IntKind.u8.wrap (((d / 2^k%2:Nat):Int)*2^min (p%8) 8))=((nb8 d k p y:Nat):Int)∧nb8 d k p y<256:=by
 unfold nb8
 have hy:=y.toNat_lt
 rw[Nat.testBit_eq_decide_div_mod_eq]
 rcases Nat.mod_two_eq_zero_or_one (d / 2^k)with h|h
 · rw[h,if_neg (by simp)]
   have e:IntKind.u8.wrap (((0:Nat):Int)*2^min (p%8) 8)=0:=by simp;decide
   rw[e]
   exact⟨AgG y,hy⟩
 · rw[h,if_pos (by simp)]
   exact Yn y.toNat (p%8) hy (by omega)
theorem Ago(d k:Nat)(hd:d<2^64)(hk:k≤64):IntKind.u8.wrap (AN .and .u64 ((d:Int).fdiv (2^min k 64)) 1)=((d / 2^k%2:Nat):Int):=by
 have hh:min k 64=min (k:Int).toNat 64:=by omega
 rw[hh,Aav d k hk,Ql _ (by have:=Nat.div_le_self d (2^k);omega),IU]
 omega
theorem Afm{d a k:Nat}{o:List UInt8}{y:UInt8}(h:(Dd d a k o)[(a+k) / 8]? =some y):(Ab (Dd d a k o)).set ((a+k) / 8) [.val (.int .u8 ((nb8 d k (a+k) y:Nat):Int))]=Ab (Dd d a (k+1) o):=by
 have hn:=(AaJ d k (a+k) y).2
 have e:[AV.val (.int .u8 ((nb8 d k (a+k) y:Nat):Int))]=FE (UInt8.ofNat (nb8 d k (a+k) y)):=by rw[FE,ofNat_toNat _ hn]
 rw[e,Ab,← List.map_set,Dd]
 show Ab _=_
 congr 1
 unfold nb8
 split
 · rw[Hh,BC h]
 · rw[UInt8.ofNat_toNat]
   obtain⟨hl,rfl⟩:=List.getElem?_eq_some_iff.1 h
   exact List.set_getElem_self hl
theorem VW(v:List Int)(h0:0<v.length)(hl:v.length≤16384):D4 252 [.sl 1 (Ak v)] (BD 3 v) (E6 v):=by
 unfold D4
 have hw:Bg v≤64:=HT _ (GQ _ _)
 have hw8:IntKind.u8.wrap ((Bg v:Nat):Int)=(((UInt8.ofNat (Bg v)).toNat:Nat):Int):=u8w _ (by omega)
 have hd3:=Fw 3 v
 have hpl:=CV (loF v)
 obtain⟨b1,hb1⟩: ∃ b1,b1=BD 3 v++Be (loF v)++[UInt8.ofNat (Bg v)]:=⟨_,rfl⟩
 have hb1l:b1.length≤40:=by rw[hb1];simp only[List.length_append,List.length_cons,List.length_nil];omega
 obtain⟨L,hL⟩: ∃ L,L=(v.length*Bg v+7) / 8:=⟨_,rfl⟩
 have hvw:v.length*Bg v≤16384*64:=Nat.mul_le_mul hl hw
 have hpk:E6 v=b1++Bz v (loF v) (Bg v) v.length:=by rw[E6,EL,if_neg (by omega),hb1];simp only[List.append_assoc]
 rw[hpk]
 have hlen: ∀ i,(Bz v (loF v) (Bg v) i).length=L:=fun i=>by rw[ET,hL]
 refine BB 86 1 Tryz.func252 ?_
 refine Aa 0 [0,1] ?_
 refine Ae 1 ?_
 refine Ac 1 ?_
 refine AC (V0 v h0 (by omega)) ?_;rintro _ rfl
 refine Ac 7 ?_
 refine XO.done [0,1,5,6,7] ?_
 refine Aa 2 [0,1,5,6,22] ?_
 refine AM 22 ?_
 refine XW.at 4 ?_;have hx:=Mk (loF v) (B9 v v.length)
 refine Ae 4 ?_
 refine AP 5 ?_
 refine AC (show Ad Tryz.prog 226 [U64 (dU (loF v) (B9 v v.length))] (fun r=>r=I (Bg v))from Wp _ (GQ _ _)) ?_;rintro _ rfl
 refine Aq 1 ?_
 refine XO.done [0,1,5,8] ?_
 refine XW.at 5 ?_;have hx:=hw8;have hx2:=Ej (BD 3 v++Be (loF v)) (UInt8.ofNat (Bg v))
 refine Ae 5 ?_
 refine Aq 2 ?_
 refine AC (Od _) ?_;rintro _ rfl
 refine FJ 0 (Qu (BD 3 v) (loF v) (by omega)) ?_
 refine AP 5 ?_
 refine XO.done [0,1,5,8] ?_
 refine XW.at 6 ?_;have hmw:(v.length:Int)*((Bg v:Nat):Int)=((v.length*Bg v:Nat):Int):=(by push_cast;rfl);have hq:(((v.length*Bg v:Nat):Int)+7).tdiv 8=((L:Nat):Int):=(by rw[Int.tdiv_eq_ediv_of_nonneg (by omega),hL];omega);have hx:=hmw;have hx2:=hq
 refine Ba 6 [0,1,5,8,9] ?_
 refine Aa 7 [0,5,8,9,45,46,47] ?_
 refine AX 3 (fun i:Nat=>⟨[(0,.osl 1 b1.length 1),(5,I (loF v)),(8,I (Bg v)),(9,.osl 2 L 1),(45,.sl 1 (Ak v)),(46,I v.length),(47,I i)],[(0,none),(1,some ⟨5,1,Ab b1⟩),(2,some ⟨5,1,Ab (Bz v (loF v) (Bg v) i)⟩)]⟩) (fun i=>i≤v.length) (fun i=>v.length-i) 0 (AD (And.intro @A3 (And.intro (And.intro Bz.eq_1 Bz.eq_2) (And.intro @rep0 (And.intro hL hb1)))) [some 0,some 1,some 2] []) ?_ (h0:=Nat.zero_le _);rintro i hI0 Y0 hY0;skip
 refine XW.at 8 ?_;have m1:=hI0
 refine Aa 8 [0,5,8,9,45,46,47,48] ?_
 refine Az 48 (fun c48=>?_) (fun c48=>?_)
 refine XW.at 9 ?_;obtain⟨x,hx,hxm⟩:=Bd v i (by omega);have hxi:=hx
 refine Bl 9 [0,5,8,9,10,11,45,46,47] ?_
 refine XW.at 10 ?_;have hx:=Mk (loF v) x
 refine Ba 10 [0,5,8,9,10,12,45,46,47] ?_
 refine Aa 11 [0,5,8,9,10,12,45,46,47,57,58] ?_
 refine AX 3 (fun k:Nat=>⟨[(0,.osl 1 b1.length 1),(5,I (loF v)),(8,I (Bg v)),(9,.osl 2 L 1),(10,I i),(12,U64 (dU (loF v) x)),(45,.sl 1 (Ak v)),(46,I v.length),(47,I i),(57,I (Bg v)),(58,I k)],[(0,none),(1,some ⟨5,1,Ab b1⟩),(2,some ⟨5,1,Ab (Dd (dU (loF v) x) (i*Bg v) k (Bz v (loF v) (Bg v) i))⟩)]⟩) (fun k=>k≤Bg v) (fun k=>Bg v-k) 0 (AD (And.intro (And.intro Dd.eq_1 Dd.eq_2) @A3) [some 0,some 1,some 2] []) ?_ (h0:=Nat.zero_le _);rintro k hI1 Y1 hY1;skip
 refine XW.at 12 ?_;have n1:=hI1
 refine Aa 12 [0,5,8,9,10,12,45,46,47,57,58,59] ?_
 refine Az 59 (fun c59=>?_) (fun c59=>?_)
 refine Aa 13 [0,5,8,9,10,12,13,45,46,47,57,58] ?_
 refine XW.at 14 ?_;have hik:(i+1)*Bg v≤v.length*Bg v:=Nat.mul_le_mul_right _ (by omega);rw[Nat.succ_mul]at hik;obtain⟨p,hp⟩: ∃ p,p=i*Bg v+k:=⟨_,rfl⟩;have hx:(i:Int)*((Bg v:Nat):Int)=((i*Bg v:Nat):Int):=(by push_cast;rfl);have hx2:((i*Bg v:Nat):Int)+(k:Int)=((p:Nat):Int):=(by omega)
 refine Ba 14 [0,5,8,9,10,12,13,14,45,46,47,57,58] ?_
 refine XW.at 15 ?_;have hkl:(Dd (dU (loF v) x) (i*Bg v) k (Bz v (loF v) (Bg v) i)).length=L:=(by rw[Ig,hlen]);obtain⟨y,hy,hym⟩:=Bd (Dd (dU (loF v) x) (i*Bg v) k (Bz v (loF v) (Bg v) i)) (p / 8) (by rw[hkl];omega);have hset:=Afm (y:=y) (by rw[← hp];exact hy);rw[← hp]at hset;have hq8:((p:Nat):Int).tdiv 8=((p / 8:Nat):Int):=(by rw[Int.tdiv_eq_ediv_of_nonneg (by omega)];omega);have hr8:((p:Nat):Int).tmod 8=((p%8:Nat):Int):=(by rw[Int.tmod_eq_emod_of_nonneg (by omega)];omega)
 refine Ae 15 ?_
 refine Aq 2 ?_
 have hx:=hq8;have hx2:=hy
 refine AP 5 ?_
 have hx:=Ago (dU (loF v) x) k (GQ _ _) (by omega)
 refine AP 4 ?_
 have hx:=hr8
 refine AP 1 ?_
 have hx:=(AaJ (dU (loF v) x) k p y).1
 refine AP 4 ?_
 refine XO.done [0,5,8,9,10,12,45,46,47,57,58] ?_
 refine AJ 16 [0,5,8,9,10,12,45,46,47,57,58] ?_
 refine XH.le ?_;(exact hY1 (k+1) (by omega) (by omega) _ _ (AD (And.intro hset (And.intro @A3 @M6)) [some 0,some 1,some 2] []))
 refine XW.at 17 ?_;have hk:k=Bg v:=(by omega);have hst:(Dd (dU (loF v) x) (i*Bg v) k (Bz v (loF v) (Bg v) i))=Bz v (loF v) (Bg v) (i+1):=(by rw[Bz,BC hxi,hk])
 refine Ba 17 [0,5,8,9,45,46,47] ?_
 refine XH.le ?_;(exact hY0 (i+1) (by omega) (by omega) _ _ (AD (And.intro hst @A3) [some 0,some 1,some 2] []))
 refine XW.at 18 ?_;have hi:i=v.length:=(by omega);subst hi
 refine Aa 18 [4] ?_
 refine Ap ?_;((refine XB.ret [some 0,some 1] [] (hids:=⟨by simp[Al],by simp[Al],rfl⟩) (hwk:=?_) (hwh:=?_);(next=>simp[Ax,lk,lkh,wk,wkL,wkE,I]);(next=>simp[Am,Ai,Aj,lkh,A3])))
end Go.Proofs.YtpkhodjlnodagaaGreatDoor
