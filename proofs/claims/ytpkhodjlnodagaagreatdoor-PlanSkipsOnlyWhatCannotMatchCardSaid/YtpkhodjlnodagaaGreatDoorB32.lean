/- Part 32 of the proof of PlanSkipsOnlyWhatCannotMatch. -/
import Derived.Test.YtpkhodjlnodagaaGreatDoorB15
import Derived.Test.YtpkhodjlnodagaaGreatDoorB31
set_option linter.unusedSimpArgs false
set_option linter.unusedVariables false
set_option linter.unusedSectionVars false
namespace Go.Proofs.YtpkhodjlnodagaaGreatDoor
open Go.Av
set_option maxHeartbeats 4000000
set_option maxRecDepth 10000
attribute [local irreducible] XH XO Ae Ad AU
theorem PJ(T:Nat)(b:List UInt8):AU Tryz.prog 114 2 [I 0] (cuE T b false) (fun r e=>r= .tup []∧e=cuE T b false):=by
 all_goals refine Eb 17 (fn:=Tryz.f114) Tryz.func114 rfl rfl rfl sP rfl ?_
 refine Ah 0 ?_
 refine Ac 7 ?_
 refine BQ 10 ?_
 refine Ac 7 ?_
 refine XO.done [] ?_
 refine XR.es ⟨rfl,?_⟩;rfl
theorem Ko(T:Nat)(d:List S)(R b:List UInt8)(hb:b=AE (AM d)++R)(hc:Bb d=0)(hp:d.Pairwise ltS)(hl:b.length≤2^40):AU Tryz.prog 61 2 [] (cuE T b false) (fun r e=>r= .sl 1 (Au d)∧e=cuE T R false):=by
 have hel:=Lb d hc d.length (Nat.le_refl _)
 all_goals refine Eb 17 (fn:=Tryz.f61) Tryz.func61 rfl rfl rfl sP rfl ?_
 refine Aa 0 [0] ?_
 refine Ah 1 ?_
 refine Ac 3 ?_
 refine BW 0 (Kv T (AM d) R b hb (by unfold AM;omega) hl) ?_;rintro _ _ ⟨rfl,rfl⟩
 refine AG (XA d hc hp) ?_;rintro _ rfl
 refine Ac 5 ?_
 refine XO.done [0,3,4] ?_
 refine Ah 2 ?_
 refine Ac 2 ?_
 refine BW 0 (PJ T R) ?_;rintro _ _ ⟨rfl,rfl⟩
 refine XO.done [3] ?_
 refine Aa 3 [2] ?_
 refine Aq ?_;((refine G4 ?_;simp[Az,cuE,B]))
theorem QL(T:Nat)(b:List UInt8):AU Tryz.prog 62 2 [] (cuE T b false) (fun r e=>r=I 0∧e=cuE T b false):=by
 all_goals refine Eb 8 (fn:=Tryz.f62) Tryz.func62 rfl rfl rfl sP rfl ?_
 refine Aa 0 [0] ?_
 refine Aa 1 [7] ?_
 refine A3 7 ?_
 refine Aa 3 [2] ?_
 refine Aq ?_;((refine G4 ?_;simp[Az,cuE,B,I]))
theorem O7{bs:List UInt8}{c a z:Nat}{ss:List S}(V:SegV bs c a z ss)(q:Nat)(x:S)(hq:ss[q]? =some x):Ad Tryz.prog 59 [.sl 1 (Ab bs),I (q+1:Nat)] [] (.tup [.ptr 0 2 0 0,I 0]) [some (cuE 122 x false)]:=by
 refine BD 19 0 Tryz.func59 ?_
 refine Aa 0 [0,1] ?_
 refine Ah 1 ?_
 refine Ac 2 ?_
 refine AG (O6 V q x hq) ?_;rintro _ rfl
 refine Ac 5 ?_
 refine XO.done [6,7] ?_
 refine Aa 2 [4,5] ?_
 refine Aq ?_;((refine XB.ret [some 0] [] (hids:=⟨by simp[Al],by simp[Al],rfl⟩) (hwk:=?_) (hwh:=?_);(next=>simp[Az,lk,lkh,wk,wkL,wkE,I]);(next=>simp[Am,Ai,Ak,lkh,wkE,wkL,wk,B,I,cuE])))
theorem Vm{l:List Int}(hp:Post l){i:Nat}{x y:Int}(h1:l[i]? =some x)(h2:l[i+1]? =some y):x<y:=by
 obtain⟨a1,rfl⟩:=List.getElem?_eq_some_iff.1 h1
 obtain⟨a2,rfl⟩:=List.getElem?_eq_some_iff.1 h2
 exact hp.asc i a2
theorem NW{l:List Int}(hp:Post l){x:Int}(hx:x∈l):0≤x∧x<4096:=by
 obtain⟨i,h,rfl⟩:=List.mem_iff_getElem.1 hx
 exact hp.rng i h
theorem AeQ(x:Int):Ae Tryz.prog 244 [I x] (fun r=>r=B (decide (x<0)||decide (x≥4096))):=by
 refine Ax 9 Tryz.func244 ?_
 refine Aa 0 [0] ?_
 refine Ah 1 ?_
 refine Ac 3 ?_
 refine Cn 5 (fun g5=>?_) (fun g5=>?_)
 any_goals(refine Ac 4 ?_;refine XO.done [2] ?_;refine Aq ?_;((refine Bo ?_;simp only[Az,B];(simp[g5];done))))
theorem Aew(g:Nat)(p:Int→Bool)(l:List Int)(hl:l.length≤2^40)(h: ∀ x∈l,Ae Tryz.prog g [I x] (fun r=>r=B (p x))):Ae Tryz.prog 181 [.sl 1 (An l),fnV g] (fun r=>r=I (GN p l)):=by
 refine Ax 19 Tryz.func181 ?_
 refine Aa 0 [0,1] ?_
 refine Aa 1 [0,1,7,8] ?_
 refine A8 0 (fun i:Nat=>⟨[(0,.sl 1 (An l)),(1,fnV g),(7,I l.length),(8,I i)],[]⟩) (fun i=>i≤l.length∧ ∀ y∈l.take i,p y=false) (fun i=>l.length-i) 0 (AO (And.intro @Pe fnV.eq_1) [] []) ?_ (h0:=by simp);rintro i hI0 Y0 hY0;skip
 refine XW.at 2 ?_;obtain⟨m1,m2⟩:=hI0
 refine Aa 2 [0,1,7,8,9] ?_
 refine AC 9 (fun c9=>?_) (fun c9=>?_)
 refine Aa 3 [0,1,5,7,8] ?_
 refine XW.at 4 ?_;obtain⟨x,hx,hxm⟩:=Bm l i oM
 refine Ah 4 ?_
 refine Aw 5 ?_
 refine Le (h x hxm) ?_;rintro _ rfl
 refine XO.done [0,1,5,7,8,16] ?_
 refine Bx 16 (fun c16=>?_) (fun c16=>?_)
 refine XW.at 5 ?_;have hfin:=Ml m2 hx c16
 refine BJ 5 [4] ?_
 refine Aq ?_;((refine Bo ?_;rw[hfin];rfl))
 refine AQ 6 [0,1,7,8] ?_
 refine XH.le ?_;(exact hY0 (i+1) (⟨oM,F4 m2 hx c16⟩) (by first|omega|(simp;done)|(simp;omega)) _ _ (AO fnV.eq_1 [] []))
 refine XW.at 7 ?_;obtain rfl:i=l.length:=oM;rw[List.take_length]at m2;have hfin:=Mj m2
 refine Aa 7 [4] ?_
 refine Aq ?_;((refine Bo ?_;rw[hfin];rfl))
theorem Afm(g:Nat)(p:Int→Bool)(l:List Int)(hl:l.length≤2^40)(h: ∀ x∈l,Ae Tryz.prog g [I x] (fun r=>r=B (p x))):Ae Tryz.prog 118 [.sl 1 (An l),fnV g] (fun r=>r=B (l.any p)):=by
 refine Ax 9 Tryz.func118 ?_
 refine Aa 0 [0,1] ?_
 refine Ah 1 ?_
 refine Ac 2 ?_
 refine AG (Aew g p l hl h) ?_;rintro _ rfl
 refine Ac 2 ?_
 refine XO.done [4] ?_
 refine Aq ?_;((refine Bo ?_;rw[← Jt];rfl))
theorem Z6(l:List Int)(hp:Post l):Ae Tryz.prog 214 [.sl 1 (An l)] (fun r=>r=I 0):=by
 have hll:=hp.len
 have hcf:=Afm 244 (fun x=>decide (x<0)||decide (x≥4096)) l oM (fun x _=>AeQ x)
 have hcl:l.any (fun x=>decide (x<0)||decide (x≥4096))=false:=(by rw[List.any_eq_false];intro x hx;have:=NW hp hx;simp;omega)
 rw[hcl]at hcf
 refine Ax 25 Tryz.func214 ?_
 refine Aa 0 [0] ?_
 refine Aa 1 [0,6] ?_
 refine AC 6 (fun c6=>?_) (fun c6=>?_)
 exfalso;omega
 refine Ah 3 ?_
 refine Ac 1 ?_
 refine AG (hcf) ?_;rintro _ rfl
 refine XO.done [0,8] ?_
 refine A3 8 ?_
 refine Aa 5 [0,3] ?_
 refine A8 0 (fun i:Nat=>⟨[(0,.sl 1 (An l)),(3,I i)],[]⟩) (fun i=>1≤i) (fun i=>l.length+1-i) 1 (E7 [] []) ?_;rintro i hI0 Y0 hY0;skip
 refine Aa 6 [0,3,12] ?_
 refine AC 12 (fun c12=>?_) (fun c12=>?_)
 refine XW.at 8 ?_;obtain⟨x,hx,_⟩:=Bm l (i-1) oM;obtain⟨y,hx2,_⟩:=Bm l i oM;have ha:=Vm hp hx (show l[i-1+1]? =some y by rw[Nat.sub_add_cancel oM];exact hx2);have hi1:((i:Int)-1).toNat=i-1:=oM
 refine Ah 8 ?_
 refine Aw 4 ?_
 refine A2 3 ?_
 have hx:=hi1;have hx2:=(by assumption:l[i-1]? =some x)
 refine Aw 3 ?_
 refine XO.done [0,3,24] ?_
 refine AC 24 (fun c24=>?_) (fun c24=>?_)
 exfalso;omega
 refine AQ 7 [0,3] ?_
 refine XH.le ?_;(exact eY hY0 (i+1) (E7 [] []))
 refine Aa 10 [2] ?_
 refine Aq ?_;(exact Bi rfl)
def peH(l:List Int)(n:Nat):List UInt8:=(Bt l).drop (C8 l n).length
theorem MS(l:List Int)(n:Nat)(h:n≤2*Br l):Bt l=C8 l n++peH l n:=by
 obtain⟨t,ht⟩:=KE l n h
 rw[peH,ht,List.drop_left]
theorem AbA{l:List Int}{n:Nat}(h:n<2*Br l):peH l n=Ap (ED l n)++peH l (n+1):=by
 have h1:=MS l n oM
 have h2:=MS l (n+1) h
 rw[show C8 l (n+1)=C8 l n++Ap (ED l n)from rfl,List.append_assoc]at h2
 exact List.append_cancel_left (h1.symm.trans h2)
theorem AhX(l:List Int):Bt l=Ap l.length++peH l 0:=MS l 0 oM
theorem AgB(l:List Int):peH l (2*Br l)=Co l l.length:=by
 have h1:=MS l _ (Nat.le_refl _)
 have h2:=K1 l
 exact List.append_cancel_left (h1.symm.trans h2)
theorem XM(l:List Int)(hp:Post l)(n:Nat):(peH l n).length≤100000:=by
 have:=DE l hp
 rw[peH,List.length_drop];omega
theorem Vj(l:List Int)(hp:Post l)(n:Nat)(h:n<2*Br l):ED l n<16384:=by
 unfold ED
 have hnb:n / 2<Br l:=by omega
 split
 · unfold Gb
   have hl:=E0 l (n / 2)
   have h0:32*(n / 2)<l.length:=by unfold Br at hnb;omega
   obtain⟨h1,e1⟩:=FD l (n / 2) ((AT l (n / 2)).length-1) oM
   have:=hp.rng _ h1
   rw[show(AT l (n / 2)).getD ((AT l (n / 2)).length-1) 0=(AT l (n / 2))[(AT l (n / 2)).length-1]'oM by simp[List.getD,show(AT l (n / 2)).length-1<(AT l (n / 2)).length by omega],e1]
   omega
 · have:=Ju l (n / 2);omega
def etC(p:Nat×Nat):List AV:=[I p.1,I p.2]
def etE(l:List (Nat×Nat)):List (List AV):=l.map etC
theorem Uf(l:List (Nat×Nat)):(etE l).length=l.length:=by simp[etE]
@[simp] theorem etE_id(k:Nat)(l:List (Nat×Nat)):AB k (etE l)=true:=by
 simp only[AB,etE,List.all_map,List.all_eq_true]
 intro x _
 rfl
theorem AcM(L:List Nat)(l:List (Nat×Nat)):BF L (etE l)=etE l:=by
 simp only[BF,etE,List.map_map]
 apply List.map_congr_left
 intro x _
 rfl
@[simp] theorem AiQ:etE []=[]:=rfl
attribute [go_sem] Uf AcM etC
def etL(l:List Int)(j:Nat):List (Nat×Nat):=(List.range j).map fun k=>(ED l (2*k),ED l (2*k+1))
@[simp,go_sem] theorem Acp(l:List Int)(j:Nat):(etL l j).length=j:=by simp[etL]
theorem AgT(l:List Int)(j:Nat):etL l (j+1)=etL l j++[(ED l (2*j),ED l (2*j+1))]:=by simp[etL,List.range_succ]
def bdR(l:List Int)(i:Nat):List UInt8:=(Co l l.length).drop (Co l i).length
theorem T6(l:List Int)(i:Nat)(h:i≤l.length):Co l l.length=Co l i++bdR l i:=by
 obtain⟨t,ht⟩:=Ki l i (l.length-i)
 rw[show i+(l.length-i)=l.length by omega]at ht
 rw[bdR,ht,List.drop_left]
theorem AhM{l:List Int}{i:Nat}(h:i<l.length):bdR l i=Ap (g25 l i).toNat++bdR l (i+1):=by
 have h1:=T6 l i oM
 have h2:=T6 l (i+1) h
 rw[show Co l (i+1)=Co l i++Ap (g25 l i).toNat from rfl,List.append_assoc]at h2
 exact List.append_cancel_left (h1.symm.trans h2)
theorem AgY(l:List Int):bdR l 0=Co l l.length:=by simp[bdR,Co]
theorem AeB(l:List Int)(hp:Post l)(i:Nat):(bdR l i).length≤100000:=by
 have h1:=DE l hp
 have h2:=congrArg List.length (K1 l)
 simp only[List.length_append]at h2
 rw[bdR,List.length_drop];omega
def HZ(l:List Int)(i:Nat):Int:=if i%32=0 then 0 else l.getD (i-1) 0
theorem Acb(l:List Int)(hp:Post l){i:Nat}{x:Int}(hx:l[i]? =some x):g25 l i=x-HZ l i∧0≤x-HZ l i∧x-HZ l i<4096∧0≤HZ l i∧HZ l i<4096:=by
 have hxr:=NW hp (List.mem_of_getElem? hx)
 have e:l.getD i 0=x:=Bz hx
 unfold g25 HZ
 split
 · rw[e];omega
 · have hi:=(List.getElem?_eq_some_iff.1 hx).1
   have h1:l[i-1]? =some l[i-1]:=List.getElem?_eq_getElem oM
   have h2:=Vm hp h1 (show l[i-1+1]? =some x by rw[Nat.sub_add_cancel oM];exact hx)
   have h3:=NW hp (List.mem_of_getElem? h1)
   have e2:l.getD (i-1) 0=l[i-1]:=Bz h1
   rw[e,e2]
   exact⟨rfl,oM⟩
theorem AfT{l:List Int}{i:Nat}{x:Int}(hx:l[i]? =some x)(h: ¬ (i+1)%32=0):HZ l (i+1)=x:=by
 unfold HZ
 rw[if_neg h,Nat.add_sub_cancel];exact Bz hx
theorem Adi(l:List Int)(i:Nat){x:Int}(h:l[i]? =some x):l.take (i+1)=l.take i++[x]:=by rw[List.take_add_one,h];rfl
theorem V7(l:List Int)(hp:Post l):Ae Tryz.prog 174 [.sl 1 (Ab (Bt l))] (fun r=>r= .tup [I l.length,.sl 2 (etE (etL l (Br l))),.sl 1 (Ab (Co l l.length)),B true]):=by
 have hll:=hp.len
 have hel:=DE l hp
 have hnb:Br l=(l.length+31) / 32:=rfl
 refine Ax 49 Tryz.func174 ?_
 refine Aa 0 [0,3] ?_
 refine Ah 1 ?_
 refine Ac 1 ?_
 refine AG (OG l.length (peH l 0) (Bt l) (AhX l) oM oM) ?_;rintro _ rfl
 refine Ac 7 ?_
 refine XO.done [0,2,3,5] ?_
 refine Ah 2 ?_
 refine Ac 3 ?_
 refine BQ 15 ?_
 refine Ac 3 ?_
 refine XO.done [0,2,3,18] ?_
 refine AC 18 (fun c18=>?_) (fun c18=>?_)
 exfalso;omega
 refine A8 1 (fun j:Nat=>⟨[(0,.sl 1 (Ab (peH l (2*j)))),(2,I l.length),(3,.osl 0 j 2)],[(0,some ⟨261,2,etE (etL l j)⟩)]⟩) (fun j=>j≤Br l) (fun j=>Br l-j) 0 (AO etL.eq_1 [none] []) ?_;rintro j hI0 Y0 hY0;skip
 refine AQ 4 [0,2,3,23] ?_
 refine AC 23 (fun c23=>?_) (fun c23=>?_)
 refine XW.at 5 ?_;have hes:etE (etL l (j+1))=etE (etL l j)++[[.val (.int .i64 (ED l (2*j):Nat)),.val (.int .i64 (ED l (2*j+1):Nat))]]:=(by rw[AgT];simp[etE,etC,I]);have h22:2*(j+1)=2*j+2:=oM
 refine Aa 5 [0,2,3,6] ?_
 refine Ah 6 ?_
 refine Ac 1 ?_
 refine AG (OG (ED l (2*j)) (peH l (2*j+1)) (peH l (2*j)) (AbA oM) (Vj l hp _ oM) (by have:=XM l hp (2*j);omega)) ?_;rintro _ rfl
 refine Ac 8 ?_
 refine XO.done [0,2,3,5,6] ?_
 refine Aa 7 [0,2,3,6,32] ?_
 refine A3 32 ?_
 refine Ah 9 ?_
 refine Ac 1 ?_
 refine AG (OG (ED l (2*j+1)) (peH l (2*j+2)) (peH l (2*j+1)) (AbA oM) (Vj l hp _ oM) (by have:=XM l hp (2*j+1);omega)) ?_;rintro _ rfl
 refine Ac 8 ?_
 refine XO.done [0,2,3,5,6] ?_
 refine Aa 10 [0,2,3,6,41] ?_
 refine A3 41 ?_
 refine Aa 12 [0,2,3] ?_
 refine XH.le ?_;(exact eY hY0 (j+1) (CL [some 0] [] (by simp[AK,lk,lkh,I,str,B,U8,U64,U32,hes,h22,AF,AN];first|done|omega) (by simp[Am,Ai,Ak,lkh,I,str,hes,h22,AF,AN])))
 refine XW.at 13 ?_;obtain rfl:j=Br l:=oM
 refine Aa 13 [2,3,4,5] ?_
 refine Aq ?_;(exact XP.ret [0] (.tup [I l.length,.sl 2 (etE (etL l (Br l))),.sl 1 (Ab (Co l l.length)),B true]) rfl (hwk:=by simp[Az,lk,lkh,wkL,I,B,Uf,Acp,AgB,and_assoc]))
theorem Yv(l:List Int)(hp:Post l)(hE:Ae Tryz.prog 176 [.sl 1 (An l)] (fun r=>r= .tup [.sl 1 (Ab (Bt l)),I 0])):Ae Tryz.prog 116 [.sl 1 (Ab (Bt l))] (fun r=>r= .tup [.sl 1 (An l),I 0]):=by
 have hll:=hp.len
 have hel:=DE l hp
 have hnb:Br l=(l.length+31) / 32:=rfl
 refine Ax 70 Tryz.func116 ?_
 refine Aa 0 [0] ?_
 refine Ah 1 ?_
 refine Ac 1 ?_
 refine AG (V7 l hp) ?_;rintro _ rfl
 refine Ac 9 ?_
 refine XO.done [0,4,5,6,7] ?_
 refine Aa 2 [0,4,5,6,7,8] ?_
 refine Aa 3 [0,4,6,7,8,22,23] ?_
 refine A8 1 (fun j:Nat=>⟨[(0,.sl 1 (Ab (Bt l))),(4,I l.length),(6,.sl 1 (Ab (bdR l (min (32*j) l.length)))),(7,B true),(8,.osl 0 (min (32*j) l.length) 1),(22,I (Br l)),(23,I j)],[(0,some ⟨3,1,An (l.take (min (32*j) l.length))⟩)]⟩) (fun j=>j≤Br l) (fun j=>Br l-j) 0 (AO (And.intro @AgY (And.intro @List.take_zero.{0} B.eq_1)) [none] []) ?_;rintro j hI0 Y0 hY0;skip
 refine Aa 4 [0,4,6,7,8,22,23,24] ?_
 refine AC 24 (fun c24=>?_) (fun c24=>?_)
 refine Aa 5 [0,4,6,7,8,9,22,23] ?_
 refine XW.at 6 ?_;have hmj:min (32*j) l.length=32*j:=oM
 refine AQ 6 [0,4,6,7,8,9,10,22,23] ?_
 refine A8 1 (fun s:Nat×Int=>⟨[(0,.sl 1 (Ab (Bt l))),(4,I l.length),(6,.sl 1 (Ab (bdR l s.1))),(7,B true),(8,.osl 0 s.1 1),(9,I s.2),(10,I (min (32*j+32) l.length-s.1:Nat)),(22,I (Br l)),(23,I j)],[(0,some ⟨3,1,An (l.take s.1)⟩)]⟩) (fun s=>32*j≤s.1∧s.1≤min (32*j+32) l.length∧s.1≤l.length∧(s.1<min (32*j+32) l.length→s.2=HZ l s.1)) (fun s=>l.length-s.1) (32*j,0) (AO (And.intro hmj B.eq_1) [some 0] []) ?_ (h0:=⟨sP,by simp only;omega,by simp only;omega,fun _=>by simp[HZ]⟩);rintro⟨i,la⟩ hI1 Y1 hY1;skip
 refine XW.at 7 ?_;obtain⟨m1,m2,m3,m4⟩:=hI1;simp only at m1 m2 m3 m4
 refine Ah 7 ?_
 refine Ac 3 ?_
 refine Cn 32 (fun g32=>?_) (fun g32=>?_)
 any_goals(refine Ac 2 ?_;refine XO.done [0,4,6,7,8,9,10,22,23,34] ?_;(first|refine CF 34 ?_|refine A3 34 ?_))
 refine Aa 9 [0,4,6,8,9,10,22,23] ?_
 refine XW.at 10 ?_;obtain⟨x,hx,hxm⟩:=Bm l i oM;have hg:=Acb l hp hx;have hxi:=hx;have hts:=Adi l i hx;have hgi:(((g25 l i).toNat:Nat):Int)=x-HZ l i:=oM;obtain rfl:=m4 oM;have hxs:HZ l i+(x-HZ l i)=x:=oM
 refine Ah 10 ?_
 refine Aw 1 ?_
 refine AG (OG (g25 l i).toNat (bdR l (i+1)) (bdR l i) (AhM oM) oM (by have:=AeB l hp i;omega)) ?_;rintro _ rfl
 refine Aw 7 ?_
 refine XO.done [0,4,6,7,8,9,10,11,22,23] ?_
 refine Aa 11 [0,4,6,7,8,9,10,11,22,23,43] ?_
 refine CF 43 ?_
 refine XW.at 12 ?_;have hx:=hgi;have hx2:=hxs
 refine A4 12 [0,4,6,7,8,9,10,22,23] ?_
 refine Aa 13 [0,4,6,7,8,9,10,22,23] ?_
 refine AQ 8 [0,4,6,7,8,9,10,22,23] ?_
 refine XH.le ?_;(exact hY1 (i+1,x) (⟨by simp only;omega,by simp only;omega,by simp only;omega,fun h=>(AfT hxi (by simp only at h;omega)).symm⟩) (by first|omega|(simp;done)|(simp;omega)) _ _ (AO (And.intro hts B.eq_1) [some 0] []))
 refine AQ 14 [0,4,6,7,8,22,23] ?_
 refine XH.le ?_;(have hij:i=min (32*(j+1)) l.length:=oM);(exact eY hY0 (j+1) (AO (And.intro hij B.eq_1) [some 0] []))
 refine XW.at 15 ?_;obtain rfl:j=Br l:=oM;have hm32:min (32*Br l) l.length=l.length:=oM;refine Fq 15 0 ⟨[(0,.sl 1 (Ab (Bt l))),(7,B true),(8,.sl 1 (An l))],[]⟩ (AO (And.intro hm32 (And.intro @EL (And.intro @List.take_length.{0} B.eq_1))) [] [0]) ?_
 refine Ah 15 ?_
 refine Ac 1 ?_
 refine AG (hE) ?_;rintro _ rfl
 refine Ac 5 ?_
 refine XO.done [0,7,8,12,13] ?_
 refine Ah 16 ?_
 refine Ac 3 ?_
 refine BQ 59 ?_
 refine Ac 4 ?_
 refine BQ 63 ?_
 refine Ac 2 ?_
 refine AG (GC _ _) ?_;rintro _ rfl
 refine Ac 2 ?_
 refine XO.done [8,68] ?_
 refine A3 68 ?_
 refine Aa 18 [2,3] ?_
 refine Aq ?_;(exact Bi rfl)
section
variable {P : Program} {n k : Nat} {ops : Array Oper} {s0 s : AS} {G : Prop} {rem : List Oper} {ts : List Av.Touch}
theorem X4{o:Oper}{g:FuncId}{xa:List AV}{r r':AV}{e e2:Ent}(q:Ad P g xa [] r [some e,some e2])
   (h':XO P n ops s0 G (k+1) rem ⟨BV o.dst r' s.env,(n+8*k+1,some e2)::(n+8*k,some e)::s.hp⟩ ((k,[],[n+8*k,n+8*k+1])::ts)) (hr:ren (Bu [] (n+8*k)) r=r':=by(simp only[ren,BK,Bu,List.length_nil,Nat.not_lt_zero,if_false,Nat.sub_zero,go_sem,seval];rfl)) (hei:AB 0 e.es=true:=by rfl) (hei2:AB 0 e2.es=true:=by rfl) (hcal:FB o=some g:=by rfl) (hgd:BM ops (lk s.env) o=some true:=by rfl)
   (ha:BX o (lk s.env)=xa:=by rfl) (hid:AF 0 xa=true:=by rfl):XO P n ops s0 G k (o::rem) s ts:=by
 have hx:CG P (Ao P) (some ⟨[],[],xa,r,[some e,some e2],[],none⟩) (n+8*k) (lk s.env) (lkh s.hp) o.op=some (Bd P g (BX o (lk s.env)) (lkh s.hp) (n+8*k) ⟨[],[],xa,r,[some e,some e2],[],none⟩):=by
   unfold FB at hcal
   split at hcal
   · rename_i c hop
     split at hcal
     · rename_i g' hcl
       simp only[Option.some.injEq]at hcal
       subst hcal
       simp only[CG,FH,Bj,hop,hcl,evA,BX]
     · simp at hcal
   · simp at hcal
 have hρ:(⟨[],[],xa,r,[some e,some e2],[],none⟩:Orc).ρ (n+8*k)=Bu [] (n+8*k):=rfl
 have hob:(Bd P g (BX o (lk s.env)) (lkh s.hp) (n+8*k) ⟨[],[],xa,r,[some e,some e2],[],none⟩).ob:=
   DS ⟨q,by rw[hρ,ha,CJ _ _ hid];exact Cq _ _,sP,trivial,sP,sP,trivial,trivial,hid⟩
 refine C0 (orc:=fun _=>some ⟨[],[],xa,r,[some e,some e2],[],none⟩) 1 sP (rem':=rem) rfl (s':=⟨BV o.dst r' s.env,(n+8*k+1,some e2)::(n+8*k,some e)::s.hp⟩) (ts':=(k,[],[n+8*k,n+8*k+1])::ts) (p:=True∧_) ?_ ⟨trivial,hob⟩ h'
 simp only[List.take_succ_cons,List.take_zero,Bv,hgd,hx]
 have e1:(Bd P g (BX o (lk s.env)) (lkh s.hp) (n+8*k) ⟨[],[],xa,r,[some e,some e2],[],none⟩).v=r':=by rw[Ho,hρ];exact hr
 have e0:Bu [] (n+8*k) 0=n+8*k:=by simp[Bu]
 have e0':Bu [] (n+8*k) (0+1)=n+8*k+1:=by simp[Bu]
 have e2h:(Bd P g (BX o (lk s.env)) (lkh s.hp) (n+8*k) ⟨[],[],xa,r,[some e,some e2],[],none⟩).hw=[(n+8*k,some e),(n+8*k+1,some e2)]:=by rw[HW,hρ];simp only[DK,Option.map_some,e0,e0',Cr _ hei,Cr _ hei2]
 have e3:(Bd P g (BX o (lk s.env)) (lkh s.hp) (n+8*k) ⟨[],[],xa,r,[some e,some e2],[],none⟩).hr=[]:=by rw[Jl];simp
 rw[e1,e2h]
 simp only[DG,e2h,e3]
 rfl
end
theorem Aa4(es:List (List AV))(he:AB 0 es=true):Ad Tryz.prog 216 [.sl 1 es,I 32] [] (.fn 245 0 [.ptr 0 1 0 0,.ptr 1 1 0 0]) [some ⟨43,1,[[.sl 1 es]]⟩,some ⟨3,1,[[I 32]]⟩]:=by
 refine BD 9 0 Tryz.func216 ?_
 refine Aa 0 [2,3] ?_
 refine Aa 1 [2,3,6] ?_
 refine A3 6 ?_
 refine Aa 3 [4] ?_
 refine Aq ?_;((refine XB.ret [some 0,some 1] [] (hids:=⟨by simp[Al],by simp[Al],rfl⟩) (hwk:=?_) (hwh:=?_);(next=>simp[Az,lk,lkh,wk,wkL,wkE,I]);(next=>simp[Am,Ai,Ak,lkh,wkE,wkL,wk,B,I])))
@[go_sem] theorem AiT(l:List Int)(i:Nat):(An l).take i=An (l.take i):=by simp[An]
@[go_sem] theorem Ai8(l:List Int)(i:Nat):(An l).drop i=An (l.drop i):=by simp[An]
abbrev ceH(l:List Int)(j:Nat):List (Nat×Option Ent):=[(0,some ⟨22,1,[[.osl 5 (Cs l j).length 1]]⟩),(1,none),(2,some ⟨22,1,[[.osl 6 (B5 l j).length 1]]⟩),(3,some ⟨43,1,[[.sl 1 (An l)]]⟩),(4,some ⟨3,1,[[I 32]]⟩),(5,some ⟨5,1,Ab (Cs l j)⟩),(6,some ⟨5,1,Ab (B5 l j)⟩)]
abbrev ceH'(l:List Int)(j:Nat):List (Nat×Option Ent):=[(0,some ⟨22,1,[[.osl 8 (Cs l j).length 1]]⟩),(1,none),(2,some ⟨22,1,[[.osl 7 (B5 l j).length 1]]⟩),(3,some ⟨43,1,[[.sl 1 (An l)]]⟩),(4,some ⟨3,1,[[I 32]]⟩),(5,none),(6,none),(7,some ⟨5,1,Ab (B5 l j)⟩),(8,some ⟨5,1,Ab (Cs l j)⟩)]
abbrev ceF(l:List Int):List (Option Ent):=[some ⟨22,1,[[.osl 5 (Cs l (Br l)).length 1]]⟩,none,some ⟨22,1,[[.osl 6 (B5 l (Br l)).length 1]]⟩,some ⟨43,1,[[.sl 1 (An l)]]⟩,some ⟨3,1,[[I 32]]⟩,some ⟨5,1,Ab (Cs l (Br l))⟩,some ⟨5,1,Ab (B5 l (Br l))⟩]
theorem Ae2(l:List Int)(j:Nat):(if((l.drop (32*j)).length:Int)<32 then((l.drop (32*j)).length:Int)else 32)=((min 32 (l.length-32*j):Nat):Int):=by rw[List.length_drop];split<;>omega
theorem AdU(l:List Int)(j:Nat):(l.take (32*j+min 32 (l.length-32*j))).drop (32*j)=AT l j:=by
 unfold AT
 rcases Nat.le_total (32*j+32) l.length with h|h
 · rw[show 32*j+min 32 (l.length-32*j)=32*j+32 by omega]
 · rw[List.take_of_length_le oM,List.take_of_length_le oM]
theorem AgW(l:List Int)(hp:Post l)(y0:Nat)(assign body:Code)(cenv:List (Nat×AV))(c:Code)(hcode:Tryz.f245.body=some c)(hB: ∀ j,j<Br l→ ∃ nB sB,RD Tryz.prog 49 7 assign 7 ⟨Fi ([22].zip [.sl 1 (An (AT l j))]) cenv,ceH l j⟩ nB sB∧RD Tryz.prog 49 7 body nB sB 9 ⟨[],ceH' l (j+1)⟩): @XW ⟨some ⟨y0,49,lk cenv,#[22],assign,body⟩⟩ Tryz.prog 31 5 (fun x=>x=(.tup [],ceF l)) [] c [] 5 ⟨[(0,YV y0),(1,.ptr 3 1 0 0),(2,.ptr 4 1 0 0)],[(0,some ⟨22,1,[[.osl 1 (Ap l.length).length 1]]⟩),(1,some ⟨5,1,Ab (Ap l.length)⟩),(2,some ⟨22,1,[[.val (.slice none 0 0)]]⟩),(3,some ⟨43,1,[[.sl 1 (An l)]]⟩),(4,some ⟨3,1,[[I 32]]⟩)]⟩:=by
 have hll:=hp.len
 have hnb:Br l=(l.length+31) / 32:=rfl
 letI Y:Yl:=⟨some ⟨y0,49,lk cenv,#[22],assign,body⟩⟩;obtain rfl:=Option.some.inj (show some _=some c from hcode);refine QV ?_
 refine Ah 0 ?_
 refine Ac 1 ?_
 refine A7 [0,1,2,4] ?_
 refine A8 7 (fun j:Nat=>⟨[(0,YV y0),(1,.ptr 3 1 0 0),(2,.ptr 4 1 0 0),(4,I (32*j:Nat))],ceH l j⟩) (fun j=>j≤Br l) (fun j=>Br l-j) 0 (AO (And.intro (And.intro Cs.eq_1 Cs.eq_2) (And.intro (And.intro B5.eq_1 B5.eq_2) B.eq_1)) [some 0,some 1,some 2,some 3,some 4,some 1,none] []) ?_;rintro j hI0 Y0 hY0;skip
 refine Ah 1 ?_
 refine Ac 4 ?_
 refine A7 [0,1,2,4,9] ?_
 refine AC 9 (fun c9=>?_) (fun c9=>?_)
 refine XW.at 3 ?_;have hx:=Ae2 l j
 refine Ah 3 ?_
 refine A2 7 ?_
 refine A7 [0,1,2,4,5] ?_
 refine XW.at 4 ?_;obtain⟨nB,sB,hb1,hb2⟩:=hB j oM;rw[← AdU l j]at hb1;have hx:((32*j:Nat):Int)+((min 32 (l.length-32*j):Nat):Int)=((32*j+min 32 (l.length-32*j):Nat):Int):=oM
 refine XOW.start 4 ?_
 refine Gs 9 [0,1,2,4,19,20,21,24,27] ?_
 refine XOW.raw [0,1,2,4,19,28] (Uw (x:= .tmp 20) (lo:= .tmp 21) (hi:= .tmp 24) (mx:= .tmp 27) (l:=32*j) (h:=32*j+min 32 (l.length-32*j)) (m:=32*j+min 32 (l.length-32*j)) (es:=An l) (BU _) D43 T3 rfl rfl rfl rfl rfl oM oM (by rw[EL];omega)) ?_
 refine XOW.yield hb1 hb2 ?_
 refine Gs 1 [0,1,2,4,30] ?_
 refine XOW.done ?_
 refine A3 30 ?_
 refine Ah 2 ?_
 refine Gz 4 ?_
 refine A7 [0,1,2,4] ?_
 refine XH.le ?_;(exact eY hY0 (j+1) (AO B.eq_1 [some 0,some 1,some 2,some 3,some 4,some 5,some 6] []))
 obtain rfl:j=Br l:=oM;refine Kx [some 0,some 1,some 2,some 3,some 4,some 5,some 6] [] (hids:=⟨by simp[Al],by simp[Al],rfl⟩) (hwk:=by simp[Az,lk,lkh,wk,wkL,wkE,I]) (hwh:=?_);simp[Am,Ai,Ak,lkh,wkE,wkL,wk,B,I]
theorem Ae4{p:List Int}{k:Nat}{x:Int}(hx:p[k]? =some x):D1 p k=x- (if 0<k then p.getD (k-1) 0 else 0):=by
 unfold D1
 rw[Bz hx]
 split<;>omega
theorem Aae{l:List Int}{j:Nat}(hp:Post l)(h:0<(AT l j).length):(AT l j).getD ((AT l j).length-1) 0=((Gb l j:Nat):Int)∧Gb l j<4096:=by
 obtain⟨h1,e1⟩:=FD l j ((AT l j).length-1) oM
 have:=hp.rng _ h1
 unfold Gb
 rw[show(AT l j).getD ((AT l j).length-1) 0=(AT l j)[(AT l j).length-1]'oM by simp[List.getD,show(AT l j).length-1<(AT l j).length by omega],e1]
 omega
theorem WO(l:List Int)(hp:Post l):Ae Tryz.prog 176 [.sl 1 (An l)] (fun r=>r= .tup [.sl 1 (Ab (Bt l)),I 0]):=by
 have hll:=hp.len
 have hel:=DE l hp
 have hnb:Br l=(l.length+31) / 32:=rfl
 refine Ax 49 Tryz.func176 ?_
 refine Ah 0 ?_
 refine Ac 2 ?_
 refine A7 [0] ?_
 refine Ah 1 ?_
 refine Ac 1 ?_
 refine AG (Z6 l hp) ?_;rintro _ rfl
 refine Ac 1 ?_
 refine A7 [0,4] ?_
 refine Ah 2 ?_
 refine Ac 2 ?_
 refine A7 [0,4,15] ?_
 refine A3 15 ?_
 refine Ah 4 ?_
 refine Ac 2 ?_
 refine AbV (ZY l.length oM) ?_
 refine Ac 2 ?_
 refine A7 [0,5] ?_
 refine Ah 5 ?_
 refine Ac 1 ?_
 refine A7 [0,5,6] ?_
 refine Ah 6 ?_
 refine Ac 1 ?_
 refine X4 (Aa4 (An l) sP) ?_
 refine A7 [5,6,21] ?_
 refine QR (gf:=245) (j:=0) (cs:=[.ptr 3 1 0 0,.ptr 4 1 0 0]) (Ni:=31) (ceF l) Tryz.func245 rfl rfl rfl dC rfl (fun l0=>AgW l hp l0 _ _ _ _ rfl ?_) ?_
 · intro j hj
   have hpn:=E0 l j
   have hpl:0<(AT l j).length:=by omega
   have hhl:=IZ l j
   have hbl:=IY l j
   refine⟨7,⟨[(5,.ptr 0 1 0 0),(6,.ptr 2 1 0 0),(7,.sl 1 (An (AT l j)))],ceH l j⟩,JG ?_,JG ?_⟩
   · simp only[Fi,List.zip_cons_cons,List.zip_nil_right]
     refine Aa 7 [5,6,7] ?_
     exact XH.rd ⟨[some 0,some 1,some 2,some 3,some 4,some 5,some 6],[],⟨by simp[Al],by simp[Al],by rfl⟩,sP,by simp[AK,lk,lkh,I,str],by simp[Am,Ai,Ak,lkh,wkE,wkL,B,I]⟩
   · skip
     all_goals try refine Ah 8 ?_
     all_goals try refine Ac 4 ?_
     all_goals try refine A7 [5,6,7,8,9] ?_
     all_goals try refine Ah 9 ?_
     all_goals try refine Ac 3 ?_
     all_goals try refine A7 [5,6,8,9,25,26,27] ?_
     all_goals try(refine A8 8 (fun s:Nat×Int=>⟨[(5,.ptr 0 1 0 0),(6,.ptr 2 1 0 0),(8,I (B5 l j).length),(9,I s.2),(25,.sl 1 (An (AT l j))),(26,I (AT l j).length),(27,I s.1)],[(0,some ⟨22,1,[[.osl 5 (Cs l j).length 1]]⟩),(1,none),(2,some ⟨22,1,[[.osl 7 (B5 l j++Dm (AT l j) s.1).length 1]]⟩),(3,some ⟨43,1,[[.sl 1 (An l)]]⟩),(4,some ⟨3,1,[[I 32]]⟩),(5,some ⟨5,1,Ab (Cs l j)⟩),(6,none),(7,some ⟨5,1,Ab (B5 l j++Dm (AT l j) s.1)⟩)]⟩) (fun s=>s.1≤(AT l j).length∧s.2=(if 0<s.1 then(AT l j).getD (s.1-1) 0 else 0)) (fun s=>(AT l j).length-s.1) (0,0) (AO (And.intro (And.intro Dm.eq_1 Dm.eq_2) (And.intro (And.intro wkE.eq_1 wkE.eq_2) (And.intro (And.intro wkL.eq_1 wkL.eq_2) (And.intro @List.append_nil.{0} B.eq_1)))) [some 0,some 1,some 2,some 3,some 4,some 5,some 6,some 6] []) ?_ (h0:=⟨sP,sP⟩);rintro⟨k,la⟩ hI0 Y0 hY0;skip)
     all_goals try(refine XW.at 10 ?_;obtain⟨n1,n2⟩:=hI0;simp only at n1 n2;have hbk:=JI (AT l j) k;have hlb:(B5 l j++Dm (AT l j) k).length=(B5 l j).length+(Dm (AT l j) k).length:=List.length_append)
     all_goals try refine Ah 10 ?_
     all_goals try refine Ac 1 ?_
     all_goals try refine A7 [5,6,8,9,25,26,27,28] ?_
     all_goals try first|refine CF 28 ?_|refine A3 28 ?_|refine AC 28 (fun c28=>?_) (fun c28=>?_)|refine Bx 28 (fun c28=>?_) (fun c28=>?_)
     all_goals try(exfalso;omega)
     all_goals try(refine XW.at 11 ?_;obtain⟨x,hx,hxm⟩:=Bm (AT l j) k oM;have hgr:=Us l hp j k oM;have hga:=Ae4 hx;have hbs:Dm (AT l j) (k+1)=Dm (AT l j) k++Ap (D1 (AT l j) k).toNat:=rfl;rw[← n2]at hga;have hgt:x-la=(((D1 (AT l j) k).toNat:Nat):Int):=oM;have hvl:=Bf (D1 (AT l j) k).toNat;have hn2:(AT l j).getD k 0=x:=Bz hx)
     all_goals try refine Ah 11 ?_
     all_goals try refine Aw 3 ?_
     all_goals try refine A7 [5,6,8,9,11,25,26,27] ?_
     all_goals try(refine XW.at 12 ?_;have hx:=hgt)
     all_goals try refine Ah 12 ?_
     all_goals try refine A2 4 ?_
     all_goals try(refine Fw 7 (PF (B5 l j++Dm (AT l j) k) (D1 (AT l j) k).toNat oM oM) ?_)
     all_goals try refine Aw 1 ?_
     all_goals try refine A7 [5,6,8,11,25,26,27] ?_
     all_goals try refine Ah 13 ?_
     all_goals try refine Ac 2 ?_
     all_goals try refine A7 [5,6,8,9,25,26,27] ?_
     all_goals try refine Ah 14 ?_
     all_goals try refine Gz 2 ?_
     all_goals try refine A7 [5,6,8,9,25,26,27] ?_
     all_goals try(refine XH.le ?_;first|(exact hY0 (k+1,x) (⟨by simp only;omega,by simp only;rw[if_pos oM,Nat.add_sub_cancel,hn2]⟩) (by first|omega|(simp;done)|(simp;omega)) _ _ (AO (And.intro (And.intro wkE.eq_1 wkE.eq_2) (And.intro (And.intro wkL.eq_1 wkL.eq_2) (And.intro hbs (And.intro @List.append_assoc.{0} B.eq_1)))) [some 0,some 1,some 2,some 3,some 4,some 5,some 6,some 7] [])))
     all_goals try(refine XW.at 15 ?_;obtain rfl:k=(AT l j).length:=oM;have hlf:=Aae hp hpl;obtain⟨hlf1,hlf2⟩:=hlf;rw[if_pos hpl,hlf1]at n2;have hblk:Dm (AT l j) (AT l j).length=GO l j:=rfl;have hx:=n2;have hx2:=hblk;have hvl1:=Bf (Gb l j);have hvl2:=Bf (GO l j).length;have hbf:=Ju l j;rw[hblk]at hlb)
     all_goals try refine Ah 15 ?_
     all_goals try refine Aw 2 ?_
     all_goals try(refine Fw 5 (PF (Cs l j) (Gb l j) oM oM) ?_)
     all_goals try refine Aw 3 ?_
     all_goals try(have hx:((B5 l j++GO l j).length:Int)- ((B5 l j).length:Int)=((GO l j).length:Int):=oM)
     all_goals try refine A2 1 ?_
     all_goals try(skip)
     all_goals try(refine Fw 24 (PF (Cs l j++Ap (Gb l j)) (GO l j).length oM (by rw[List.length_append];omega)) ?_)
     all_goals try refine Aw 1 ?_
     all_goals try refine A7 [] ?_
     exact XH.rd ⟨[some 0,some 1,some 2,some 3,some 4,some 5,some 6,some 8,some 7],[],⟨by simp[Al],by simp[Al],by rfl⟩,sP,by simp[AK,lk,lkh,I,str,Cs,B5,List.append_assoc],by simp[Am,Ai,Ak,lkh,wkE,wkL,B,I,Cs,B5,List.append_assoc]⟩
 simp only[ceF,List.zipIdx_cons,List.zipIdx_nil,List.map_cons,List.map_nil,List.length_cons,List.length_nil,Nat.reduceAdd,Nat.zero_add]
 refine XW.at 16 ?_;have hel2:(Cs l (Br l)).length+(B5 l (Br l)).length≤100000:=(by rw[← List.length_append];exact hel)
 refine Ah 16 ?_
 refine Ac 5 ?_
 refine A7 [2,3] ?_
 refine Aq ?_;(exact Hw rfl (hm:=by rw[CB,Bt,List.length_append]))
theorem Afu(l:List Int)(hp:Post l):Ae Tryz.prog 116 [.sl 1 (Ab (Bt l))] (fun r=>r= .tup [.sl 1 (An l),I 0]):=Yv l hp (WO l hp)
theorem Adk(n:Nat)(h:n<2^64):AP .and .u64 (n:Int) 127=((n%128:Nat):Int):=by
 simp only[AP]
 have e:IntKind.u64.bits=64:=rfl
 rw[show(127:Int)=((127:Nat):Int)from rfl,BitVec.toNat_and,BitVec.ofInt_natCast,BitVec.ofInt_natCast,BitVec.toNat_ofNat,BitVec.toNat_ofNat,e,Nat.mod_eq_of_lt oM,Nat.mod_eq_of_lt dC]
 rw[show(127:Nat)=2^7-1 from rfl,Nat.and_two_pow_sub_one_eq_mod]
 exact IntWalk.u64_in _ oM
theorem W7(n:Nat):AP .or .u64 ((n%128:Nat):Int) 128=((n%128+128:Nat):Int):=by
 have h:=Nat.two_pow_add_eq_or_of_lt (i:=7) (b:=n%128) oM 1
 have e:IntKind.u64.bits=64:=rfl
 simp only[AP]
 rw[show(128:Int)=((128:Nat):Int)from rfl,BitVec.toNat_or,BitVec.ofInt_natCast,BitVec.ofInt_natCast,BitVec.toNat_ofNat,BitVec.toNat_ofNat,e,Nat.mod_eq_of_lt (show n%128<2^64 by omega),Nat.mod_eq_of_lt (show 128<2^64 by decide),Nat.or_comm]
 rw[show 2^7*1=128 from rfl]at h
 rw[← h,Nat.add_comm]
 exact IntWalk.u64_in _ oM
theorem OE(x:Int):Ae Tryz.prog 260 [I x] (fun r=>r=U64 (Dp x)):=by
 refine Ax 10 Tryz.func260 ?_
 refine Aa 0 [0] ?_
 refine AQ 1 [2] ?_
 refine Aq ?_;((exact Bo rfl))
theorem NP(v:Int):Ae Tryz.prog 246 [U64 v] (fun r=>r=I (HJ v)):=by
 refine Ax 11 Tryz.func246 ?_
 refine Aa 0 [0] ?_
 refine AQ 1 [2] ?_
 refine Aq ?_;((exact Bo rfl))
theorem MY(c:UInt8)(b:List UInt8)(hc:c.toNat<4):Ae Tryz.prog 177 [.sl 1 (Ab (c::b))] (fun r=>r= .tup [I c.toNat,B true]):=by
 have hb0:(c::b)[0]? =some c:=rfl
 have hcl:=c.toNat_lt
 refine Ax 17 Tryz.func177 ?_
 refine Aa 0 [0] ?_
 refine XW.at 1 ?_;have hx:=hb0
 refine Ah 1 ?_
 refine Aw 4 ?_
 refine BQ 7 ?_
 refine Aw 5 ?_
 refine XO.done [0,12] ?_
 refine AC 12 (fun c12=>?_) (fun c12=>?_)
 exfalso;omega
 refine XW.at 3 ?_;have hx:=hb0
 refine A4 3 [2,3] ?_
 refine Aq ?_;((exact Bo rfl))
theorem Pk(b:List UInt8)(v:Nat)(hv:v<2^64)(hb:b.length≤2^45):D4 223 [U64 v] b (b++Ap v):=by
 unfold D4
 refine BD 21 1 Tryz.func223 ?_
 refine Aa 0 [0,1] ?_
 refine A8 2 (fun s:List UInt8×Nat=>⟨[(0,.osl 1 s.1.length 1),(1,U64 s.2)],[(0,none),(1,some ⟨5,1,Ab s.1⟩)]⟩) (fun s=>s.1++Ap s.2=b++Ap v∧s.2≤v) (fun s=>s.2) (b,v) (AO (And.intro @A5 @FV) [some 0,some 0] []) ?_ (h0:=⟨rfl,Nat.le_refl _⟩);rintro⟨out,w⟩ hI0 Y0 hY0;skip
 refine XW.at 1 ?_;obtain⟨m1,m2⟩:=hI0;simp only at m1 m2;have ml:=LH m1
 refine Aa 1 [0,1,6] ?_
 refine AC 6 (fun c6=>?_) (fun c6=>?_)
 refine XW.at 3 ?_;have hx:=Adk w oM;have hw128:w%128+128<256:=oM
 refine Ah 3 ?_
 refine A2 3 ?_
 have hx:=W7 w
 refine A2 1 ?_
 have hx:=W7 w;have hx2:=u8w _ hw128
 refine A2 4 ?_
 refine XO.done [0,1] ?_
 refine XW.at 2 ?_;have hx:=sh7 w
 refine A4 2 [0,1] ?_
 refine XH.le ?_;(exact hY0 (out++[UInt8.ofNat (w%128+128)],w / 128) (⟨L7 m1 oM oM,by simp only;omega⟩) (by simp only;omega) _ _ (AO (And.intro @Em @A5) [some 0,some 1] []))
 refine XW.at 4 ?_;have hx:=u8w w oM;have hf:=Mp m1 oM
 refine A4 4 [4] ?_
 refine Aq ?_;((refine XB.ret [some 0,some 1] [] (hids:=⟨by simp[Al],by simp[Al],rfl⟩) (hwk:=?_) (hwh:=?_);(next=>simp[Az,lk,lkh,wk,wkL,wkE,I,← hf]);(next=>simp[Am,Ai,Ak,lkh,Em,A5,← hf])))
theorem MV(x:Int):Dp x=((Dp x).toNat:Int):=by have:=Gw x;omega
theorem QM(b:List UInt8)(x:Int)(hb:b.length≤2^45):D4 223 [U64 (Dp x)] b (b++Bc x):=by
 have hz:=Gw x
 have:=Pk b (Dp x).toNat oM hb
 rwa [← MV]at this
theorem Afk{v:List Int}{i:Nat}{x:Int}(h:v[i]? =some x):Cv v i++Bc x=Cv v (i+1):=by rw[Cv,Bz h]
theorem AaG{x:Int}(h:BE x):IntKind.i64.wrap x=x:=by exact Ar h
def MR(v:List Int)(i:Nat):Int:=if i=0 then 0 else v.getD (i-1) 0
theorem AeA{v:List Int}(hv: ∀ x∈v,BE x){i:Nat}{x:Int}(h:v[i]? =some x):B6 v i++Bc (IntKind.i64.wrap (x-MR v i))=B6 v (i+1):=by
 rw[B6]
 congr 2
 unfold E2 MR
 by_cases h0:i=0
 · subst h0
   rw[if_pos rfl,if_neg oM,Bz h,Int.sub_zero,AaG (hv x (List.mem_of_getElem? h))]
 · rw[if_neg h0,if_pos oM,Bz h]
theorem Acf{v:List Int}{i:Nat}{x:Int}(h:v[i]? =some x):MR v (i+1)=x:=by
 unfold MR
 rw[if_neg oM,Nat.add_sub_cancel,Bz h]
theorem Aaz(v:List Int)(hl:v.length≤16384):D4 249 [.sl 1 (An v)] (BG 0 v) (Cv v v.length):=by
 unfold D4
 refine BD 19 1 Tryz.func249 ?_
 refine Aa 0 [0,1] ?_
 refine Aa 1 [0,7,8,9] ?_
 refine A8 2 (fun i:Nat=>⟨[(0,.osl 1 (Cv v i).length 1),(7,.sl 1 (An v)),(8,I v.length),(9,I i)],[(0,none),(1,some ⟨5,1,Ab (Cv v i)⟩)]⟩) (fun i=>i≤v.length) (fun i=>v.length-i) 0 (AO (And.intro @A5 (And.intro Cv.eq_1 Cv.eq_2)) [some 0,some 0] []) ?_ (h0:=Nat.zero_le _);rintro i hI0 Y0 hY0;skip
 refine XW.at 2 ?_;have m1:=hI0;obtain hlt|hge:=Nat.lt_or_ge i v.length
 any_goals(refine Aa 2 [0,7,8,9,10] ?_;refine AC 10 (fun c10=>?_) (fun c10=>?_))
 any_goals(exfalso;omega)
 refine XW.at 3 ?_;(obtain⟨x,hx,hxm⟩:=Bm v i oM)
 refine BJ 3 [0,6,7,8,9] ?_
 refine Ah 4 ?_
 refine Ac 2 ?_
 refine AG (OE _) ?_;rintro _ rfl
 refine Fw 1 (QM (Cv v i) _ (by have:=Ji v i;omega)) ?_
 refine Ac 1 ?_
 refine XO.done [0,7,8,9] ?_
 refine AQ 5 [0,7,8,9] ?_
 refine XH.le ?_;(exact hY0 (i+1) oM oM _ _ (AO (And.intro (Afk hx) @A5) [some 0,some 1] []))
 refine XW.at 6 ?_;have hi:i=v.length:=oM;subst hi
 refine Aa 6 [4] ?_
 refine Aq ?_;((refine XB.ret [some 0,some 1] [] (hids:=⟨by simp[Al],by simp[Al],rfl⟩) (hwk:=?_) (hwh:=?_);(next=>simp[Az,lk,lkh,wk,wkL,wkE,I]);(next=>simp[Am,Ai,Ak,lkh,A5])))
theorem Abl(v:List Int)(hl:v.length≤16384)(hv: ∀ x∈v,BE x):D4 250 [.sl 1 (An v)] (BG 1 v) (B6 v v.length):=by
 unfold D4
 refine BD 23 1 Tryz.func250 ?_
 refine Aa 0 [0,1] ?_
 refine Aa 1 [0,1,5] ?_
 refine Aa 2 [0,5,8,9,10] ?_
 refine A8 2 (fun i:Nat=>⟨[(0,.osl 1 (B6 v i).length 1),(5,I (MR v i)),(8,.sl 1 (An v)),(9,I v.length),(10,I i)],[(0,none),(1,some ⟨5,1,Ab (B6 v i)⟩)]⟩) (fun i=>i≤v.length) (fun i=>v.length-i) 0 (AO (And.intro @A5 (And.intro (And.intro B6.eq_1 B6.eq_2) MR.eq_1)) [some 0,some 0] []) ?_ (h0:=Nat.zero_le _);rintro i hI0 Y0 hY0;skip
 refine XW.at 3 ?_;have m1:=hI0;obtain hlt|hge:=Nat.lt_or_ge i v.length
 any_goals(refine Aa 3 [0,5,8,9,10,11] ?_;refine AC 11 (fun c11=>?_) (fun c11=>?_))
 any_goals(exfalso;omega)
 refine XW.at 4 ?_;(obtain⟨x,hx,hxm⟩:=Bm v i oM)
 refine BJ 4 [0,5,7,8,9,10] ?_
 refine Ah 5 ?_
 refine Gz 4 ?_
 refine AG (OE _) ?_;rintro _ rfl
 refine Fw 1 (QM (B6 v i) _ (by have:=JB v i;omega)) ?_
 refine Ac 1 ?_
 refine XO.done [0,7,8,9,10] ?_
 refine Aa 6 [0,5,8,9,10] ?_
 refine AQ 7 [0,5,8,9,10] ?_
 refine XH.le ?_;(exact hY0 (i+1) oM oM _ _ (AO (And.intro (AeA hv hx) (And.intro (Acf hx) @A5)) [some 0,some 1] []))
 refine XW.at 8 ?_;have hi:i=v.length:=oM;subst hi
 refine Aa 8 [4] ?_
 refine Aq ?_;((refine XB.ret [some 0,some 1] [] (hids:=⟨by simp[Al],by simp[Al],rfl⟩) (hwk:=?_) (hwh:=?_);(next=>simp[Az,lk,lkh,wk,wkL,wkE,I]);(next=>simp[Am,Ai,Ak,lkh,A5])))
theorem P3{v:List Int}{j:Nat}(hj:j≤v.length): ∀ (f i:Nat),v.length-i≤f→i<j→(∀ k,i≤k→k<j→v.getD k 0=v.getD i 0)→(j<v.length→v.getD j 0≠v.getD i 0)→C9 v f i=j-1
 |0,i,hf,hi,_,_=>by omega
 |f+1,i,hf,hi,ha,hn=>by
   rw[C9]
   by_cases h1:i+1=j
   · rw[if_neg]
     · omega
     · intro h;rw[h1]at h;exact hn h.1 h.2
   · have e:=ha (i+1) oM oM
     rw[if_pos ⟨oM,e⟩]
     exact P3 hj f (i+1) oM oM (fun k h2 h3=>by rw[e];exact ha k oM h3) (fun h=>by rw[e];exact hn h)
def RuI(v:List Int)(out:List UInt8)(i:Nat):Prop:=i≤v.length∧out.length≤12+i*22∧ ∃ f,v.length-i≤f∧out++ruG v f i=FJ v
theorem RuI.z(v:List Int):RuI v (BG 2 v) 0:=⟨Nat.zero_le _,by have:=FU 2 v;omega,v.length,oM,rfl⟩
theorem RuI.s{v:List Int}{out:List UInt8}{i j:Nat}{x:Int}(h:RuI v out i)(hj:j≤v.length)(hi:i<j)(hx:v[i]? =some x)(ha: ∀ k,i≤k→k<j→v.getD k 0=v.getD i 0)(hn:j<v.length→v.getD j 0≠v.getD i 0):
   RuI v (out++Bc x++Ap (j-i)) j:=by
 obtain⟨h1,h2,f,h3,h4⟩:=h
 refine⟨hj,?_,f-1,oM,?_⟩
 · have:=C1 x
   have:=Bf (j-i)
   simp only[List.length_append];omega
 · obtain⟨f,rfl⟩: ∃ g,f=g+1:=⟨f-1,oM⟩
   rw[ruG,if_pos oM,P3 hj _ _ oM hi ha hn,ha (j-1) oM oM,Bz hx,show j-1-i+1=j-i by omega,show j-1+1=j by omega]at h4
   rw[← h4,Nat.add_sub_cancel]
   simp only[List.append_assoc]
theorem RuI.e{v:List Int}{out:List UInt8}{i:Nat}(h:RuI v out i)(hi:v.length≤i):out=FJ v:=by
 obtain⟨h1,h2,f,h3,h4⟩:=h
 rw[← h4]
 cases f with
 |zero=>simp[ruG]
 |succ f=>rw[ruG,if_neg oM];simp
theorem AhL{v:List Int}{i j:Nat}{x y:Int}(h: ∀ k,i≤k→k<j→v.getD k 0=v.getD i 0)(hi:v[i]? =some x)(hj:v[j]? =some y)(he:y=x): ∀ k,i≤k→k<j+1→v.getD k 0=v.getD i 0:=by
 intro k h1 h2
 rcases Nat.lt_or_ge k j with h3|h3
 · exact h k h1 h3
 · obtain rfl:k=j:=by omega
   rw[Bz hi,Bz hj,he]
theorem Acw(v:List Int)(hl:v.length≤16384):D4 251 [.sl 1 (An v)] (BG 2 v) (FJ v):=by
 unfold D4
 refine BD 42 1 Tryz.func251 ?_
 refine Aa 0 [0,1] ?_
 refine Aa 1 [0,1,5,6] ?_
 refine A8 2 (fun s:List UInt8×Nat=>⟨[(0,.osl 1 s.1.length 1),(1,.sl 1 (An v)),(5,I s.2),(6,I s.2)],[(0,none),(1,some ⟨5,1,Ab s.1⟩)]⟩) (fun s=>RuI v s.1 s.2) (fun s=>v.length-s.2) (BG 2 v,0) (AO @A5 [some 0,some 0] []) ?_ (h0:=RuI.z v);rintro⟨out,i⟩ hI0 Y0 hY0;skip
 refine XW.at 2 ?_;obtain⟨m1,m2,m3⟩:=hI0;simp only at m1 m2 m3
 refine Aa 2 [0,1,5,6,10] ?_
 refine AC 10 (fun c10=>?_) (fun c10=>?_)
 refine A8 2 (fun j:Nat=>⟨[(0,.osl 1 out.length 1),(1,.sl 1 (An v)),(5,I i),(6,I j)],[(0,none),(1,some ⟨5,1,Ab out⟩)]⟩) (fun j=>i≤j∧j≤v.length∧ ∀ k,i≤k→k<j→v.getD k 0=v.getD i 0) (fun j=>v.length-j) i (AO @A5 [some 0,some 1] []) ?_ (h0:=⟨Nat.le_refl _,oM,fun k h1 h2=>by omega⟩);rintro j hI1 Y1 hY1;skip
 refine XW.at 4 ?_;obtain⟨n1,n2,n3⟩:=hI1;obtain⟨x,hxi,hxm⟩:=Bm v i oM;rcases VW v j with ⟨y,hy,hlb⟩|hlb
 any_goals(refine Ah 4 ?_;refine Aw 5 ?_;refine Cn 16 (fun g16=>?_) (fun g16=>?_))
 any_goals(exfalso;omega)
 any_goals refine Aw 2 ?_
 have hx:=hy;have hx2:=hxi
 any_goals(refine Aw 8 ?_;refine XO.done [0,1,5,6,26] ?_;(first|refine A3 26 ?_|refine AC 26 (fun c26=>?_) (fun c26=>?_)))
 refine AQ 5 [0,1,5,6] ?_
 refine XH.le ?_;(exact hY1 (j+1) (⟨oM,oM,AhL n3 hxi hy c26⟩) oM _ _ (AO @A5 [some 0,some 1] []))
 any_goals(refine XW.at 6 ?_;have hij:i<j:=(by rcases Nat.lt_or_ge i j with h|h;exact h;exfalso;first|omega|(obtain rfl:i=j:=oM;rw[hxi]at hy;cases hy;first|exact c26 rfl|simp at c26));have hnj:j<v.length→v.getD j 0≠v.getD i 0:=(by intro h h2;first|omega|(rw[Bz hy,Bz hxi]at h2;exact c26 h2));have hcv:(j:Int)- (i:Int)=((j-i:Nat):Int):=oM;have hx:=hxi;have hx2:=hcv;refine Ah 6 ?_;refine Aw 5 ?_;refine AG (OE _) ?_;rintro _ rfl;refine Fw 1 (QM out x oM) ?_;refine A2 4 ?_;refine Fw 50 (Pk (out++Bc x) (j-i) oM (by rw[List.length_append];have:=C1 x;omega)) ?_;refine Aw 1 ?_;refine XO.done [0,1,6] ?_;refine Aa 3 [0,1,5,6] ?_;refine XH.le ?_;(exact hY0 (out++Bc x++Ap (j-i),j) (RuI.s ⟨m1,m2,m3⟩ oM hij hxi n3 hnj) (by simp only;omega) _ _ (AO @A5 [some 0,some 1] [])))
 refine XW.at 7 ?_;have hfin:=RuI.e ⟨m1,m2,m3⟩ oM
 refine Aa 7 [4] ?_
 refine Aq ?_;((refine XB.ret [some 0,some 1] [] (hids:=⟨by simp[Al],by simp[Al],rfl⟩) (hwk:=?_) (hwh:=?_);(next=>simp[Az,lk,lkh,wk,wkL,wkE,I,hfin]);(next=>simp[Am,Ai,Ak,lkh,A5,hfin])))
theorem Ahr{v:List Int}{x:Int}(h:v[0]? =some x):DF v 1=x:=by show(if v.getD 0 0<v.getD 0 0 then _ else v.getD 0 0)=x;rw[if_neg oM,Bz h]
theorem AhP{v:List Int}{x:Int}(h:v[0]? =some x):Ch v 1=x:=by show(if v.getD 0 0>v.getD 0 0 then _ else v.getD 0 0)=x;rw[if_neg oM,Bz h]
theorem AhO{v:List Int}{i:Nat}{x:Int}(h:v[i]? =some x):(if x<DF v i then x else DF v i)=DF v (i+1):=by rw[DF,Bz h]
theorem AhB{v:List Int}{i:Nat}{x:Int}(h:v[i]? =some x):(if x>Ch v i then x else Ch v i)=Ch v (i+1):=by rw[Ch,Bz h]
theorem AfC(v:List Int)(h0:0<v.length)(hl:v.length≤2^40):Ae Tryz.prog 265 [.sl 1 (An v)] (fun r=>r=I (DF v v.length)):=by
 obtain⟨x0,hx0,_⟩:=Bm v 0 h0
 have hz:=Ahr hx0
 refine Ax 25 Tryz.func265 ?_
 refine Aa 0 [0] ?_
 refine Aa 1 [0,7] ?_
 refine AC 7 (fun c7=>?_) (fun c7=>?_)
 exfalso;omega
 refine XW.at 3 ?_;have hx:=hx0
 refine BJ 3 [0,3] ?_
 refine Aa 4 [0,3,4] ?_
 refine A8 0 (fun i:Nat=>⟨[(0,.sl 1 (An v)),(3,I (DF v i)),(4,I i)],[]⟩) (fun i=>1≤i∧i≤v.length) (fun i=>v.length-i) 1 (AO hz [] []) ?_ (h0:=⟨Nat.le_refl _,h0⟩);rintro i hI0 Y0 hY0;skip
 refine XW.at 5 ?_;obtain⟨m1,m2⟩:=hI0
 refine Aa 5 [0,3,4,15] ?_
 refine AC 15 (fun c15=>?_) (fun c15=>?_)
 refine XW.at 7 ?_;obtain⟨x,hx,hxm⟩:=Bm v i oM;have hs:=AhO hx
 refine BJ 7 [0,3,4] ?_
 refine AQ 6 [0,3,4] ?_
 refine XH.le ?_;(exact eY hY0 (i+1) (AO (Eq.symm hs) [] []))
 refine XW.at 8 ?_;have hi:i=v.length:=oM;subst hi
 refine Aa 8 [2] ?_
 refine Aq ?_;(exact Bo rfl)
theorem AeD(v:List Int)(h0:0<v.length)(hl:v.length≤2^40):Ae Tryz.prog 266 [.sl 1 (An v)] (fun r=>r=I (Ch v v.length)):=by
 obtain⟨x0,hx0,_⟩:=Bm v 0 h0
 have hz:=AhP hx0
 refine Ax 25 Tryz.func266 ?_
 refine Aa 0 [0] ?_
 refine Aa 1 [0,7] ?_
 refine AC 7 (fun c7=>?_) (fun c7=>?_)
 exfalso;omega
 refine XW.at 3 ?_;have hx:=hx0
 refine BJ 3 [0,3] ?_
 refine Aa 4 [0,3,4] ?_
 refine A8 0 (fun i:Nat=>⟨[(0,.sl 1 (An v)),(3,I (Ch v i)),(4,I i)],[]⟩) (fun i=>1≤i∧i≤v.length) (fun i=>v.length-i) 1 (AO hz [] []) ?_ (h0:=⟨Nat.le_refl _,h0⟩);rintro i hI0 Y0 hY0;skip
 refine XW.at 5 ?_;obtain⟨m1,m2⟩:=hI0
 refine Aa 5 [0,3,4,15] ?_
 refine AC 15 (fun c15=>?_) (fun c15=>?_)
 refine XW.at 7 ?_;obtain⟨x,hx,hxm⟩:=Bm v i oM;have hs:=AhB hx
 refine BJ 7 [0,3,4] ?_
 refine AQ 6 [0,3,4] ?_
 refine XH.le ?_;(exact eY hY0 (i+1) (AO (Eq.symm hs) [] []))
 refine XW.at 8 ?_;have hi:i=v.length:=oM;subst hi
 refine Aa 8 [2] ?_
 refine Aq ?_;(exact Bo rfl)
theorem YJ(v:List Int)(h0:0<v.length)(hl:v.length≤2^40):Ae Tryz.prog 261 [.sl 1 (An v)] (fun r=>r= .tup [I (loF v),I (Ch v v.length),B true]):=by
 refine Ax 12 Tryz.func261 ?_
 refine Aa 0 [0] ?_
 refine Aa 1 [0,7] ?_
 refine AC 7 (fun c7=>?_) (fun c7=>?_)
 exfalso;omega
 refine Ah 3 ?_
 refine Ac 1 ?_
 refine AG (AfC v h0 hl) ?_;rintro _ rfl
 refine Ac 1 ?_
 refine AG (AeD v h0 hl) ?_;rintro _ rfl
 refine Ac 3 ?_
 refine XO.done [2,3,4] ?_
 refine Aq ?_;(exact Bo rfl)
theorem Xm(x:Nat)(hx:x<2^64):Ae Tryz.prog 226 [U64 x] (fun r=>r=I (GU x)):=Ep (Vh x hx)
def nb8(d k p:Nat)(y:UInt8):Nat:=if d.testBit k then y.toNat ||| 2^(p%8)else y.toNat
theorem Ahq(y:UInt8):AP .or .u8 (y.toNat:Int) 0=(y.toNat:Int):=by
 have h: ∀ x:Fin 256,AP .or .u8 ((x.val:Nat):Int) 0=((x.val:Nat):Int):=by decide+kernel
 exact h ⟨y.toNat,y.toNat_lt⟩
theorem Abv(d k p:Nat)(y:UInt8):AP .or .u8 (y.toNat:Int) (IntKind.u8.wrap (((d / 2^k%2:Nat):Int)*2^min (p%8) 8))=((nb8 d k p y:Nat):Int)∧nb8 d k p y<256:=by
 unfold nb8
 have hy:=y.toNat_lt
 rw[Nat.testBit_eq_decide_div_mod_eq]
 rcases Nat.mod_two_eq_zero_or_one (d / 2^k)with h|h
 · rw[h,if_neg sP]
   have e:IntKind.u8.wrap (((0:Nat):Int)*2^min (p%8) 8)=0:=by simp;decide
   rw[e]
   exact⟨Ahq y,hy⟩
 · rw[h,if_pos sP]
   exact Zw y.toNat (p%8) hy oM
theorem AhC(d k:Nat)(hd:d<2^64)(hk:k≤64):IntKind.u8.wrap (AP .and .u64 ((d:Int).fdiv (2^min k 64)) 1)=((d / 2^k%2:Nat):Int):=by
 have hh:min k 64=min (k:Int).toNat 64:=by omega
 rw[hh,AbG d k hk,QH _ (by have:=Nat.div_le_self d (2^k);omega),IW]
 omega
theorem Ahs{d a k:Nat}{o:List UInt8}{y:UInt8}(h:(Dk d a k o)[(a+k) / 8]? =some y):(Ab (Dk d a k o)).set ((a+k) / 8) [.val (.int .u8 ((nb8 d k (a+k) y:Nat):Int))]=Ab (Dk d a (k+1) o):=by
 have hn:=(Abv d k (a+k) y).2
 have e:[AV.val (.int .u8 ((nb8 d k (a+k) y:Nat):Int))]=FE (UInt8.ofNat (nb8 d k (a+k) y)):=by rw[FE,ofNat_toNat _ hn]
 rw[e,Ab,← List.map_set,Dk]
 show Ab _=_
 congr 1
 unfold nb8
 split
 · rw[Hy,Bz h]
 · rw[UInt8.ofNat_toNat]
   obtain⟨hl,rfl⟩:=List.getElem?_eq_some_iff.1 h
   exact List.set_getElem_self hl
theorem Xn(v:List Int)(h0:0<v.length)(hl:v.length≤16384):D4 252 [.sl 1 (An v)] (BG 3 v) (E8 v):=by
 unfold D4
 have hw:Be v≤64:=HR _ (GZ _ _)
 have hw8:IntKind.u8.wrap ((Be v:Nat):Int)=(((UInt8.ofNat (Be v)).toNat:Nat):Int):=u8w _ oM
 have hd3:=FU 3 v
 have hpl:=C1 (loF v)
 obtain⟨b1,hb1⟩: ∃ b1,b1=BG 3 v++Bc (loF v)++[UInt8.ofNat (Be v)]:=⟨_,rfl⟩
 have hb1l:b1.length≤40:=by rw[hb1];simp only[List.length_append,List.length_cons,List.length_nil];omega
 obtain⟨L,hL⟩: ∃ L,L=(v.length*Be v+7) / 8:=⟨_,rfl⟩
 have hvw:v.length*Be v≤16384*64:=Nat.mul_le_mul hl hw
 have hpk:E8 v=b1++BA v (loF v) (Be v) v.length:=by rw[E8,EO,if_neg oM,hb1];simp only[List.append_assoc]
 rw[hpk]
 have hlen: ∀ i,(BA v (loF v) (Be v) i).length=L:=fun i=>by rw[EZ,hL]
 refine BD 86 1 Tryz.func252 ?_
 refine Aa 0 [0,1] ?_
 refine Ah 1 ?_
 refine Ac 1 ?_
 refine AG (YJ v h0 oM) ?_;rintro _ rfl
 refine Ac 7 ?_
 refine XO.done [0,1,5,6,7] ?_
 refine Aa 2 [0,1,5,6,22] ?_
 refine A3 22 ?_
 refine XW.at 4 ?_;have hx:=MC (loF v) (Ch v v.length)
 refine Ah 4 ?_
 refine A2 5 ?_
 refine AG (show Ae Tryz.prog 226 [U64 (dU (loF v) (Ch v v.length))] (fun r=>r=I (Be v))from Xm _ (GZ _ _)) ?_;rintro _ rfl
 refine Aw 1 ?_
 refine XO.done [0,1,5,8] ?_
 refine XW.at 5 ?_;have hx:=hw8;have hx2:=Em (BG 3 v++Bc (loF v)) (UInt8.ofNat (Be v))
 refine Ah 5 ?_
 refine Aw 2 ?_
 refine AG (OE _) ?_;rintro _ rfl
 refine Fw 0 (QM (BG 3 v) (loF v) oM) ?_
 refine A2 5 ?_
 refine XO.done [0,1,5,8] ?_
 refine XW.at 6 ?_;have hmw:(v.length:Int)*((Be v:Nat):Int)=((v.length*Be v:Nat):Int):=(by push_cast;rfl);have hq:(((v.length*Be v:Nat):Int)+7).tdiv 8=((L:Nat):Int):=(by rw[Int.tdiv_eq_ediv_of_nonneg oM,hL];omega);have hx:=hmw;have hx2:=hq
 refine A4 6 [0,1,5,8,9] ?_
 refine Aa 7 [0,5,8,9,45,46,47] ?_
 refine A8 3 (fun i:Nat=>⟨[(0,.osl 1 b1.length 1),(5,I (loF v)),(8,I (Be v)),(9,.osl 2 L 1),(45,.sl 1 (An v)),(46,I v.length),(47,I i)],[(0,none),(1,some ⟨5,1,Ab b1⟩),(2,some ⟨5,1,Ab (BA v (loF v) (Be v) i)⟩)]⟩) (fun i=>i≤v.length) (fun i=>v.length-i) 0 (AO (And.intro @A5 (And.intro (And.intro BA.eq_1 BA.eq_2) (And.intro @rep0 (And.intro hL hb1)))) [some 0,some 1,some 2] []) ?_ (h0:=Nat.zero_le _);rintro i hI0 Y0 hY0;skip
 refine XW.at 8 ?_;have m1:=hI0
 refine Aa 8 [0,5,8,9,45,46,47,48] ?_
 refine AC 48 (fun c48=>?_) (fun c48=>?_)
 refine XW.at 9 ?_;obtain⟨x,hx,hxm⟩:=Bm v i oM;have hxi:=hx
 refine BJ 9 [0,5,8,9,10,11,45,46,47] ?_
 refine XW.at 10 ?_;have hx:=MC (loF v) x
 refine A4 10 [0,5,8,9,10,12,45,46,47] ?_
 refine Aa 11 [0,5,8,9,10,12,45,46,47,57,58] ?_
 refine A8 3 (fun k:Nat=>⟨[(0,.osl 1 b1.length 1),(5,I (loF v)),(8,I (Be v)),(9,.osl 2 L 1),(10,I i),(12,U64 (dU (loF v) x)),(45,.sl 1 (An v)),(46,I v.length),(47,I i),(57,I (Be v)),(58,I k)],[(0,none),(1,some ⟨5,1,Ab b1⟩),(2,some ⟨5,1,Ab (Dk (dU (loF v) x) (i*Be v) k (BA v (loF v) (Be v) i))⟩)]⟩) (fun k=>k≤Be v) (fun k=>Be v-k) 0 (AO (And.intro (And.intro Dk.eq_1 Dk.eq_2) @A5) [some 0,some 1,some 2] []) ?_ (h0:=Nat.zero_le _);rintro k hI1 Y1 hY1;skip
 refine XW.at 12 ?_;have n1:=hI1
 refine Aa 12 [0,5,8,9,10,12,45,46,47,57,58,59] ?_
 refine AC 59 (fun c59=>?_) (fun c59=>?_)
 refine Aa 13 [0,5,8,9,10,12,13,45,46,47,57,58] ?_
 refine XW.at 14 ?_;have hik:(i+1)*Be v≤v.length*Be v:=Nat.mul_le_mul_right _ oM;rw[Nat.succ_mul]at hik;obtain⟨p,hp⟩: ∃ p,p=i*Be v+k:=⟨_,rfl⟩;have hx:(i:Int)*((Be v:Nat):Int)=((i*Be v:Nat):Int):=(by push_cast;rfl);have hx2:((i*Be v:Nat):Int)+(k:Int)=((p:Nat):Int):=oM
 refine A4 14 [0,5,8,9,10,12,13,14,45,46,47,57,58] ?_
 refine XW.at 15 ?_;have hkl:(Dk (dU (loF v) x) (i*Be v) k (BA v (loF v) (Be v) i)).length=L:=(by rw[Io,hlen]);obtain⟨y,hy,hym⟩:=Bm (Dk (dU (loF v) x) (i*Be v) k (BA v (loF v) (Be v) i)) (p / 8) (by rw[hkl];omega);have hset:=Ahs (y:=y) (by rw[← hp];exact hy);rw[← hp]at hset;have hq8:((p:Nat):Int).tdiv 8=((p / 8:Nat):Int):=(by rw[Int.tdiv_eq_ediv_of_nonneg oM];omega);have hr8:((p:Nat):Int).tmod 8=((p%8:Nat):Int):=(by rw[Int.tmod_eq_emod_of_nonneg oM];omega)
 refine Ah 15 ?_
 refine Aw 2 ?_
 have hx:=hq8;have hx2:=hy
 refine A2 5 ?_
 have hx:=AhC (dU (loF v) x) k (GZ _ _) oM
 refine A2 4 ?_
 have hx:=hr8
 refine A2 1 ?_
 have hx:=(Abv (dU (loF v) x) k p y).1
 refine A2 4 ?_
 refine XO.done [0,5,8,9,10,12,45,46,47,57,58] ?_
 refine AQ 16 [0,5,8,9,10,12,45,46,47,57,58] ?_
 refine XH.le ?_;(exact hY1 (k+1) oM oM _ _ (AO (And.intro hset (And.intro @A5 @M8)) [some 0,some 1,some 2] []))
 refine XW.at 17 ?_;have hk:k=Be v:=oM;have hst:(Dk (dU (loF v) x) (i*Be v) k (BA v (loF v) (Be v) i))=BA v (loF v) (Be v) (i+1):=(by rw[BA,Bz hxi,hk])
 refine A4 17 [0,5,8,9,45,46,47] ?_
 refine XH.le ?_;(exact hY0 (i+1) oM oM _ _ (AO (And.intro hst @A5) [some 0,some 1,some 2] []))
 refine XW.at 18 ?_;have hi:i=v.length:=oM;subst hi
 refine Aa 18 [4] ?_
 refine Aq ?_;((refine XB.ret [some 0,some 1] [] (hids:=⟨by simp[Al],by simp[Al],rfl⟩) (hwk:=?_) (hwh:=?_);(next=>simp[Az,lk,lkh,wk,wkL,wkE,I]);(next=>simp[Am,Ai,Ak,lkh,A5])))
end Go.Proofs.YtpkhodjlnodagaaGreatDoor
