/- Part 28 of the proof of PlanSkipsOnlyWhatCannotMatch. -/
import Derived.Test.YtpkhodjlnodagaaGreatDoorB10
import Derived.Test.YtpkhodjlnodagaaGreatDoorB27
set_option linter.unusedSimpArgs false
set_option linter.unusedVariables false
set_option linter.unusedSectionVars false
namespace Go.Proofs.YtpkhodjlnodagaaGreatDoor
open Go.Av
set_option maxHeartbeats 4000000
attribute [local irreducible] Ad
def Fv(X:List (List Int))(p:Nat)(i:Int):List (List Int):=X.set p (X.getD p []++[i])
theorem Yc(X:List (List Int))(p:Nat)(i:Int):(Fv X p i).length=X.length:=by simp[Fv]
def EE(d:List S)(ws:List S)(i:Nat)(X:List (List Int)):Nat→List (List Int)
 |0=>X
 |k+1=>Fv (EE d ws i X k) (CD d (ws.getD k [])) i
def CN(d:List S)(l:List Ev):Nat→List (List Int)
 |0=>List.replicate d.length []
 |i+1=>EE d (Cf (BH (l.getD i ⟨0,0,0,0,[],0,0,[],[],[]⟩))) i (CN d l i) (Cf (BH (l.getD i ⟨0,0,0,0,[],0,0,[],[],[]⟩))).length
theorem Jj(d ws:List S)(i:Nat)(X:List (List Int)): ∀ k,(EE d ws i X k).length=X.length
 |0=>rfl
 |k+1=>by simp[EE,Yc,Jj d ws i X k]
theorem Hg(d:List S)(l:List Ev): ∀ i,(CN d l i).length=d.length
 |0=>by simp[CN]
 |i+1=>by simp[CN,Jj,Hg d l i]
theorem Yt(Y:List (List Int))(p q:Nat)(i:Int):((Fv Y p i).getD q []).length≤(Y.getD q []).length+1:=by
 unfold Fv
 by_cases h:q<Y.length
 · by_cases hp:p=q
   · subst hp;simp[List.getD,h]
   · simp[List.getD,h,hp,List.getElem?_set_ne hp]
 · simp[List.getD,List.getElem?_eq_none (Nat.le_of_not_lt h),List.getElem?_eq_none (show(Y.set p ((Y[p]?).getD []++[i])).length≤q by simp;omega)]
theorem NJ(d ws:List S)(i:Nat)(X:List (List Int))(b:Nat)(hX: ∀ p,(X.getD p []).length≤b): ∀ k p,((EE d ws i X k).getD p []).length≤b+k
 |0,p=>hX p
 |k+1,p=>by
   have h1:=NJ d ws i X b hX k p
   have h2:=Yt (EE d ws i X k) (CD d (ws.getD k [])) p i
   rw[EE];omega
theorem SA(d:List S)(l:List Ev)(h: ∀ e∈l,(Cf (BH e)).length≤80041): ∀ i,i≤l.length→ ∀ p,((CN d l i).getD p []).length≤i*80041
 |0,_,p=>by
   simp only[CN,List.getD,List.getElem?_replicate]
   split<;>simp
 |i+1,hi,p=>by
   have h1:=SA d l h i oM
   have e:l.getD i ⟨0,0,0,0,[],0,0,[],[],[]⟩=l[i]:=by simp[List.getD,show i<l.length by omega]
   have h2:=NJ d (Cf (BH l[i])) i (CN d l i) _ h1 (Cf (BH l[i])).length p
   have h3:=h l[i] (List.getElem_mem _)
   rw[CN,e];omega
theorem M4(X:List (List Int)): ∀ L∈X.map An,AB 0 L=true:=by
 intro L hL
 obtain⟨v,_,rfl⟩:=List.mem_map.1 hL
 simp
end Go.Proofs.YtpkhodjlnodagaaGreatDoor
namespace Go.Proofs.YtpkhodjlnodagaaGreatDoor
open Go.Av
def LOk(b:Nat)(L:List Int):Prop:=L.Pairwise (· < ·)∧ ∀ x∈L,0≤x∧x<(b:Int)
theorem LOk.up{b b':Nat}{L:List Int}(h:b≤b')(hl:LOk b L):LOk b' L:=⟨hl.1,fun x hx=>by have:=hl.2 x hx;omega⟩
theorem LOk.snoc{b:Nat}{L:List Int}(hl:LOk b L):LOk (b+1) (L++[(b:Int)]):=by
 refine⟨?_,?_⟩
 · rw[List.pairwise_append]
   exact⟨hl.1,sP,fun a ha c hc=>by rw[List.mem_singleton.1 hc];exact(hl.2 a ha).2⟩
 · intro x hx
   rcases List.mem_append.1 hx with hx|hx
   · have:=hl.2 x hx;omega
   · rw[List.mem_singleton.1 hx];omega
theorem U2: ∀ (L:List Int) (a b:Int),L.Pairwise (· < ·)→(∀ x∈L,a≤x∧x<b)→(L.length:Int)≤max 0 (b-a)
 | [],a,b,_,_=>by simp;omega
 |x::L,a,b,h,hr=>by
   have h1:=List.pairwise_cons.1 h
   have h2:=U2 L (x+1) b h1.2 (fun y hy=>⟨by have:=h1.1 y hy;omega,(hr y (by simp[hy])).2⟩)
   have h3:=hr x sP
   simp only[List.length_cons];omega
theorem LOk.post{b:Nat}{L:List Int}(h:LOk b L)(hb:b≤4096):Post L:=by
 have:=U2 L 0 b h.1 h.2
 refine⟨oM,fun i hi=>?_,fun i hi=>?_⟩
 · have:=h.2 _ (List.getElem_mem hi);omega
 · exact List.pairwise_iff_getElem.1 h.1 i (i+1) oM hi oM
theorem AaJ(Y:List (List Int))(p:Nat)(i:Int)(h:p<Y.length):(Fv Y p i).getD p []=Y.getD p []++[i]:=by
 unfold Fv;simp[List.getD,h]
theorem Aai(Y:List (List Int))(p q:Nat)(i:Int)(h:p≠q):(Fv Y p i).getD q []=Y.getD q []:=by
 unfold Fv;simp[List.getD,List.getElem?_set_ne h]
theorem Ud(d ws:List S)(i:Nat)(X:List (List Int))(hd:d.Pairwise ltS)(hws:ws.Pairwise ltS)(hm: ∀ w∈ws,w∈d)(hX:X.length=d.length)(h0: ∀ p,LOk i (X.getD p [])):
   ∀ k,k≤ws.length→ ∀ p,LOk (i+1) ((EE d ws i X k).getD p [])∧((∀ j,j<k→CD d (ws.getD j [])≠p)→LOk i ((EE d ws i X k).getD p []))
 |0,_,p=>⟨(h0 p).up oM,fun _=>h0 p⟩
 |k+1,hk,p=>by
   have IH:=Ud d ws i X hd hws hm hX h0 k oM
   have hwk:ws.getD k []=ws[k]:=by simp[List.getD,show k<ws.length by omega]
   have hg:=Fa d ws[k] hd (hm _ (List.getElem_mem _))
   rw[EE]
   by_cases hp:CD d (ws.getD k [])=p
   · subst hp
     have hfresh: ∀ j,j<k→CD d (ws.getD j [])≠CD d (ws.getD k []):=by
       intro j hj he
       have hwj:ws.getD j []=ws[j]:=by simp[List.getD,show j<ws.length by omega]
       have hgj:=Fa d ws[j] hd (hm _ (List.getElem_mem _))
       rw[hwj,hwk]at he
       rw[he,hg.1]at hgj
       have hlt:=List.pairwise_iff_getElem.1 hws j k oM oM hj
       have:ws[k]=ws[j]:=by simpa using hgj.1
       rw[this]at hlt
       exact C3 _ hlt
     rw[AaJ _ _ _ (by rw[Jj,hX,hwk];exact hg.2)]
     exact⟨((IH _).2 hfresh).snoc,fun h=>absurd rfl (h k oM)⟩
   · rw[Aai _ _ _ _ hp]
     exact⟨(IH p).1,fun h=>(IH p).2 (fun j hj=>h j oM)⟩
theorem Uv(d:List S)(l:List Ev)(hd:d.Pairwise ltS)(hww: ∀ e∈l,∀ w∈Cf (BH e),w∈d): ∀ i,i≤l.length→ ∀ p,LOk i ((CN d l i).getD p [])
 |0,_,p=>by
   simp only[CN,List.getD,List.getElem?_replicate]
   split<;>exact⟨sP,sP⟩
 |i+1,hi,p=>by
   have IH:=Uv d l hd hww i oM
   have e:l.getD i ⟨0,0,0,0,[],0,0,[],[],[]⟩=l[i]:=by simp[List.getD,show i<l.length by omega]
   rw[CN,e]
   exact(Ud d _ i _ hd (BO _) (hww l[i] (List.getElem_mem _)) (Hg d l i) IH _ (Nat.le_refl _) p).1
theorem J2(d:List S)(l:List Ev)(hl:l.length≤4096)(hd:d.Pairwise ltS)(hww: ∀ e∈l,∀ w∈Cf (BH e),w∈d): ∀ L∈CN d l l.length,Post L:=by
 intro L hL
 obtain⟨p,hp,rfl⟩:=List.getElem_of_mem hL
 have:=Uv d l hd hww l.length (Nat.le_refl _) p
 rw[show(CN d l l.length).getD p []=(CN d l l.length)[p] by simp[List.getD,hp]]at this
 exact this.post hl
theorem P4(l:List Ev): ∀ e∈l,∀ w∈Cf (BH e),w∈AR l:=by
 intro e he w hw
 refine(Cd _ _).2 ?_
 unfold Fc
 rw[List.take_length]
 exact List.mem_flatMap.2 ⟨e,he,hw⟩
end Go.Proofs.YtpkhodjlnodagaaGreatDoor
namespace Go.Proofs.YtpkhodjlnodagaaGreatDoor
open Go.Av
set_option maxHeartbeats 4000000
attribute [local irreducible] Ad
def Kl(d:List S)(X:List (List Int))(i:Nat):List UInt8:=AE (AM d)++(X.take i).flatMap fun L=>AE (Bt L)
theorem WU(d:List S)(X:List (List Int))(i:Nat)(h:i<X.length):Kl d X (i+1)=Kl d X i++AE (Bt X[i]):=by
 unfold Kl
 rw[List.take_add_one,List.getElem?_eq_getElem h,List.flatMap_append]
 simp only[Option.toList,List.flatMap_cons,List.flatMap_nil,List.append_nil,List.append_assoc]
theorem NM(d:List S)(X:List (List Int))(hc:Bb d=0)(hX: ∀ L∈X,Post L): ∀ i,i≤X.length→(Kl d X i).length≤70000000+i*100011
 |0,_=>by
   have h1:=FL d hc
   have h2:=Dj (AM d)
   have h3:=(Es d hc).2
   simp[Kl];omega
 |i+1,hi=>by
   have:=NM d X hc hX i oM
   have h1:=DE X[i] (hX _ (List.getElem_mem _))
   have h2:=Dj (Bt X[i])
   rw[WU d X i oM,List.length_append];omega
def GQ(l:List Ev):List UInt8:=Kl (AR l) (CN (AR l) l l.length) (CN (AR l) l l.length).length
theorem KN(l:List Ev): ∀ s∈Fc l l.length,s.length≤2048:=by
 intro s hs
 unfold Fc at hs
 obtain⟨e,he,hs⟩:=List.mem_flatMap.1 hs
 have:=LZ _ s hs;omega
theorem AdG(l:List Ev)(hl:l.length≤4096)(h: ∀ e∈l,EvT e)(hw:(AR l).length≤32768):Ad Tryz.prog 107 [.sl 10 (evE l)] [] (.osl 0 (GQ l).length 1) [some ⟨5,1,Ab (GQ l)⟩]:=by
 have hww:=P4 l
 have hds0:(AR l).Pairwise ltS:=BO _
 have hpost:=J2 (AR l) l hl hds0 hww
 have hc:Bb (AR l)=0:=Er _ hw (KN l)
 have hxb:=NM (AR l) (CN (AR l) l l.length) hc hpost
 have hxs:=WU (AR l) (CN (AR l) l l.length)
 have q5:=I8 (AR l) hc oM (Nv _ hc)
 have hel:=FL _ hc
 have q6:=JJ (AM (AR l)) oM
 have hbl:=Dj (AM (AR l))
 have hx0:Kl (AR l) (CN (AR l) l l.length) 0=AE (AM (AR l)):=by simp[Kl]
 have hxL:=Hg (AR l) l l.length
 unfold GQ
 clear hc hds0
 refine acN 71 0 Tryz.func107 fun C hN hk=>?_
 have q0:=Q9 l hl h
 have hwl0: ∀ e∈l,(Cf (BH e)).length≤80041:=by
   intro e he
   have h1:=E5 (BH e)
   have h2:=Gl e (h e he)
   omega
 have hds:(AR l).Pairwise ltS:=BO _
 generalize Kl (AR l) (CN (AR l) l l.length)=xb at*
 generalize AE (AM (AR l))=bd at*
 generalize AM (AR l)=ed at*
 generalize AR l=d at*
 refine Af [0] ?_
 refine Af [0,3] ?_ (onc 1 (pcq q0) noc)
 refine Af [0,3,4] ?_
 refine Af [0,3,4,5] ?_
 have FC: ∀ env:List (Nat×AV),K8 2 env=true→FamC 1 env [(0,some ⟨9,1,Au d⟩)]:=fun env he=>⟨rfl,by simp[Kz],he⟩
 refine LW (o:=1) (sz:=1) (ty:=3) (oty:=43) (m:=d.length) (hp:=[(0,some ⟨9,1,Au d⟩)]) hk oM (FC _ rfl) ?_
 refine JD (k:=0) (fun i:Nat=>SO [(0,.sl 10 (evE l)),(3,.osl 0 d.length 1),(4,.osl 1 d.length 1),(5,I i)] [(0,some ⟨9,1,Au d⟩)] 1 1 3 43 ((CN d l i).map An)) (fun i=>i≤l.length) (fun i=>l.length-i) 0 oM (by simp[CN,I]) ?_
 intro i h1
 have hpl:=M4 (CN d l i)
 have hxl:=Hg d l i
 have hm:1+1+d.length=1+1+((CN d l i).map An).length:=by simp[hxl]
 have hno:((CN d l i).map An)[d.length]? =none:=by simp[hxl]
 by_cases hi:i<l.length
 · have hx:=List.getElem?_eq_getElem hi
   have he:=h _ (List.getElem_mem hi)
   have q0:=Oj l[i] he.nl he.tx
   have hwl:=E5 (BH l[i])
   have ht:=Gl l[i] he
   have q1:=MA (BH l[i]) oM
   have hpx:CN d l (i+1)=EE d (Cf (BH l[i])) i (CN d l i) (Cf (BH l[i])).length:=by
     rw[CN,show l.getD i ⟨0,0,0,0,[],0,0,[],[],[]⟩=l[i] by simp[List.getD,hi]]
   have hmem: ∀ w∈Cf (BH l[i]),w∈d:=hww l[i] (List.getElem_mem hi)
   generalize Cf (BH l[i])=ws at*
   generalize BH l[i]=tx at*
   generalize l[i]=ev at*
   generalize hXe:CN d l i=X at*
   refine nx ?_
   rw[hm]
   refine B1 hN hk (d.length) (.normal) [(0,.sl 10 (evE l)),(3,.osl 0 d.length 1),(4,.osl 1 d.length 1),(5,I i),(20,B true)] [(0,some ⟨9,1,Au d⟩)] 1 (none) oM (FC _ rfl) hpl oM (FC _ rfl) sP (by first|(simp;done)|(simp[hxl];done)|(simp[hxl];omega)) ?_ ?_
   · intro C vs hN hk hvl
     rw[hno]
     simp only[Go.Av.ST,CK,Option.map_none,List.cons_append,List.nil_append,Nat.reduceAdd]
     refine nx ?_
     refine B8 Bh hN hk (noc) [0,1,2] [0,3,4,5,20] 3 oM rfl dK (fun K hK=>?_)
     simp only[go_sem,seval]
     try simp (disch:=omega) only[au]
     (first|with_reducible refine hK _ _ ?_|refine obK (hK _ _ ?_));clear hK K;refine nx ?_
     refine⟨rfl,[some 0,some 1],[],⟨by simp[Al],by simp[Al],sP⟩,sP,by simp[AK,lk,lkh,I,str,B,U8,U64,U32]<;>omega,by first|(simp[Am,Ai,Ak,lkh];done)|(simp[Am,Ai,Ak,lkh,I,str];done)|simp[Am,Ai,Ak,lkh,I,str]⟩
   rw[← hm]
   refine As ?_
   refine AX rfl (AW.skip (As ?_))
   simp only[BC]
   refine nx ?_
   rw[hm]
   refine B1 hN hk (d.length) (.normal) [(0,.sl 10 (evE l)),(3,.osl 0 d.length 1),(4,.osl 1 d.length 1),(5,I i),(6,.sl 1 (Au ws))] [(0,some ⟨9,1,Au d⟩)] 1 (none) oM (FC _ rfl) hpl oM (FC _ rfl) sP (by first|(simp;done)|(simp[hxl];done)|(simp[hxl];omega)) ?_ ?_
   · intro C vs hN hk hvl
     rw[hno]
     simp only[Go.Av.ST,CK,Option.map_none,List.cons_append,List.nil_append,Nat.reduceAdd]
     refine nx ?_
     refine B8 Bh hN hk (onc 4 (pcq q0) (onc 5 (pcq q1) noc)) [0,1,2] [0,3,4,5,6] 3 oM rfl dK (fun K hK=>?_)
     simp only[go_sem,seval,hx];refine obK (hK _ _ ?_)
     clear hK K;refine nx ?_
     refine⟨rfl,[some 0,some 1],[3],⟨by simp[Al],by simp[Al],sP⟩,sP,by simp[AK,lk,lkh,I,str,B,U8,U64,U32]<;>omega,by first|(simp[Am,Ai,Ak,lkh];done)|(simp[Am,Ai,Ak,lkh,I,str];done)|simp[Am,Ai,Ak,lkh,I,str]⟩
   rw[← hm]
   refine As ?_
   simp only[BC]
   refine nx ?_
   rw[hm]
   refine B1 hN hk (d.length) (.normal) [(0,.sl 10 (evE l)),(3,.osl 0 d.length 1),(4,.osl 1 d.length 1),(5,I i),(6,.sl 1 (Au ws)),(7,I 0)] [(0,some ⟨9,1,Au d⟩)] 1 (none) oM (FC _ rfl) hpl oM (FC _ rfl) sP (by first|(simp;done)|(simp[hxl];done)|(simp[hxl];omega)) ?_ ?_
   · intro C vs hN hk hvl
     rw[hno]
     simp only[Go.Av.ST,CK,Option.map_none,List.cons_append,List.nil_append,Nat.reduceAdd]
     refine nx ?_
     refine B8 Bh hN hk (noc) [0,1,2] [0,3,4,5,6,7] 3 oM rfl dK (fun K hK=>?_)
     simp only[go_sem,seval];refine hK _ _ ?_
     clear hK K;refine nx ?_
     refine⟨rfl,[some 0,some 1],[],⟨by simp[Al],by simp[Al],sP⟩,sP,by simp[AK,lk,lkh,I,str,B,U8,U64,U32]<;>omega,by first|(simp[Am,Ai,Ak,lkh];done)|(simp[Am,Ai,Ak,lkh,I,str];done)|simp[Am,Ai,Ak,lkh,I,str]⟩
   rw[← hm]
   refine As ?_
   simp only[BC]
   clear hpl hno hm
   refine nx ?_
   refine JD (k:=0) (fun k:Nat=>SO [(0,.sl 10 (evE l)),(3,.osl 0 d.length 1),(4,.osl 1 d.length 1),(5,I i),(6,.sl 1 (Au ws)),(7,I k)] [(0,some ⟨9,1,Au d⟩)] 1 1 3 43 ((EE d ws i X k).map An)) (fun k=>k≤ws.length) (fun k=>ws.length-k) 0 oM (by simp[EE]) ?_
   intro k h2
   have hpl:=M4 (EE d ws i X k)
   have hxl2:=Jj d ws i X k
   have hm:1+1+d.length=1+1+((EE d ws i X k).map An).length:=by simp[hxl2,hxl]
   have hno:((EE d ws i X k).map An)[d.length]? =none:=by simp[hxl2,hxl]
   by_cases hk2:k<ws.length
   · have hy:=List.getElem?_eq_getElem hk2
     have hget:=Fa d ws[k] hds (hmem _ (List.getElem_mem hk2))
     have q2:=Oz d ws[k] oM
     have hpk:EE d ws i X (k+1)=Fv (EE d ws i X k) (CD d ws[k]) i:=by
       rw[EE,show ws.getD k []=ws[k] by simp[List.getD,hk2]]
     generalize ws[k]=wd at*
     generalize hpe:CD d wd=p at*
     generalize DV d wd=pb at*
     generalize hYe:EE d ws i X k=Y at*
     have hpl2:p<Y.length:=by omega
     have hat:(Y.map An)[p]? =some (An (Y.getD p [])):=by simp[List.getD,hpl2]
     have hYl:(Y.getD p []).length≤i*80041+k:=by rw[← hYe,← hXe];exact NJ d ws i _ _ (SA d l hwl0 i h1) k p
     generalize hZe:Y.getD p []=Z at*
     rw[hm]
     refine B1 hN hk p .normal [(0,.sl 10 (evE l)),(3,.osl 0 d.length 1),(4,.osl 1 d.length 1),(5,I i),(6,.sl 1 (Au ws)),(7,I (k+1:Nat))] [(0,some ⟨9,1,Au d⟩)] 1 (some (An (Z++[(i:Int)]))) oM (FC _ rfl) hpl oM (FC _ rfl) sP sO ?_ ?_
     · intro C vs hN hk hvl
       rw[hat]
       simp only[Go.Av.ST,CK,Option.map_some,List.cons_append,List.nil_append,Nat.reduceAdd]
       have hvp:p<vs.length:=by rw[hvl];simpa using hpl2
       have hv0:=fun c=>Hl (c:=c) hvp
       refine nx ?_
       refine B8 Bh hN hk (noc) [0,1,2] [0,3,4,5,6,7,32] 3 oM rfl dK (fun K hK=>?_)
       simp only[go_sem,seval]
       try simp (disch:=omega) only[au]
       (first|with_reducible refine hK _ _ ?_|refine obK (hK _ _ ?_));clear hK K;refine nx ?_
       refine cT ?_;refine nx ?_
       refine B8 Bh hN hk (onc 5 (bcq [0] q2) noc) [0,1,2] [0,3,4,5,6,7,8] 3 oM rfl dK (fun K hK=>?_)
       simp only[go_sem,seval,hy];refine obK (hK _ _ ?_)
       clear hK K;refine nx ?_
       refine B8 Bh hN hk (noc) [0,1,2] [0,3,4,5,6,7,52] 3 oM rfl dK (fun K hK=>?_)
       simp only[go_sem,seval,hv0]
       (first|with_reducible refine hK _ _ ?_|refine obK (hK _ _ ?_));clear hK K;refine nx ?_
       refine B8 Bh hN hk (noc) [0,1,2] [0,3,4,5,6,7,52] 3 oM rfl dK (fun K hK=>?_)
       simp only[go_sem,seval]
       try simp (disch:=omega) only[au]
       refine hK _ _ ?_;clear hK K;refine nx ?_
       refine⟨rfl,[some 0,some 1,some 3],[],⟨by simp[Al],by simp[Al],sP⟩,sP,by simp[AK,lk,lkh,I,str,B,U8,U64,U32,Cg hvp]<;>omega,by first|(simp[Am,Ai,Ak,lkh,Cg hvp];done)|(simp[Am,Ai,Ak,lkh,I,str,Cg hvp];done)|simp[Am,Ai,Ak,lkh,I,str,Cg hvp]⟩
     · refine As ⟨by first|rfl|exact hm.symm,k+1,oM,oM,?_⟩
       simp only[BC]
       rw[hpk]
       unfold Fv
       rw[hZe,List.map_set]
   · have hke:k=ws.length:=by omega
     rw[hm]
     refine B1 hN hk d.length (.exit 2) [(0,.sl 10 (evE l)),(3,.osl 0 d.length 1),(4,.osl 1 d.length 1),(5,I i)] [(0,some ⟨9,1,Au d⟩)] 1 none oM (FC _ rfl) hpl oM (FC _ rfl) sP (by simp[hxl2,hxl]) ?_ ?_
     · intro C vs hN hk hvl
       rw[hno]
       simp only[Go.Av.ST,CK,Option.map_none,List.cons_append,List.nil_append,Nat.reduceAdd]
       refine nx ?_
       refine B8 Bh hN hk (noc) [0,1,2] [0,3,4,5,6,7,32] 3 oM rfl dK (fun K hK=>?_)
       simp only[go_sem,seval]
       try simp (disch:=omega) only[au]
       (first|with_reducible refine hK _ _ ?_|refine obK (hK _ _ ?_));clear hK K;refine nx ?_
       refine cF ?_;refine nx ?_
       refine⟨rfl,[some 0,some 1],[],⟨by simp[Al],by simp[Al],sP⟩,sP,by simp[AK,lk,lkh,I,str,B,U8,U64,U32]<;>omega,by first|(simp[Am,Ai,Ak,lkh];done)|(simp[Am,Ai,Ak,lkh,I,str];done)|simp[Am,Ai,Ak,lkh,I,str]⟩
     · refine nx ?_
       simp only[BC]
       refine B1 hN hk d.length .normal [(0,.sl 10 (evE l)),(3,.osl 0 d.length 1),(4,.osl 1 d.length 1),(5,I (i+1:Nat))] [(0,some ⟨9,1,Au d⟩)] 1 none oM (FC _ rfl) hpl oM (FC _ rfl) sP (by simp[hxl2,hxl]) ?_ ?_
       · intro C vs hN hk hvl
         rw[hno]
         simp only[Go.Av.ST,CK,Option.map_none,List.cons_append,List.nil_append,Nat.reduceAdd]
         refine nx ?_
         refine B8 Bh hN hk (noc) [0,1,2] [0,3,4,5] 3 oM rfl dK (fun K hK=>?_)
         simp only[go_sem,seval]
         try simp (disch:=omega) only[au]
         refine hK _ _ ?_;clear hK K;refine nx ?_
         refine⟨rfl,[some 0,some 1],[],⟨by simp[Al],by simp[Al],sP⟩,sP,by simp[AK,lk,lkh,I,str,B,U8,U64,U32]<;>omega,by first|(simp[Am,Ai,Ak,lkh];done)|(simp[Am,Ai,Ak,lkh,I,str];done)|simp[Am,Ai,Ak,lkh,I,str]⟩
       · refine As ⟨by first|rfl|exact hm.symm,i+1,oM,oM,?_⟩
         simp only[BC]
         rw[hpx,hke]
 · have hie:i=l.length:=by omega
   rw[hm]
   refine B1 hN hk d.length (.exit 0) [(3,.osl 0 d.length 1),(4,.osl 1 d.length 1)] [(0,some ⟨9,1,Au d⟩)] 1 none oM (FC _ rfl) hpl oM (FC _ rfl) sP (by simp[hxl]) ?_ ?_
   · intro C vs hN hk hvl
     rw[hno]
     simp only[Go.Av.ST,CK,Option.map_none,List.cons_append,List.nil_append,Nat.reduceAdd]
     refine nx ?_
     refine B8 Bh hN hk (noc) [0,1,2] [0,3,4,5,20] 3 oM rfl dK (fun K hK=>?_)
     simp only[go_sem,seval]
     try simp (disch:=omega) only[au]
     (first|with_reducible refine hK _ _ ?_|refine obK (hK _ _ ?_));clear hK K;refine nx ?_
     refine cF ?_;refine nx ?_
     refine⟨rfl,[some 0,some 1],[],⟨by simp[Al],by simp[Al],sP⟩,sP,by simp[AK,lk,lkh,I,str,B,U8,U64,U32]<;>omega,by first|(simp[Am,Ai,Ak,lkh];done)|(simp[Am,Ai,Ak,lkh,I,str];done)|simp[Am,Ai,Ak,lkh,I,str]⟩
   refine nx ?_
   simp only[BC]
   rw[← hm,hie]
   subst hie
   generalize CN d l l.length=X at*
   have FO:=ML (sz:=1) (ty:=3) (oty:=43) (FC [(3,.osl 0 d.length 1),(4,.osl 1 d.length 1)] rfl) hpl
   refine IR hk 2 ⟨[(3,.osl 0 d.length 1),(4,.osl 1 d.length 1)],[(0,some ⟨9,1,Au d⟩),(1,some ⟨43,1,iiE X⟩)]⟩ (CL [some 0,some 1] (List.range' 2 X.length) (by simp[AK,lk,SO]) ?_) ?_
   · refine⟨.inl ⟨0,⟨9,1,Au d⟩,rfl,rfl,rfl,rfl,.inl ⟨rfl,sP⟩⟩,.inl ⟨1,⟨43,1,He 2 1 (X.map An)⟩,rfl,rfl,rfl,rfl,.inr ?_⟩,trivial⟩
     have:=Mx (hp:=lkh (SO [(3,.osl 0 d.length 1),(4,.osl 1 d.length 1)] [(0,some ⟨9,1,Au d⟩)] 1 1 3 43 (X.map An)).hp) (ids:=[some 0,some 1]) (D:=List.range' 2 X.length) (ty:=3) (sz:=1) (X.map An) 2 (fun j hj=>by simp at hj ⊢;omega) (fun j L hj=>FO.inn j L hj) hpl
     rw[List.map_map]at this
     exact this
   refine IR hk 1 ⟨[(3,.osl 0 d.length 1),(4,.sl 1 (iiE X))],[(0,some ⟨9,1,Au d⟩)]⟩ (Hb hxL [some 0] [1]) ?_
   refine Af [3,4,10] ?_ (onc 1 (bcq [0] q5) (onc 2 (bcq [9] q6) noc))
   refine Af [3,4,10,11] ?_
   refine lpF hk 2 (fun i:Nat=>⟨[(3,.osl 0 d.length 1),(4,.sl 1 (iiE X)),(10,.osl 1 (xb i).length 1),(11,I i)],[(0,some ⟨9,1,Au d⟩),(1,some ⟨5,1,Ab (xb i)⟩)]⟩) (fun i=>i≤X.length) (fun i=>X.length-i) 0 (Cz hx0 [some 0,some 1] []) ?_
   intro i h1
   have hbi:=hxb i h1
   by_cases hi:i<X.length
   · have hx:=List.getElem?_eq_getElem hi
     have hp:=hpost _ (List.getElem_mem hi)
     have hs:=hxs i hi
     have q7:=N8 X[i] hp
     have e1:=DE X[i] hp
     have q8:=H1 (xb i) (Bt X[i]) oM oM
     have e2:=Dj (Bt X[i])
     generalize AE (Bt X[i])=x1 at*
     generalize Bt X[i]=x2 at*
     generalize X[i]=L at*
     generalize xb i=x3 at*
     refine AL [3,4,10,11,60] ?_
     refine cT ?_;refine Do [3,4,10,11] ?_ (onc 5 (pcq q7) (onc 6 (NU 1 [42] q8) noc))
     refine AL [3,4,10,11] ?_
     refine eE (i+1) (Oa [some 0,some 1] [])
   · have:i=X.length:=by omega
     subst this
     refine AL [3,4,10,11,60] ?_
     refine cF ?_;refine Af [2] ?_
     refine AW.ret (Dx [some 0] [])
structure SegOk(l:List Ev):Prop where
 len:l.length≤4096
 ev: ∀ e∈l,EvT e
 tr: ∀ e∈l,e.trace.length≤2048∧e.stream.length≤2048
 lines:(l.flatMap Ev.lines).length≤16384
 names:(AH l).length≤32768
 words:(AR l).length≤32768
def EA{β:Type}(f:Ev→β)(l:List Ev)(i:Nat):List β:=(l.take i).map f
theorem Pt{β:Type}(f:Ev→β)(l:List Ev)(i:Nat)(h:i<l.length):EA f l (i+1)=EA f l i++[f l[i]]:=by
 unfold EA
 rw[List.take_add_one,List.getElem?_eq_getElem h]
 simp only[Option.toList,List.map_append,List.map_cons,List.map_nil]
theorem LQ{β:Type}(f:Ev→β)(l:List Ev)(i:Nat):(EA f l i).length≤l.length:=by simp[EA];omega
theorem Mr{β:Type}(f:Ev→β)(l:List Ev):EA f l l.length=l.map f:=by simp[EA]
noncomputable def Dz(l:List Ev)(k:Nat):List UInt8:=
 if k=7 then ixF (l.map Ev.trace)else if k=8 then ixF (l.map Ev.stream)else if k=9 then Fk l else if k=10 then D7 l else if k=11 then GQ l else if k=12 then JP l
 else AZ (l.map fun e=>CM e k)
theorem Yd(l:List Ev)(H:SegOk l)(k:Nat)(h1:1≤k)(h12:k≤12):Ad Tryz.prog 58 [.sl 10 (evE l),I k] [] (.osl 0 (Dz l k).length 1) [some ⟨5,1,Ab (Dz l k)⟩]:=by
 refine acN 72 0 Tryz.func58 fun C hN hk=>?_
 have hl:=H.len
 by_cases h6:k≤6
 · have e:Dz l k=AZ (l.map fun e=>CM e k):=by
     unfold Dz;rw[if_neg oM,if_neg oM,if_neg oM,if_neg oM,if_neg oM,if_neg oM]
   rw[e]
   have hm0:EA (fun e=>CM e k) l 0=[]:=rfl
   refine Af [0,1] ?_
   refine Af [0,1,5] ?_
   refine Af [0,1,5,9] ?_
   refine AL [0,1,5,9,10] ?_;refine cF ?_;refine AL [0,1,5,9,10] ?_;refine cF ?_;refine AL [0,1,9,39] ?_;refine cF ?_;refine AL [0,1,9,43] ?_;refine cF ?_;refine AL [0,1,9,47] ?_;refine cF ?_;refine AL [0,1,51] ?_;refine cF ?_;refine Af [0,1,7] ?_
   refine Af [0,1,7,8] ?_
   refine lpF hk 1 (fun i:Nat=>⟨[(0,.sl 10 (evE l)),(1,I k),(7,.osl 0 (EA (fun e=>CM e k) l i).length 1),(8,I i)],[(0,some ⟨3,1,An (EA (fun e=>CM e k) l i)⟩)]⟩) (fun i=>i≤l.length) (fun i=>l.length-i) 0 (Cz hm0 [none] []) ?_
   intro i hi0
   have hml:=LQ (fun e=>CM e k) l i
   by_cases hi:i<l.length
   · have hx:=List.getElem?_eq_getElem hi
     have hs:=Pt (fun e=>CM e k) l i hi
     have q:=Aan l[i] k h1 h6
     generalize EA (fun e=>CM e k) l i=o at*
     generalize CM l[i] k=v at*
     generalize l[i]=ev at*
     refine AL [0,1,7,8,58] ?_
     refine cT ?_;refine Do [0,1,7,8] ?_ (onc 6 (pcq q) noc)
     refine AL [0,1,7,8] ?_
     refine eE (i+1) (Oa [some 0] [])
   · have:i=l.length:=by omega
     subst this
     rw[Mr]at*
     generalize l.map (fun e=>CM e k)=o at*
     have q:=H5 o oM
     refine AL [0,1,7,8,58] ?_
     refine cF ?_;refine Af [4] ?_ (onc 1 (bcq [0] q) noc)
     refine AW.ret (Dx [some 0] [])
 · obtain rfl|rfl|rfl|rfl|rfl|rfl:k=7∨k=8∨k=9∨k=10∨k=11∨k=12:=by omega
   · have e:Dz l 7=ixF (l.map Ev.trace):=rfl
     rw[e]
     have hm0:EA Ev.trace l 0=[]:=rfl
     refine Af [0,1] ?_
     refine Af [0,1,5] ?_
     refine Af [0,1,5,9] ?_
     refine AL [0,1,5,9,10] ?_;refine cT ?_;refine nx ?_;refine cT ?_;refine Af [0,1,5,6] ?_
     refine lpF hk 1 (fun i:Nat=>⟨[(0,.sl 10 (evE l)),(1,I 7),(5,.osl 0 (EA Ev.trace l i).length 1),(6,I i)],[(0,some ⟨9,1,Au (EA Ev.trace l i)⟩)]⟩) (fun i=>i≤l.length) (fun i=>l.length-i) 0 (Cz hm0 [none] []) ?_
     intro i hi0
     have hml:=LQ Ev.trace l i
     by_cases hi:i<l.length
     · have hx:=List.getElem?_eq_getElem hi
       have hs:=Pt Ev.trace l i hi
       generalize EA Ev.trace l i=o at*
       generalize l[i]=ev at*
       have F:=hx;refine A6 [0,1,5,6,16] ?_;clear F
       refine cT ?_;have F:=hx;refine A6 [0,1,5,6,20] ?_;clear F;refine cT ?_;refine Do [0,1,5,6] ?_
       have F:=hx;refine A6 [0,1,5,6] ?_;clear F
       refine eE (i+1) (Oa [some 0] [])
     · have:i=l.length:=by omega
       subst this
       have hsh: ∀ t∈l.map Ev.trace,t.length≤2048:=by
         intro t ht;obtain⟨e,he,rfl⟩:=List.mem_map.1 ht;exact(H.tr e he).1
       rw[Mr]at*
       have q:=LS (l.map Ev.trace) (by simpa using hl) hsh
       generalize l.map Ev.trace=o at*
       generalize ixF o=x at*
       refine AL [0,1,5,6,16] ?_
       refine cF ?_;refine Af [4] ?_ (onc 1 (bcq [0] q) noc)
       refine AW.ret (Dx [some 0] [])
   · have e:Dz l 8=ixF (l.map Ev.stream):=rfl
     rw[e]
     have hm0:EA Ev.stream l 0=[]:=rfl
     refine Af [0,1] ?_
     refine Af [0,1,5] ?_
     refine Af [0,1,5,9] ?_
     refine AL [0,1,5,9,10] ?_;refine cF ?_;refine AL [0,1,5,9,10] ?_;refine cT ?_;refine Af [0,1,5,6] ?_
     refine lpF hk 1 (fun i:Nat=>⟨[(0,.sl 10 (evE l)),(1,I 8),(5,.osl 0 (EA Ev.stream l i).length 1),(6,I i)],[(0,some ⟨9,1,Au (EA Ev.stream l i)⟩)]⟩) (fun i=>i≤l.length) (fun i=>l.length-i) 0 (Cz hm0 [none] []) ?_
     intro i hi0
     have hml:=LQ Ev.stream l i
     by_cases hi:i<l.length
     · have hx:=List.getElem?_eq_getElem hi
       have hs:=Pt Ev.stream l i hi
       generalize EA Ev.stream l i=o at*
       generalize l[i]=ev at*
       have F:=hx;refine A6 [0,1,5,6,16] ?_;clear F
       refine cT ?_;have F:=hx;refine A6 [0,1,5,6,20] ?_;clear F;refine cF ?_;refine Do [0,1,5,6] ?_
       have F:=hx;refine A6 [0,1,5,6] ?_;clear F
       refine eE (i+1) (Oa [some 0] [])
     · have:i=l.length:=by omega
       subst this
       have hsh: ∀ t∈l.map Ev.stream,t.length≤2048:=by
         intro t ht;obtain⟨e,he,rfl⟩:=List.mem_map.1 ht;exact(H.tr e he).2
       rw[Mr]at*
       have q:=LS (l.map Ev.stream) (by simpa using hl) hsh
       generalize l.map Ev.stream=o at*
       generalize ixF o=x at*
       refine AL [0,1,5,6,16] ?_
       refine cF ?_;refine Af [4] ?_ (onc 1 (bcq [0] q) noc)
       refine AW.ret (Dx [some 0] [])
   · have e:Dz l 9=Fk l:=rfl
     rw[e]
     have q:=AcB l hl H.ev H.lines
     generalize Fk l=x at*
     refine Af [0,1] ?_
     refine Af [0,1,5] ?_
     refine Af [0,1,5,9] ?_
     refine AL [0,1,5,9,10] ?_;refine cF ?_;refine AL [0,1,5,9,10] ?_;refine cF ?_;refine AL [0,1,9,39] ?_;refine cT ?_;refine Af [4] ?_ (onc 1 (pcq q) noc)
     refine AW.ret (Dx [some 0] [])
   · have e:Dz l 10=D7 l:=rfl
     rw[e]
     have q:=AaH l hl H.ev H.names
     generalize D7 l=x at*
     refine Af [0,1] ?_
     refine Af [0,1,5] ?_
     refine Af [0,1,5,9] ?_
     refine AL [0,1,5,9,10] ?_;refine cF ?_;refine AL [0,1,5,9,10] ?_;refine cF ?_;refine AL [0,1,9,39] ?_;refine cF ?_;refine AL [0,1,9,43] ?_;refine cT ?_;refine Af [4] ?_ (onc 1 (pcq q) noc)
     refine AW.ret (Dx [some 0] [])
   · have e:Dz l 11=GQ l:=rfl
     rw[e]
     have q:=AdG l hl H.ev H.words
     generalize GQ l=x at*
     refine Af [0,1] ?_
     refine Af [0,1,5] ?_
     refine Af [0,1,5,9] ?_
     refine AL [0,1,5,9,10] ?_;refine cF ?_;refine AL [0,1,5,9,10] ?_;refine cF ?_;refine AL [0,1,9,39] ?_;refine cF ?_;refine AL [0,1,9,43] ?_;refine cF ?_;refine AL [0,1,9,47] ?_;refine cT ?_;refine Af [4] ?_ (onc 1 (pcq q) noc)
     refine AW.ret (Dx [some 0] [])
   · have e:Dz l 12=JP l:=rfl
     rw[e]
     have q:=Aac l hl H.ev
     generalize JP l=x at*
     refine Af [0,1] ?_
     refine Af [0,1,5] ?_
     refine Af [0,1,5,9] ?_
     refine AL [0,1,5,9,10] ?_;refine cF ?_;refine AL [0,1,5,9,10] ?_;refine cF ?_;refine AL [0,1,9,39] ?_;refine cF ?_;refine AL [0,1,9,43] ?_;refine cF ?_;refine AL [0,1,9,47] ?_;refine cF ?_;refine AL [0,1,51] ?_;refine cT ?_;refine Af [4] ?_ (onc 1 (pcq q) noc)
     refine AW.ret (Dx [some 0] [])
def QQ(s:S):Prop:=1≤s.length∧s.length≤32∧ ∀ c∈s,Hs c=true
theorem RW{c:UInt8}(h:Hs c=true):QO c=true:=by simp[QO,h]
theorem TF(s:S)(h:QQ s):Ad Tryz.prog 205 [str s] [] (B true) []:=by
 obtain⟨h1,h2,h3⟩:=h
 refine acN 40 0 Tryz.func205 fun C hN hk=>?_
 have hx0:s[0]? =some s[0]:=List.getElem?_eq_getElem oM
 have q0:=UO s[0]
 rw[h3 _ (List.getElem_mem _)]at q0
 have d1:=GP (a:=(s.length:Int)) (b:=1) oM
 have d2:=EV (a:=(s.length:Int)) (b:=32) oM
 generalize s[0]=c0 at*
 refine Af [0] ?_
 refine rG hN hk (onc 11 (pcq q0) noc) [] [0,22] fun K hK=>?_;simp only[go_sem,seval,d1,d2,hx0]
 try simp (disch:=omega) only[au]
 try simp only[go_sem,seval,d1,d2,hx0]
 iterate 3 try(simp (disch:=omega) only[au];try simp only[go_sem,seval,d1,d2,hx0])
 refine obK (hK _ _ ?_);clear hK K;refine nx ?_;refine cF ?_;refine Af [0,3] ?_
 refine lpF hk 0 (fun i:Nat=>⟨[(0,str s),(3,I i)],[]⟩) (fun i=>i≤s.length) (fun i=>s.length-i) 0 (Ea [] []) ?_
 intro i hi0
 by_cases hi:i<s.length
 · have hx:=List.getElem?_eq_getElem hi
   have q:=Ahe s[i]
   rw[RW (h3 _ (List.getElem_mem _))]at q
   generalize s[i]=c at*
   refine AL [0,3,26] ?_
   refine cT ?_;refine nx ?_;refine rG hN hk (onc 3 (pcq q) noc) [] [0,3,39] fun K hK=>?_;simp only[go_sem,seval,hx]
   try simp (disch:=omega) only[au]
   try simp only[go_sem,seval,hx]
   refine obK (hK _ _ ?_);clear hK K;refine nx ?_;refine cF ?_;refine AL [0,3] ?_
   refine eE (i+1) (Ea [] [])
 · refine AL [0,3,26] ?_
   refine cF ?_;refine Af [2] ?_
   refine AW.ret (Dx [] [])
def C7(f:Int)(l:List Ln):Int:=f+(l.map Ln.len).sum
theorem Q0(f:Int)(l:List Ln)(i:Nat)(h:i<l.length):C7 f (l.take (i+1))=C7 f (l.take i)+l[i].len:=by
 unfold C7
 rw[List.take_add_one,List.getElem?_eq_getElem h]
 simp only[Option.toList,List.map_append,List.sum_append,List.map_cons,List.map_nil,List.sum_cons,List.sum_nil];omega
theorem L9(f:Int)(l:List Ln)(x:Ln):C7 f (l++[x])=C7 f l+x.len:=by
 unfold C7;simp;omega
structure EvG(e:Ev):Prop where
 host:0≤e.host∧e.host≤999
 file:0≤e.file∧e.file≤2147483646
 frm:0≤e.frm
 to:e.frm<e.to∧e.to≤60000
 time:0≤e.time∧e.time≤253402300799999
 weight:H6 e.weight=true
 nl:1≤e.lines.length∧e.lines.length≤40
 off: ∀ i (h:i<e.lines.length),e.lines[i].off=C7 e.frm (e.lines.take i)∧1≤e.lines[i].len
 all:C7 e.frm e.lines=e.to
 tx: ∀ x∈e.lines,x.text.length≤2000
 tr:e.trace.length≤32∧e.stream.length≤32
 nf:e.fields.length≤32
 fn: ∀ f∈e.fields,QQ f.name∧f.val.length≤2000
 fs:e.fields.Pairwise fun a b=>ltS a.name b.name
theorem EvG.evT{e:Ev}(h:EvG e):EvT e:=⟨h.nl.2,h.tx,h.nf,fun f hf=>⟨(h.fn f hf).1.2.1,(h.fn f hf).2⟩⟩
theorem LD(f:Int)(l:List Ln)(h: ∀ i (hi:i<l.length),1≤l[i].len)(i:Nat): ∀ k,i+k≤l.length→C7 f (l.take i)+k≤C7 f (l.take (i+k))
 |0,_=>by simp
 |k+1,hk=>by
   have h1:=LD f l h i k oM
   have h2:=h (i+k) oM
   have h3:=Q0 f l (i+k) oM
   rw[← Nat.add_assoc,h3];omega
theorem AdT(e:Ev)(h:EvG e):Ad Tryz.prog 153 [.agg (evC e)] [] (I 0) []:=by
 have d1:=GP (a:=e.host) (b:=0) h.host.1
 have d2:=EV (a:=e.host) (b:=999) h.host.2
 have d3:=GP (a:=e.file) (b:=0) h.file.1
 have d4:=EV (a:=e.file) (b:=2147483646) h.file.2
 have d5:=GP (a:=e.frm) (b:=0) h.frm
 have d6:=Wj (a:=e.to) (b:=e.frm) h.to.1
 have d7:=EV (a:=e.to) (b:=60000) h.to.2
 refine acN 38 0 Tryz.func153 fun C hN hk=>?_
 refine Af [1] ?_
 refine rG hN hk noc [] [37] fun K hK=>?_;simp only[go_sem,seval,d1,d2,d3,d4,d5,d6,d7]
 try simp (disch:=omega) only[au]
 try simp only[go_sem,seval,d1,d2,d3,d4,d5,d6,d7]
 iterate 6 try(simp (disch:=omega) only[au];try simp only[go_sem,seval,d1,d2,d3,d4,d5,d6,d7])
 refine hK _ _ ?_;clear hK K;refine nx ?_;refine cF ?_;refine Af [2] ?_
 refine AW.ret (Dx [] [])
theorem AdM(e:Ev)(h:EvG e):Ad Tryz.prog 155 [.agg (evC e),I 2000] [] (I 0) []:=by
 have hm:=LD e.frm e.lines (fun i hi=>(h.off i hi).2)
 have hto:=h.to
 have hall:=h.all
 have hfr:=h.frm
 obtain⟨hl1,hl2⟩:=h.nl
 have d1:((e.lines.length:Int)==0)=false:=by simp;intro h;simp[h]at hl1
 have d2:=EV (a:=(e.lines.length:Int)) (b:=40) oM
 refine acN 74 0 Tryz.func155 fun C hN hk=>?_
 have h0:C7 e.frm (e.lines.take 0)=e.frm:=by simp[C7]
 have h00:C7 e.frm []=e.frm:=by simp[C7]
 refine Af [1,2] ?_
 have F:=d1;refine A6 [1,2,11] ?_;clear F
 refine cF ?_;have F:=d2;refine A6 [1,2,15] ?_;clear F
 refine cF ?_;refine Af [1,2,5] ?_
 refine Af [1,2,5,6] ?_
 refine lpF hk 1 (fun i:Nat=>⟨[(1,I 2000),(2,.ptr 0 10 0 0),(5,I (C7 e.frm (e.lines.take i))),(6,I i)],[(0,some ⟨56,10,[evC e]⟩)]⟩) (fun i=>i≤e.lines.length) (fun i=>e.lines.length-i) 0 (Cz (And.intro h00 evC.eq_1) [some 0] []) ?_
 intro i hi0
 by_cases hi:i<e.lines.length
 · have hx:=List.getElem?_eq_getElem hi
   have ho:=h.off i hi
   have hs:=Q0 e.frm e.lines i hi
   have ht:=h.tx _ (List.getElem_mem hi)
   have hm1:=hm 0 i oM
   have hm2:=hm (i+1) (e.lines.length- (i+1)) oM
   rw[show i+1+(e.lines.length- (i+1))=e.lines.length by omega,List.take_length,hall,hs]at hm2
   rw[Nat.zero_add]at hm1
   rw[h0]at hm1
   have w1:=Ar (n:=e.to-C7 e.frm (e.lines.take i)) oM
   have w2:=Ar (n:=(e.lines.length:Int)-1) oM
   have hla:i+1=e.lines.length→e.lines[i].len=e.to-C7 e.frm (e.lines.take i):=by
     intro he
     have:e.lines.take (i+1)=e.lines:=by rw[he,List.take_length]
     rw[this,hall]at hs;omega
   have d3:=GP (a:=e.lines[i].len) (b:=1) ho.2
   have d4:=EV (a:=e.lines[i].len) (b:=e.to-C7 e.frm (e.lines.take i)) oM
   have d5:(e.lines[i].off !=C7 e.frm (e.lines.take i))=false:=by simp[ho.1]
   have d6:=EV (a:=(e.lines[i].text.length:Int)) (b:=2000) oM
   have w3:=Ar (n:=C7 e.frm (e.lines.take i)+e.lines[i].len) oM
   generalize C7 e.frm (e.lines.take i)=a at*
   generalize e.lines[i]=x at*
   refine AL [1,2,5,6,22] ?_
   refine cT ?_;refine Do [1,2,5,6,7] ?_
   by_cases hl:i+1=e.lines.length
   · have d7:((i:Int)==(e.lines.length:Int)-1)=true:=by simp;omega
     have d8:(x.len !=e.to-a)=false:=by simp[hla hl]
     refine nx ?_;refine rG hN hk noc [] [1,2,5,6,7,64] fun K hK=>?_;simp only[go_sem,seval,d3,d4,d5,w1,w2,d7,d8]
     try simp (disch:=omega) only[au]
     try simp only[go_sem,seval,d3,d4,d5,w1,w2,d7,d8]
     iterate 4 try(simp (disch:=omega) only[au];try simp only[go_sem,seval,d3,d4,d5,w1,w2,d7,d8])
     (first|with_reducible refine hK _ _ ?_|refine obK (hK _ _ ?_));clear hK K;refine nx ?_
     refine cF ?_;have F:=d6;refine A6 [1,2,5,6,7,69] ?_;clear F
     refine cF ?_;have F:=w3;refine A6 [1,2,5,6] ?_;clear F;refine AL [1,2,5,6] ?_
     refine eE (i+1) (Cz (And.intro hs evC.eq_1) [some 0] [])
   · have d7:((i:Int)==(e.lines.length:Int)-1)=false:=by simp;omega
     refine nx ?_;refine rG hN hk noc [] [1,2,5,6,7,64] fun K hK=>?_;simp only[go_sem,seval,d3,d4,d5,w1,w2,d7]
     try simp (disch:=omega) only[au]
     try simp only[go_sem,seval,d3,d4,d5,w1,w2,d7]
     iterate 4 try(simp (disch:=omega) only[au];try simp only[go_sem,seval,d3,d4,d5,w1,w2,d7])
     (first|with_reducible refine hK _ _ ?_|refine obK (hK _ _ ?_));clear hK K;refine nx ?_
     refine cF ?_;have F:=d6;refine A6 [1,2,5,6,7,69] ?_;clear F
     refine cF ?_;have F:=w3;refine A6 [1,2,5,6] ?_;clear F;refine AL [1,2,5,6] ?_
     refine eE (i+1) (Cz (And.intro hs evC.eq_1) [some 0] [])
 · refine AL [1,2,5,6,22] ?_
   refine cF ?_;refine Af [4] ?_
   refine AW.ret (Dx [] [])
theorem Z4{α:Type}{l:List α}{i:Nat}{x:α}(h:l[i]? =some x):l.set i x=l:=by
 obtain⟨hi,rfl⟩:=List.getElem?_eq_some_iff.1 h
 exact List.set_getElem_self hi
theorem AeU(l:List Fl)(hl:l.length≤32)(hn: ∀ f∈l,QQ f.name)(hs:l.Pairwise fun a b=>ltS a.name b.name):Ad Tryz.prog 156 [.sl 2 (flE l)] [] (.tup [.osl 0 l.length 2,I 0]) [some ⟨203,2,flE l⟩]:=by
 refine acN 89 0 Tryz.func156 fun C hN hk=>?_
 have d1:=EV (a:=(l.length:Int)) (b:=32) oM
 refine Af [0] ?_
 have F:=d1;refine A6 [0,10] ?_;clear F
 refine cF ?_;refine Af [0,4] ?_
 refine lpF hk 0 (fun i:Nat=>⟨[(0,.sl 2 (flE l)),(4,I i)],[]⟩) (fun i=>i≤l.length) (fun i=>l.length-i) 0 (Ea [] []) ?_
 · intro i hi0
   by_cases hi:i<l.length
   · have hx:=List.getElem?_eq_getElem hi
     have q:=TF l[i].name (hn _ (List.getElem_mem hi))
     generalize l[i]=x at*
     refine AL [0,4,14] ?_
     refine cT ?_;refine Do [0,4,23] ?_ (onc 5 (pcq q) noc)
     refine cF ?_;refine AL [0,4] ?_
     refine eE (i+1) (Ea [] [])
   · refine AL [0,4,14] ?_
     refine cF ?_;refine Af [0,5] ?_
     refine Af [0,5,6] ?_
     refine lpF hk 1 (fun i:Nat=>⟨[(0,.sl 2 (flE l)),(5,.osl 0 (l.take i).length 2),(6,I i)],[(0,some ⟨203,2,flE (l.take i)⟩)]⟩) (fun i=>i≤l.length) (fun i=>l.length-i) 0 (Ea [none] []) ?_
     intro i hi0
     by_cases hi:i<l.length
     · have hx:=List.getElem?_eq_getElem hi
       have hsn:l.take (i+1)=l.take i++[l[i]]:=by simp[List.take_append_getElem]
       have hli:(l.take i).length=i:=by simp;omega
       have hlst: ∀ j,j+1=i→ ∃ y,(l.take i++[l[i]])[j]? =some y∧ltS y.name l[i].name:=by
         intro j hj
         have hj2:j<l.length:=by omega
         refine⟨l[j],?_,List.pairwise_iff_getElem.1 hs j i hj2 hi oM⟩
         rw[← hsn,List.getElem?_take,if_pos oM,List.getElem?_eq_getElem hj2]
       have hl2:(l.take i++[l[i]])[i]? =some l[i]:=by rw[← hsn,List.getElem?_take,if_pos oM,hx]
       have hset:(l.take i++[l[i]]).set i l[i]=l.take i++[l[i]]:=by
         exact Z4 hl2
       generalize l[i]=x at*
       generalize l.take i=o at*
       have wk:=Ar (n:=(i:Int)-1) oM
       have heq: ∀ j,j+1=i→ ∃ y,(o++[x])[j]? =some y∧Op.bytesLess y.name x.name=true∧(y.name==x.name)=false:=by
         intro j hj
         obtain⟨y,hy,hlt⟩:=hlst j hj
         refine⟨y,hy,hlt,?_⟩
         simp only[beq_eq_false_iff_ne]
         intro e
         rw[e]at hlt
         exact C3 _ hlt
       refine AL [0,5,6,27] ?_
       refine cT ?_;refine Af [0,5,6,7] ?_
       refine Do [0,5,6,7] ?_
       refine lpF hk 1 (fun z:Nat=>⟨[(0,.sl 2 (flE l)),(5,.osl 0 (o.length+1) 2),(6,I i),(7,I i)],[(0,some ⟨203,2,flE (o++[x])⟩)]⟩) (fun z=>True) (fun z=>0) 0 (Cz hli [some 0] []) ?_
       intro z _
       have hol:i<o.length+1:=by omega
       cases i with
       |zero=>
         have d0:decide (((0:Nat):Int)>0)=false:=by simp
         refine nx ?_
         refine rD hN hk noc [] [0,5,6,7,54] fun K tok htok hK=>?_
         simp only[go_sem,seval,d0]
         try simp (disch:=omega) only[au]
         try simp only[go_sem,seval,d0]
         refine⟨htok _ dK,?_⟩
         (first|with_reducible refine hK _ _ ?_|refine obK (hK _ _ ?_));clear hK K htok tok
         refine nx ?_;refine cF ?_;have F:=And.intro hx (And.intro hl2 (And.intro hset hol));refine AD [0,5,6,7] ?_;clear F
         refine rD hN hk noc [] [0,5,6,87] fun K tok htok hK=>?_
         simp only[go_sem,seval,d0]
         try simp (disch:=omega) only[au]
         try simp only[go_sem,seval,d0]
         refine⟨htok _ dK,?_⟩
         (first|with_reducible refine hK _ _ ?_|refine obK (hK _ _ ?_));clear hK K htok tok
         refine nx ?_;refine cF ?_;refine AL [0,5,6] ?_
         refine eE (1) (Cz hsn [some 0] [])
       |succ j=>
         obtain⟨y,hy,g1,g2⟩:=heq j rfl
         have d0:decide (((j+1:Nat):Int)>0)=true:=by simp
         have e1:(((j+1:Nat):Int)-1)=(j:Int):=by omega
         have w1:=Ar (n:=(j:Int)) oM
         refine nx ?_
         refine rD hN hk noc [] [0,5,6,7,54] fun K tok htok hK=>?_
         simp only[go_sem,seval,d0,e1,w1,hy,g1,hx]
         try simp (disch:=omega) only[au]
         try simp only[go_sem,seval,d0,e1,w1,hy,g1,hx]
         refine⟨htok _ dK,?_⟩
         (first|with_reducible refine hK _ _ ?_|refine obK (hK _ _ ?_));clear hK K htok tok
         refine nx ?_;refine cF ?_;have F:=And.intro hx (And.intro hl2 (And.intro hset hol));refine AD [0,5,6,7] ?_;clear F
         refine rD hN hk noc [] [0,5,6,87] fun K tok htok hK=>?_
         simp only[go_sem,seval,d0,e1,w1,hy,g2,hx]
         try simp (disch:=omega) only[au]
         try simp only[go_sem,seval,d0,e1,w1,hy,g2,hx]
         refine⟨htok _ dK,?_⟩
         (first|with_reducible refine hK _ _ ?_|refine obK (hK _ _ ?_));clear hK K htok tok
         refine nx ?_;refine cF ?_;refine AL [0,5,6] ?_
         refine eE (j+1+1) (Cz hsn [some 0] [])
     · have:i=l.length:=by omega
       subst this
       rw[List.take_length]
       refine AL [0,5,6,27] ?_
       refine cF ?_;refine Af [2,3] ?_
       refine AW.ret (Dx [some 0] [])
theorem Ab9(e:Ev)(h:EvG e):Ad Tryz.prog 101 [.agg (evC e)] [] (I 0) []:=by
 have q1:=AdT e h
 have q2:=AdF e.weight
 rw[h.weight]at q2
 have q3:=AdM e h
 have q4:=AeU e.fields h.nf (fun f hf=>(h.fn f hf).1) h.fs
 have hnf:=h.nf
 have q5:=VO e.fields oM
 have d1:=GP (a:=e.time) (b:=0) h.time.1
 have d2:=EV (a:=e.time) (b:=253402300799999) h.time.2
 have htr:=h.tr
 have d3:=EV (a:=(e.trace.length:Int)) (b:=32) oM
 have d4:=EV (a:=(e.stream.length:Int)) (b:=32) oM
 have hfn:=h.fn
 refine acN 68 0 Tryz.func101 fun C hN hk=>?_
 refine Af [1] ?_
 refine Af [1,3] ?_ (onc 1 (pcq q1) noc)
 refine rG hN hk noc [] [1,21] fun K hK=>?_;simp only[go_sem,seval,d1,d2,bne_self_eq_false]
 try simp (disch:=omega) only[au]
 try simp only[go_sem,seval,d1,d2,bne_self_eq_false]
 iterate 2 try(simp (disch:=omega) only[au];try simp only[go_sem,seval,d1,d2,bne_self_eq_false])
 refine hK _ _ ?_;clear hK K;refine nx ?_;refine cF ?_;refine Af [1,25] ?_ (onc 2 (pcq q2) noc)
 refine cF ?_;refine Af [1,4] ?_ (onc 1 (pcq q3) noc)
 refine rG hN hk noc [] [1,4,29] fun K hK=>?_;simp only[go_sem,seval,bne_self_eq_false]
 try simp (disch:=omega) only[au]
 refine hK _ _ ?_;clear hK K;refine nx ?_;refine cF ?_;refine nx ?_;refine rG hN hk noc [] [1,40] fun K hK=>?_;simp only[go_sem,seval,d3,d4]
 try simp (disch:=omega) only[au]
 try simp only[go_sem,seval,d3,d4]
 (first|with_reducible refine hK _ _ ?_|refine obK (hK _ _ ?_));clear hK K;refine nx ?_
 refine cF ?_;refine Af [1,5,6] ?_ (onc 2 (pcq q4) noc)
 refine rG hN hk noc [] [1,5,6,48] fun K hK=>?_;simp only[go_sem,seval,bne_self_eq_false]
 try simp (disch:=omega) only[au]
 refine hK _ _ ?_;clear hK K;refine nx ?_;refine cF ?_;refine Af [5,54] ?_ (onc 3 (bcq [1] q5) noc)
 refine cF ?_;refine Af [5,7] ?_
 clear q1 q2 q3 q4 q5 d1 d2 d3 d4
 refine nx ?_
 refine lpF hk 1 (fun i:Nat=>⟨[(5,.osl 0 e.fields.length 2),(7,I i)],[(0,some ⟨203,2,flE e.fields⟩)]⟩) (fun i=>i≤e.fields.length) (fun i=>e.fields.length-i) 0 (Ea [some 0] []) ?_
 intro i hi0
 generalize e.fields=l at*
 by_cases hi:i<l.length
 · have hx:=List.getElem?_eq_getElem hi
   have ht:=(hfn _ (List.getElem_mem hi)).2
   have d6:=EV (a:=(l[i].val.length:Int)) (b:=2000) oM
   generalize l[i]=x at*
   refine AL [5,7,58] ?_
   refine cT ?_;have F:=And.intro d6 hx;refine A6 [5,7,67] ?_;clear F
   refine cF ?_;refine AL [5,7] ?_
   refine eE (i+1) (Ea [some 0] [])
 · refine AL [5,7,58] ?_
   refine cF ?_;refine Af [2] ?_
   refine AW.ret (Dx [] [])
structure SegG(l:List Ev):Prop where
 len:l.length≤256
 ev: ∀ e∈l,EvG e
 asc:Asc l
 names:(AH l).length≤100
 words:(AR l).length≤32768
theorem Adp(l:List Ev)(h:SegG l):Ad Tryz.prog 56 [.sl 10 (evE l)] [] (I 0) []:=by
 have hl:=h.len
 have hev:=h.ev
 have q1:=Q9 l oM (fun e he=>(hev e he).evT)
 have q2:=TH l oM (fun e he=>(hev e he).evT)
 have d1:=EV (a:=(l.length:Int)) (b:=256) oM
 have hn:=h.names
 have hw:=h.words
 have d2:=EV (a:=((AR l).length:Int)) (b:=32768) oM
 have d3:=EV (a:=((AH l).length:Int)) (b:=32768) oM
 have hasc:=h.asc
 refine acN 50 0 Tryz.func56 fun C hN hk=>?_
 refine Af [0] ?_
 have F:=d1;refine A6 [0,8] ?_;clear F
 refine cF ?_;refine Af [0,3] ?_
 refine lpF hk 0 (fun i:Nat=>⟨[(0,.sl 10 (evE l)),(3,I i)],[]⟩) (fun i=>i≤l.length) (fun i=>l.length-i) 0 (Ea [] []) ?_
 intro i hi0
 by_cases hi:i<l.length
 · have hx:=List.getElem?_eq_getElem hi
   have q:=Ab9 l[i] (hev _ (List.getElem_mem hi))
   generalize l[i]=x at*
   refine AL [0,3,12] ?_
   refine cT ?_;refine Do [0,3,4] ?_ (onc 4 (pcq q) noc)
   refine rG hN hk noc [] [0,3,4,21] fun K hK=>?_;simp only[go_sem,seval,bne_self_eq_false]
   try simp (disch:=omega) only[au]
   refine hK _ _ ?_;clear hK K;refine nx ?_;refine cF ?_;refine AL [0,3] ?_
   refine eE (i+1) (Ea [] [])
 · refine AL [0,3,12] ?_
   refine cF ?_;refine Af [0,5] ?_
   refine lpF hk 0 (fun i:Nat=>⟨[(0,.sl 10 (evE l)),(5,I i)],[]⟩) (fun i=>1≤i) (fun i=>l.length-i) 1 (Ea [] []) ?_
   intro i hi0
   by_cases hi:i<l.length
   · have hx:=List.getElem?_eq_getElem hi
     have hj:i-1<l.length:=by omega
     have hy:=List.getElem?_eq_getElem hj
     have hls:=List.pairwise_iff_getElem.1 hasc (i-1) i hj hi oM
     have q:=Yk l[i-1] l[i]
     rw[hls]at q
     have w1:=Ar (n:=(i:Int)-1) oM
     have e1:((i:Int)-1).toNat=i-1:=by omega
     generalize l[i]=x at*
     generalize l[i-1]=y at*
     refine AL [0,5,26] ?_
     refine cT ?_;have F:=And.intro hx (And.intro w1 (And.intro e1 hy));refine DI [0,5,39] ?_ (onc 9 (pcq q) noc);clear F
     refine nx ?_;refine cF ?_;refine AL [0,5] ?_
     refine eE (i+1) (Ea [] [])
   · generalize AR l=aw at*
     generalize AH l=an at*
     refine AL [0,5,26] ?_
     refine cF ?_;refine nx ?_;refine rG hN hk (onc 1 (pcq q1) (onc 6 (pcq q2) noc)) [] [49] fun K hK=>?_;simp only[go_sem,seval,d2,d3]
     try simp (disch:=omega) only[au]
     try simp only[go_sem,seval,d2,d3]
     refine obK (hK _ _ ?_);clear hK K;refine nx ?_;refine cF ?_;refine Af [2] ?_
     refine AW.ret (Dx [] [])
theorem Acy{l:List Ev}(m:Nat)(h: ∀ e∈l,e.lines.length≤m):(l.flatMap Ev.lines).length≤l.length*m:=by
 induction l with
 |nil=>simp
 |cons a l ih=>
   have h1:=ih (fun e he=>h e (by simp[he]))
   have h2:=h a sP
   simp only[List.flatMap_cons,List.length_append,List.length_cons]
   rw[Nat.succ_mul];omega
theorem SegG.ok{l:List Ev}(h:SegG l):SegOk l:=by
 have hl:=h.len
 have h1:=Acy 40 (l:=l) (fun e he=>(h.ev e he).nl.2)
 have hn:=h.names
 exact⟨oM,fun e he=>(h.ev e he).evT,fun e he=>⟨by have:=(h.ev e he).tr;omega,by have:=(h.ev e he).tr;omega⟩,oM,oM,h.words⟩
theorem Rl{l:List Ev}(h:SegG l)(k:Nat):(Dz l k).length<2^32:=by
 have H:=h.ok
 have hl:=h.len
 have h7:(ixF (l.map Ev.trace)).length≤2^24:=I3 _ sO (by
   intro s hs;obtain⟨e,he,rfl⟩:=List.mem_map.1 hs;exact(H.tr e he).1)
 have h8:(ixF (l.map Ev.stream)).length≤2^24:=I3 _ sO (by
   intro s hs;obtain⟨e,he,rfl⟩:=List.mem_map.1 hs;exact(H.tr e he).2)
 have h9:(Fk l).length≤2^27:=by
   have hL:(Cj l l.length).length≤16384:=by rw[Nz];exact H.lines
   have htx: ∀ x∈Cj l l.length,x.text.length≤2000:=by
     intro x hx
     rw[Nz]at hx
     obtain⟨e,he,hx⟩:=List.mem_flatMap.1 hx
     exact(H.ev e he).tx x hx
   have b0:=(KI (EU l l.length) (by simp[EU];omega)).2
   have b1:=(KI (lo (Cj l l.length)) (by simp[lo];exact hL)).2
   have b2:=(KI (le (Cj l l.length)) (by simp[le];exact hL)).2
   have b3:=(KI (lz (Cj l l.length)) (by simp[lz];exact hL)).2
   have b4:=Jp _ htx
   unfold Fk
   simp only[List.length_append];omega
 have h10:(D7 l).length≤2^31:=by
   have hn:=h.names
   have hc:Bb (AH l)=0:=Er _ (by have:=h.names;unfold AH at this;omega) (IP l H.ev _)
   have:=KY l (AH l) H.len H.ev hc (AH l).length (Nat.le_refl _)
   have h100:(AH l).length*(2^24+100011)≤100*(2^24+100011):=Nat.mul_le_mul_right _ hn
   unfold D7;omega
 have h11:(GQ l).length<2^32:=by
   have hw:=h.words
   have hc:Bb (AR l)=0:=Er _ (by have:=h.words;unfold AR at this;omega) (KN l)
   have hxL:=Hg (AR l) l l.length
   have hpost:=J2 (AR l) l H.len (BO _) (P4 l)
   have:=NM (AR l) (CN (AR l) l l.length) hc hpost (CN (AR l) l l.length).length (Nat.le_refl _)
   have h100:(AR l).length*100011≤32768*100011:=Nat.mul_le_mul_right _ hw
   unfold GQ;rw[hxL]at this ⊢;omega
 have h12:=WE l
 have h1:(AZ (l.map fun e=>CM e k)).length≤24+256*22:=by
   have:=Hm (l.map fun e=>CM e k) sO
   simp at this;omega
 unfold Dz
 repeat' split
 all_goals omega
noncomputable def C5(l:List Ev):List (List UInt8):=(List.range 12).map fun k=>Dz l (k+1)
theorem Lx(l:List Ev):(C5 l).length=12:=by simp[C5]
theorem PL(l:List Ev)(k:Nat)(h:k<(C5 l).length):(C5 l)[k]=Dz l (k+1):=by simp[C5]
def CW(l:List Ev)(i:Nat):Nat:=match l[i]? with
 |some e=>e.time.toNat
 |none=>0
noncomputable def Ee(l:List Ev):List UInt8:=ET l.length (CW l 0) (CW l (l.length-1)) (C5 l)
theorem I2{l:List Ev}(h:SegG l)(i:Nat):CW l i≤253402300799999:=by
 unfold CW
 split
 · next e he=>have:=(h.ev e (List.mem_of_getElem? he)).time;omega
 · omega
theorem VD(ss:List (List UInt8))(m:Nat)(h: ∀ s∈ss,s.length≤m):ss.flatten.length≤ss.length*m:=by
 induction ss with
 |nil=>simp
 |cons a l ih=>
   have h1:=ih (fun e he=>h e (by simp[he]))
   have h2:=h a sP
   simp only[List.flatten_cons,List.length_append,List.length_cons]
   rw[Nat.succ_mul];omega
theorem RH{l:List Ev}(h:SegG l):SegB l.length (CW l 0) (CW l (l.length-1)) (C5 l):=by
 have hl:=h.len
 have h1:=I2 h 0
 have h2:=I2 h (l.length-1)
 have he: ∀ s∈C5 l,s.length<2^32:=by
   intro s hs
   unfold C5 at hs
   obtain⟨k,_,rfl⟩:=List.mem_map.1 hs
   exact Rl h _
 have hf:=VD (C5 l) (2^32) (fun s hs=>Nat.le_of_lt (he s hs))
 rw[Lx]at hf
 exact⟨Lx l,he,oM,oM,oM,oM⟩
theorem Ys{l:List Ev}(h:SegG l):SegV (Ee l) l.length (CW l 0) (CW l (l.length-1)) (C5 l):=segV (RH h)
theorem R0{l:List Ev}(h:SegG l){i:Nat}{e:Ev}(hx:l[i]? =some e):(CW l i:Int)=e.time:=by
 unfold CW
 rw[hx]
 have:=(h.ev e (List.mem_of_getElem? hx)).time
 simp only;omega
theorem Su(l:List Ev)(h:SegG l):Ad Tryz.prog 21 [.sl 10 (evE l)] [] (.tup [.osl 0 (Ee l).length 1,I 0]) [some ⟨5,1,Ab (Ee l)⟩]:=by
 have q0:=Adp l h
 have ha:=I2 h 0
 have hz:=I2 h (l.length-1)
 have hga:=fun e=>R0 h (i:=0) (e:=e)
 have hgz:=fun e=>R0 h (i:=l.length-1) (e:=e)
 have hl:=h.len
 have H:=h.ok
 have hn:=Lx l
 have hB:=(RH h).each
 have hT:=(RH h).total
 have hat:=PL l
 have hq:=fun k h1 h2=>Yd l H k h1 h2
 have hdl:=Ht l.length (CW l 0) (CW l (l.length-1))
 have p1:=Mt [76,84,83,49] l.length 4 sP oM
 have p2:=Mt ([76,84,83,49]++Bs l.length 4) (CW l 0) 8 (by simp[Ck]) oM
 have p3:=Mt ([76,84,83,49]++Bs l.length 4++Bs (CW l 0) 8) (CW l (l.length-1)) 8 (by simp[Ck]) oM
 have hl0:l=[]→CW l 0=0∧CW l (l.length-1)=0:=by intro h;subst h;simp[CW]
 obtain⟨sg,hsg⟩: ∃ sg,Ee l=sg:=⟨_,rfl⟩
 rw[hsg]
 unfold Ee ET hdF at hsg
 have e24:G5 l.length (CW l 0) (CW l (l.length-1))=[76,84,83,49]++Bs l.length 4++Bs (CW l 0) 8++Bs (CW l (l.length-1)) 8:=rfl
 rw[e24]at hsg
 clear e24
 generalize CW l 0=a at*
 generalize CW l (l.length-1)=z at*
 have hx1:=Ck l.length 4
 generalize Bs l.length 4=x1 at*
 refine acN 68 0 Tryz.func21 fun C hN hk=>?_
 refine Af [0] ?_
 refine Af [0,4] ?_ (onc 1 (pcq q0) noc)
 refine rG hN hk noc [] [0,4,14] fun K hK=>?_;simp only[go_sem,seval,bne_self_eq_false]
 try simp (disch:=omega) only[au]
 refine hK _ _ ?_;clear hK K;refine nx ?_;refine cF ?_;refine Af [0,5,6] ?_
 refine AL [0,5,6,18] ?_
 refine AW.join hk 0 ⟨[(0,.sl 10 (evE l)),(5,I a),(6,I z)],[]⟩ ?_ ?_
 · refine De rfl (fun h=>?_) (fun h=>?_)
   · simp only[gt_iff_lt,decide_eq_true_eq]at h
     have hl0:0<l.length:=by omega
     have hx0:=List.getElem?_eq_getElem hl0
     have hx1:=List.getElem?_eq_getElem (show l.length-1<l.length by omega)
     have g0:=hga _ hx0
     have g1:=hgz _ hx1
     have w1:=Ar (n:=(l.length:Int)-1) oM
     have e1:((l.length:Int)-1).toNat=l.length-1:=by omega
     generalize l[0]=ea at*
     generalize l[l.length-1]=ez at*
     have F:=And.intro hx0 (And.intro w1 (And.intro e1 hx1));refine DI [0,5,6] ?_;clear F
     exact Cz (And.intro g0 g1) [] []
   · simp only[gt_iff_lt,decide_eq_false_iff_not]at h
     have hl1:l=[]:=by cases l with
       |nil=>rfl
       |cons a l=>simp at h
     have:=hl0 hl1
     obtain⟨rfl,rfl⟩:=this
     refine nx ?_
     exact Ea [] []
 clear hga hgz hl0 q0
 have w1:=Fp (n:=(l.length:Int)) oM
 have w2:=Fp (n:=(a:Int)) oM
 have w3:=Fp (n:=(z:Int)) oM
 have F:=And.intro w1 (And.intro w2 w3);refine A6 [0,7] ?_ (onc 5 (ocq 0 p1) (onc 8 (ocq 40 p2) (onc 11 (ocq 64 p3) noc)));clear F
 clear p1 p2 p3 w1 w2 w3
 refine Af [0,7,8] ?_
 refine Af [0,7,8,9] ?_
 have hhl:([76,84,83,49]++x1++Bs a 8++Bs z 8).length=24:=by simp only[List.length_append,Ck,hx1];rfl
 obtain⟨hd,hdE⟩: ∃ hd,[76,84,83,49]++x1++Bs a 8++Bs z 8=hd:=⟨_,rfl⟩
 rw[hdE]at hhl hsg
 simp only[List.cons_append,List.nil_append]at hdE
 have hdE2:76::84::83::49::(x1++Bs a 8++Bs z 8)=hd:=hdE
 have hdE3:(x1++Bs a 8++Bs z 8).length+1+1+1+1=hd.length:=by rw[← hdE2];simp only[List.length_cons]
 rw[hdE2,hdE3]
 clear hdE hdE2 hdE3
 have hT': ∀ i,((C5 l).take i).flatten.length≤2^36:=fun i=>Nat.le_trans (HY (C5 l) i) hT
 have hdL: ∀ i,i≤12→(hd++D8 ((C5 l).take i)).length=24+8*i:=by
   intro i hi
   rw[List.length_append,Hf,List.length_take,hn,hhl];omega
 have h0:D8 []=[]:=rfl
 refine nx ?_
 refine lpF hk 2 (fun i:Nat=>⟨[(0,.sl 10 (evE l)),(7,.osl 0 (hd++D8 ((C5 l).take i)).length 1),(8,.osl 1 ((C5 l).take i).flatten.length 1),(9,I (i+1:Nat))],[(0,some ⟨5,1,Ab (hd++D8 ((C5 l).take i))⟩),(1,some ⟨5,1,Ab ((C5 l).take i).flatten⟩)]⟩) (fun i=>i≤12) (fun i=>12-i) 0 (Cz h0 [some 0,none] []) ?_
 intro i hi0
 have hLi:=hdL i hi0
 have hTi:=hT' i
 by_cases hi:i<12
 · have hil:i<(C5 l).length:=by omega
   have hs1:(C5 l).take (i+1)=(C5 l).take i++[Dz l (i+1)]:=by rw[← hat i hil];simp[List.take_append_getElem]
   have hs2:hd++D8 ((C5 l).take (i+1))=hd++D8 ((C5 l).take i)++Bs (Dz l (i+1)).length 4++Bs (Dq (Dz l (i+1))) 4:=by
     rw[hs1];simp[D8,Lj]
   have hs3:((C5 l).take (i+1)).flatten=((C5 l).take i).flatten++Dz l (i+1):=by rw[hs1];simp
   have q:=hq (i+1) oM oM
   have hsl:(Dz l (i+1)).length<2^32:=hB _ (by rw[← hat i hil];exact List.getElem_mem hil)
   generalize hd++D8 ((C5 l).take i)=X at*
   generalize ((C5 l).take i).flatten=Y at*
   generalize Dz l (i+1)=s at*
   have p1:=Mt X s.length 4 oM oM
   have p2:=QN s oM
   have hcr:=H4 s
   have p3:=Mt (X++Bs s.length 4) (Dq s) 4 (by rw[List.length_append,Ck];omega) oM
   have w1:=Fp (n:=(s.length:Int)) oM
   have w2:=Fp (n:=(Dq s:Int)) oM
   generalize Dq s=cr at*
   refine AL [0,7,8,9,43] ?_;refine cT ?_;refine Af [0,7,8,9,10] ?_ (onc 2 (pcq q) noc)
   have F:=And.intro w1 w2;refine A6 [0,7,8,9,10] ?_ (onc 4 (ocq 0 p1) (onc 6 (bcq [2] p2) (onc 8 (ocq 35 p3) noc)));clear F;refine Af [0,7,8,9] ?_
   refine AL [0,7,8,9] ?_
   refine eE (i+1) (Cz (And.intro hs2 hs3) [some 0,some 1] [])
 · have:i=12:=by omega
   subst this
   rw[show(C5 l).take 12=C5 l by rw[← hn,List.take_length]]at*
   generalize hd++D8 (C5 l)=X at*
   generalize (C5 l).flatten=Y at*
   have p2:=QN X oM
   have hcr:=H4 X
   have p3:=Mt X (Dq X) 4 oM oM
   have w2:=Fp (n:=(Dq X:Int)) oM
   generalize Dq X=cr at*
   have hx4:(X++Bs cr 4).length=128-4:=by rw[List.length_append,Ck];omega
   refine AL [0,7,8,9,43] ?_;refine cF ?_;have F:=w2;refine A6 [2,3] ?_ (onc 2 (bcq [0] p2) (onc 4 (ocq 0 p3) noc));clear F
   subst hsg
   refine AW.ret (Dx [some 0] [])
end Go.Proofs.YtpkhodjlnodagaaGreatDoor
