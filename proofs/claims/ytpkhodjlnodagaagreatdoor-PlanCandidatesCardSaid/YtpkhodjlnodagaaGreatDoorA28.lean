/- Part 28 of the proof of PlanCandidates. -/
import Derived.Test.YtpkhodjlnodagaaGreatDoorA10
import Derived.Test.YtpkhodjlnodagaaGreatDoorA27
set_option linter.unusedSimpArgs false
set_option linter.unusedVariables false
set_option linter.unusedSectionVars false
namespace Go.Proofs.YtpkhodjlnodagaaGreatDoor
open Go.Av
set_option maxHeartbeats 4000000
attribute [local irreducible] Af
def HH(X:List (List Int))(p:Nat)(i:Int):List (List Int):=X.set p (X.getD p []++[i])
theorem VT(X:List (List Int))(p:Nat)(i:Int):(HH X p i).length=X.length:=by simp[HH]
def E9(d:List S)(ws:List S)(i:Nat)(X:List (List Int)):Nat→List (List Int)
 |0=>X
 |k+1=>HH (E9 d ws i X k) (CZ d (ws.getD k [])) i
def CM(d:List S)(l:List Ev):Nat→List (List Int)
 |0=>List.replicate d.length []
 |i+1=>E9 d (CG (B4 (l.getD i ⟨0,0,0,0,[],0,0,[],[],[]⟩))) i (CM d l i) (CG (B4 (l.getD i ⟨0,0,0,0,[],0,0,[],[],[]⟩))).length
theorem La(d ws:List S)(i:Nat)(X:List (List Int)): ∀ k,(E9 d ws i X k).length=X.length
 |0=>rfl
 |k+1=>by simp[E9,VT,La d ws i X k]
theorem G2(d:List S)(l:List Ev): ∀ i,(CM d l i).length=d.length
 |0=>by simp[CM]
 |i+1=>by simp[CM,La,G2 d l i]
theorem Xm(Y:List (List Int))(p q:Nat)(i:Int):((HH Y p i).getD q []).length≤(Y.getD q []).length+1:=by
 unfold HH
 by_cases h:q<Y.length
 · by_cases hp:p=q
   · subst hp;simp[List.getD,h]
   · simp[List.getD,h,hp,List.getElem?_set_ne hp]
 · simp[List.getD,List.getElem?_eq_none (Nat.le_of_not_lt h),List.getElem?_eq_none (show(Y.set p ((Y[p]?).getD []++[i])).length≤q by simp;omega)]
theorem Nb(d ws:List S)(i:Nat)(X:List (List Int))(b:Nat)(hX: ∀ p,(X.getD p []).length≤b): ∀ k p,((E9 d ws i X k).getD p []).length≤b+k
 |0,p=>hX p
 |k+1,p=>by
   have h1:=Nb d ws i X b hX k p
   have h2:=Xm (E9 d ws i X k) (CZ d (ws.getD k [])) p i
   rw[E9];omega
theorem RC(d:List S)(l:List Ev)(h: ∀ e∈l,(CG (B4 e)).length≤80041): ∀ i,i≤l.length→ ∀ p,((CM d l i).getD p []).length≤i*80041
 |0,_,p=>by
   simp only[CM,List.getD,List.getElem?_replicate]
   split<;>simp
 |i+1,hi,p=>by
   have h1:=RC d l h i (by omega)
   have e:l.getD i ⟨0,0,0,0,[],0,0,[],[],[]⟩=l[i]:=by simp[List.getD,show i<l.length by omega]
   have h2:=Nb d (CG (B4 l[i])) i (CM d l i) _ h1 (CG (B4 l[i])).length p
   have h3:=h l[i] (List.getElem_mem _)
   rw[CM,e];omega
theorem MS(X:List (List Int)): ∀ L∈X.map Ak,AA 0 L=true:=by
 intro L hL
 obtain⟨v,_,rfl⟩:=List.mem_map.1 hL
 simp
end Go.Proofs.YtpkhodjlnodagaaGreatDoor
namespace Go.Proofs.YtpkhodjlnodagaaGreatDoor
open Go.Av
def LOk(b:Nat)(L:List Int):Prop:=L.Pairwise (· < ·)∧ ∀ x∈L,0≤x∧x<(b:Int)
theorem LOk.up{b b':Nat}{L:List Int}(h:b≤b')(hl:LOk b L):LOk b' L:=⟨hl.1,fun x hx=>by have:=hl.2 x hx;omega⟩
theorem LOk.snoc{b:Nat}{L:List Int}(hl:LOk b L):LOk (b+1) (L++[(b:Int)]):=by
 refine⟨?_,?_⟩
 · rw[List.pairwise_append]
   exact⟨hl.1,by simp,fun a ha c hc=>by rw[List.mem_singleton.1 hc];exact(hl.2 a ha).2⟩
 · intro x hx
   rcases List.mem_append.1 hx with hx|hx
   · have:=hl.2 x hx;omega
   · rw[List.mem_singleton.1 hx];omega
theorem T7: ∀ (L:List Int) (a b:Int),L.Pairwise (· < ·)→(∀ x∈L,a≤x∧x<b)→(L.length:Int)≤max 0 (b-a)
 | [],a,b,_,_=>by simp;omega
 |x::L,a,b,h,hr=>by
   have h1:=List.pairwise_cons.1 h
   have h2:=T7 L (x+1) b h1.2 (fun y hy=>⟨by have:=h1.1 y hy;omega,(hr y (by simp[hy])).2⟩)
   have h3:=hr x (by simp)
   simp only[List.length_cons];omega
theorem LOk.post{b:Nat}{L:List Int}(h:LOk b L)(hb:b≤4096):Post L:=by
 have:=T7 L 0 b h.1 h.2
 refine⟨by omega,fun i hi=>?_,fun i hi=>?_⟩
 · have:=h.2 _ (List.getElem_mem hi);omega
 · exact List.pairwise_iff_getElem.1 h.1 i (i+1) (by omega) hi (by omega)
theorem Z6(Y:List (List Int))(p:Nat)(i:Int)(h:p<Y.length):(HH Y p i).getD p []=Y.getD p []++[i]:=by
 unfold HH;simp[List.getD,h]
theorem YF(Y:List (List Int))(p q:Nat)(i:Int)(h:p≠q):(HH Y p i).getD q []=Y.getD q []:=by
 unfold HH;simp[List.getD,List.getElem?_set_ne h]
theorem TQ(d ws:List S)(i:Nat)(X:List (List Int))(hd:d.Pairwise ltS)(hws:ws.Pairwise ltS)(hm: ∀ w∈ws,w∈d)(hX:X.length=d.length)(h0: ∀ p,LOk i (X.getD p [])):
   ∀ k,k≤ws.length→ ∀ p,LOk (i+1) ((E9 d ws i X k).getD p [])∧((∀ j,j<k→CZ d (ws.getD j [])≠p)→LOk i ((E9 d ws i X k).getD p []))
 |0,_,p=>⟨(h0 p).up (by omega),fun _=>h0 p⟩
 |k+1,hk,p=>by
   have IH:=TQ d ws i X hd hws hm hX h0 k (by omega)
   have hwk:ws.getD k []=ws[k]:=by simp[List.getD,show k<ws.length by omega]
   have hg:=Fm d ws[k] hd (hm _ (List.getElem_mem _))
   rw[E9]
   by_cases hp:CZ d (ws.getD k [])=p
   · subst hp
     have hfresh: ∀ j,j<k→CZ d (ws.getD j [])≠CZ d (ws.getD k []):=by
       intro j hj he
       have hwj:ws.getD j []=ws[j]:=by simp[List.getD,show j<ws.length by omega]
       have hgj:=Fm d ws[j] hd (hm _ (List.getElem_mem _))
       rw[hwj,hwk]at he
       rw[he,hg.1]at hgj
       have hlt:=List.pairwise_iff_getElem.1 hws j k (by omega) (by omega) hj
       have:ws[k]=ws[j]:=by simpa using hgj.1
       rw[this]at hlt
       exact De _ hlt
     rw[Z6 _ _ _ (by rw[La,hX,hwk];exact hg.2)]
     exact⟨((IH _).2 hfresh).snoc,fun h=>absurd rfl (h k (by omega))⟩
   · rw[YF _ _ _ _ hp]
     exact⟨(IH p).1,fun h=>(IH p).2 (fun j hj=>h j (by omega))⟩
theorem TG(d:List S)(l:List Ev)(hd:d.Pairwise ltS)(hww: ∀ e∈l,∀ w∈CG (B4 e),w∈d): ∀ i,i≤l.length→ ∀ p,LOk i ((CM d l i).getD p [])
 |0,_,p=>by
   simp only[CM,List.getD,List.getElem?_replicate]
   split<;>exact⟨by simp,by simp⟩
 |i+1,hi,p=>by
   have IH:=TG d l hd hww i (by omega)
   have e:l.getD i ⟨0,0,0,0,[],0,0,[],[],[]⟩=l[i]:=by simp[List.getD,show i<l.length by omega]
   rw[CM,e]
   exact(TQ d _ i _ hd (B2 _) (hww l[i] (List.getElem_mem _)) (G2 d l i) IH _ (Nat.le_refl _) p).1
theorem JA(d:List S)(l:List Ev)(hl:l.length≤4096)(hd:d.Pairwise ltS)(hww: ∀ e∈l,∀ w∈CG (B4 e),w∈d): ∀ L∈CM d l l.length,Post L:=by
 intro L hL
 obtain⟨p,hp,rfl⟩:=List.getElem_of_mem hL
 have:=TG d l hd hww l.length (Nat.le_refl _) p
 rw[show(CM d l l.length).getD p []=(CM d l l.length)[p] by simp[List.getD,hp]]at this
 exact this.post hl
theorem PI(l:List Ev): ∀ e∈l,∀ w∈CG (B4 e),w∈AQ l:=by
 intro e he w hw
 refine(C5 _ _).2 ?_
 unfold Fc
 rw[List.take_length]
 exact List.mem_flatMap.2 ⟨e,he,hw⟩
end Go.Proofs.YtpkhodjlnodagaaGreatDoor
namespace Go.Proofs.YtpkhodjlnodagaaGreatDoor
open Go.Av
set_option maxHeartbeats 4000000
attribute [local irreducible] Af
def J1(d:List S)(X:List (List Int))(i:Nat):List UInt8:=AF (AG d)++(X.take i).flatMap fun L=>AF (Bq L)
theorem Xd(d:List S)(X:List (List Int))(i:Nat)(h:i<X.length):J1 d X (i+1)=J1 d X i++AF (Bq X[i]):=by
 unfold J1
 rw[List.take_add_one,List.getElem?_eq_getElem h,List.flatMap_append]
 simp only[Option.toList,List.flatMap_cons,List.flatMap_nil,List.append_nil,List.append_assoc]
theorem Nt(d:List S)(X:List (List Int))(hc:A6 d=0)(hX: ∀ L∈X,Post L): ∀ i,i≤X.length→(J1 d X i).length≤70000000+i*100011
 |0,_=>by
   have h1:=FF d hc
   have h2:=Db (AG d)
   have h3:=(E2 d hc).2
   simp[J1];omega
 |i+1,hi=>by
   have:=Nt d X hc hX i (by omega)
   have h1:=DA X[i] (hX _ (List.getElem_mem _))
   have h2:=Db (Bq X[i])
   rw[Xd d X i (by omega),List.length_append];omega
def GH(l:List Ev):List UInt8:=J1 (AQ l) (CM (AQ l) l l.length) (CM (AQ l) l l.length).length
theorem IM(l:List Ev): ∀ s∈Fc l l.length,s.length≤2048:=by
 intro s hs
 unfold Fc at hs
 obtain⟨e,he,hs⟩:=List.mem_flatMap.1 hs
 have:=Lt _ s hs;omega
theorem AcF(l:List Ev)(hl:l.length≤4096)(h: ∀ e∈l,EvT e)(hw:(AQ l).length≤32768):Af Tryz.prog 107 [.sl 10 (evE l)] [] (.osl 0 (GH l).length 1) [some ⟨5,1,Ab (GH l)⟩]:=by
 have hww:=PI l
 have hds0:(AQ l).Pairwise ltS:=B2 _
 have hpost:=JA (AQ l) l hl hds0 hww
 have hc:A6 (AQ l)=0:=DP _ hw (IM l)
 have hxb:=Nt (AQ l) (CM (AQ l) l l.length) hc hpost
 have hxs:=Xd (AQ l) (CM (AQ l) l l.length)
 have q5:=Jj (AQ l) hc (by omega) (Nn _ hc)
 have hel:=FF _ hc
 have q6:=JN (AG (AQ l)) (by omega)
 have hbl:=Db (AG (AQ l))
 have hx0:J1 (AQ l) (CM (AQ l) l l.length) 0=AF (AG (AQ l)):=by simp[J1]
 have hxL:=G2 (AQ l) l l.length
 unfold GH
 clear hc hds0
 refine acN 71 0 Tryz.func107 fun C hN hk=>?_
 have q0:=Rb l hl h
 have hwl0: ∀ e∈l,(CG (B4 e)).length≤80041:=by
   intro e he
   have h1:=FG (B4 e)
   have h2:=Ha e (h e he)
   omega
 have hds:(AQ l).Pairwise ltS:=B2 _
 generalize J1 (AQ l) (CM (AQ l) l l.length)=xb at*
 generalize AF (AG (AQ l))=bd at*
 generalize AG (AQ l)=ed at*
 generalize AQ l=d at*
 refine Ah [0] ?_
 refine Ah [0,3] ?_ (onc 1 (pcq q0) noc)
 refine Ah [0,3,4] ?_
 refine Ah [0,3,4,5] ?_
 have FC: ∀ env:List (Nat×AV),Mv 2 env=true→FamC 1 env [(0,some ⟨9,1,Ay d⟩)]:=fun env he=>⟨rfl,by simp[LZ],he⟩
 refine P3 (o:=1) (sz:=1) (ty:=3) (oty:=43) (m:=d.length) (hp:=[(0,some ⟨9,1,Ay d⟩)]) hk (by omega) (FC _ rfl) ?_
 refine NE (k:=0) (fun i:Nat=>SO [(0,.sl 10 (evE l)),(3,.osl 0 d.length 1),(4,.osl 1 d.length 1),(5,I i)] [(0,some ⟨9,1,Ay d⟩)] 1 1 3 43 ((CM d l i).map Ak)) (fun i=>i≤l.length) (fun i=>l.length-i) 0 (by omega) (by simp[CM,I]) ?_
 intro i h1
 have hpl:=MS (CM d l i)
 have hxl:=G2 d l i
 have hm:1+1+d.length=1+1+((CM d l i).map Ak).length:=by simp[hxl]
 have hno:((CM d l i).map Ak)[d.length]? =none:=by simp[hxl]
 by_cases hi:i<l.length
 · have hx:=List.getElem?_eq_getElem hi
   have he:=h _ (List.getElem_mem hi)
   have q0:=Rn l[i] he.nl he.tx
   have hwl:=FG (B4 l[i])
   have ht:=Ha l[i] he
   have q1:=OY (B4 l[i]) (by omega)
   have hpx:CM d l (i+1)=E9 d (CG (B4 l[i])) i (CM d l i) (CG (B4 l[i])).length:=by
     rw[CM,show l.getD i ⟨0,0,0,0,[],0,0,[],[],[]⟩=l[i] by simp[List.getD,hi]]
   have hmem: ∀ w∈CG (B4 l[i]),w∈d:=hww l[i] (List.getElem_mem hi)
   generalize CG (B4 l[i])=ws at*
   generalize B4 l[i]=tx at*
   generalize l[i]=ev at*
   generalize hXe:CM d l i=X at*
   refine nx ?_
   rw[hm]
   refine Dg hN hk (d.length) (.normal) [(0,.sl 10 (evE l)),(3,.osl 0 d.length 1),(4,.osl 1 d.length 1),(5,I i),(20,B true)] [(0,some ⟨9,1,Ay d⟩)] 1 (none) (by omega) (FC _ rfl) hpl (by omega) (FC _ rfl) (by simp) (by first|(simp;done)|(simp[hxl];done)|(simp[hxl];omega)) ?_ ?_
   · intro C vs hN hk hvl
     rw[hno]
     simp only[Go.Av.ST,Eg,Option.map_none,List.cons_append,List.nil_append,Nat.reduceAdd]
     refine nx ?_
     refine Dy AZ hN hk (noc) [0,1,2] [0,3,4,5,20] 3 (by omega) rfl (by decide+kernel) (fun K hK=>?_)
     simp only[go_sem,seval]
     try simp (disch:=omega) only[au]
     (first|with_reducible refine hK _ _ ?_|refine obK (hK _ _ ?_));clear hK K;refine nx ?_
     refine⟨rfl,[some 0,some 1],[],⟨by simp[Al],by simp[Al],by simp⟩,by simp,by simp[AR,lk,lkh,I,str,B,U8,U64,U32]<;>omega,by first|(simp[Am,Ai,Aj,lkh];done)|(simp[Am,Ai,Aj,lkh,I,str];done)|simp[Am,Ai,Aj,lkh,I,str]⟩
   rw[← hm]
   refine Aw ?_
   refine AI rfl (AW.skip (Aw ?_))
   simp only[Cj]
   refine nx ?_
   rw[hm]
   refine Dg hN hk (d.length) (.normal) [(0,.sl 10 (evE l)),(3,.osl 0 d.length 1),(4,.osl 1 d.length 1),(5,I i),(6,.sl 1 (Ay ws))] [(0,some ⟨9,1,Ay d⟩)] 1 (none) (by omega) (FC _ rfl) hpl (by omega) (FC _ rfl) (by simp) (by first|(simp;done)|(simp[hxl];done)|(simp[hxl];omega)) ?_ ?_
   · intro C vs hN hk hvl
     rw[hno]
     simp only[Go.Av.ST,Eg,Option.map_none,List.cons_append,List.nil_append,Nat.reduceAdd]
     refine nx ?_
     refine Dy AZ hN hk (onc 4 (pcq q0) (onc 5 (pcq q1) noc)) [0,1,2] [0,3,4,5,6] 3 (by omega) rfl (by decide+kernel) (fun K hK=>?_)
     simp only[go_sem,seval,hx];refine obK (hK _ _ ?_)
     clear hK K;refine nx ?_
     refine⟨rfl,[some 0,some 1],[3],⟨by simp[Al],by simp[Al],by simp⟩,by simp,by simp[AR,lk,lkh,I,str,B,U8,U64,U32]<;>omega,by first|(simp[Am,Ai,Aj,lkh];done)|(simp[Am,Ai,Aj,lkh,I,str];done)|simp[Am,Ai,Aj,lkh,I,str]⟩
   rw[← hm]
   refine Aw ?_
   simp only[Cj]
   refine nx ?_
   rw[hm]
   refine Dg hN hk (d.length) (.normal) [(0,.sl 10 (evE l)),(3,.osl 0 d.length 1),(4,.osl 1 d.length 1),(5,I i),(6,.sl 1 (Ay ws)),(7,I 0)] [(0,some ⟨9,1,Ay d⟩)] 1 (none) (by omega) (FC _ rfl) hpl (by omega) (FC _ rfl) (by simp) (by first|(simp;done)|(simp[hxl];done)|(simp[hxl];omega)) ?_ ?_
   · intro C vs hN hk hvl
     rw[hno]
     simp only[Go.Av.ST,Eg,Option.map_none,List.cons_append,List.nil_append,Nat.reduceAdd]
     refine nx ?_
     refine Dy AZ hN hk (noc) [0,1,2] [0,3,4,5,6,7] 3 (by omega) rfl (by decide+kernel) (fun K hK=>?_)
     simp only[go_sem,seval];refine hK _ _ ?_
     clear hK K;refine nx ?_
     refine⟨rfl,[some 0,some 1],[],⟨by simp[Al],by simp[Al],by simp⟩,by simp,by simp[AR,lk,lkh,I,str,B,U8,U64,U32]<;>omega,by first|(simp[Am,Ai,Aj,lkh];done)|(simp[Am,Ai,Aj,lkh,I,str];done)|simp[Am,Ai,Aj,lkh,I,str]⟩
   rw[← hm]
   refine Aw ?_
   simp only[Cj]
   clear hpl hno hm
   refine nx ?_
   refine NE (k:=0) (fun k:Nat=>SO [(0,.sl 10 (evE l)),(3,.osl 0 d.length 1),(4,.osl 1 d.length 1),(5,I i),(6,.sl 1 (Ay ws)),(7,I k)] [(0,some ⟨9,1,Ay d⟩)] 1 1 3 43 ((E9 d ws i X k).map Ak)) (fun k=>k≤ws.length) (fun k=>ws.length-k) 0 (by omega) (by simp[E9]) ?_
   intro k h2
   have hpl:=MS (E9 d ws i X k)
   have hxl2:=La d ws i X k
   have hm:1+1+d.length=1+1+((E9 d ws i X k).map Ak).length:=by simp[hxl2,hxl]
   have hno:((E9 d ws i X k).map Ak)[d.length]? =none:=by simp[hxl2,hxl]
   by_cases hk2:k<ws.length
   · have hy:=List.getElem?_eq_getElem hk2
     have hget:=Fm d ws[k] hds (hmem _ (List.getElem_mem hk2))
     have q2:=Rf d ws[k] (by omega)
     have hpk:E9 d ws i X (k+1)=HH (E9 d ws i X k) (CZ d ws[k]) i:=by
       rw[E9,show ws.getD k []=ws[k] by simp[List.getD,hk2]]
     generalize ws[k]=wd at*
     generalize hpe:CZ d wd=p at*
     generalize C2 d wd=pb at*
     generalize hYe:E9 d ws i X k=Y at*
     have hpl2:p<Y.length:=by omega
     have hat:(Y.map Ak)[p]? =some (Ak (Y.getD p [])):=by simp[List.getD,hpl2]
     have hYl:(Y.getD p []).length≤i*80041+k:=by rw[← hYe,← hXe];exact Nb d ws i _ _ (RC d l hwl0 i h1) k p
     generalize hZe:Y.getD p []=Z at*
     rw[hm]
     refine Dg hN hk p .normal [(0,.sl 10 (evE l)),(3,.osl 0 d.length 1),(4,.osl 1 d.length 1),(5,I i),(6,.sl 1 (Ay ws)),(7,I (k+1:Nat))] [(0,some ⟨9,1,Ay d⟩)] 1 (some (Ak (Z++[(i:Int)]))) (by omega) (FC _ rfl) hpl (by omega) (FC _ rfl) (by simp) (by simp;omega) ?_ ?_
     · intro C vs hN hk hvl
       rw[hat]
       simp only[Go.Av.ST,Eg,Option.map_some,List.cons_append,List.nil_append,Nat.reduceAdd]
       have hvp:p<vs.length:=by rw[hvl];simpa using hpl2
       have hv0:=fun c=>If (c:=c) hvp
       refine nx ?_
       refine Dy AZ hN hk (noc) [0,1,2] [0,3,4,5,6,7,32] 3 (by omega) rfl (by decide+kernel) (fun K hK=>?_)
       simp only[go_sem,seval]
       try simp (disch:=omega) only[au]
       (first|with_reducible refine hK _ _ ?_|refine obK (hK _ _ ?_));clear hK K;refine nx ?_
       refine cT ?_;refine nx ?_
       refine Dy AZ hN hk (onc 5 (bcq [0] q2) noc) [0,1,2] [0,3,4,5,6,7,8] 3 (by omega) rfl (by decide+kernel) (fun K hK=>?_)
       simp only[go_sem,seval,hy];refine obK (hK _ _ ?_)
       clear hK K;refine nx ?_
       refine Dy AZ hN hk (noc) [0,1,2] [0,3,4,5,6,7,52] 3 (by omega) rfl (by decide+kernel) (fun K hK=>?_)
       simp only[go_sem,seval,hv0]
       (first|with_reducible refine hK _ _ ?_|refine obK (hK _ _ ?_));clear hK K;refine nx ?_
       refine Dy AZ hN hk (noc) [0,1,2] [0,3,4,5,6,7,52] 3 (by omega) rfl (by decide+kernel) (fun K hK=>?_)
       simp only[go_sem,seval]
       try simp (disch:=omega) only[au]
       refine hK _ _ ?_;clear hK K;refine nx ?_
       refine⟨rfl,[some 0,some 1,some 3],[],⟨by simp[Al],by simp[Al],by simp⟩,by simp,by simp[AR,lk,lkh,I,str,B,U8,U64,U32,CT hvp]<;>omega,by first|(simp[Am,Ai,Aj,lkh,CT hvp];done)|(simp[Am,Ai,Aj,lkh,I,str,CT hvp];done)|simp[Am,Ai,Aj,lkh,I,str,CT hvp]⟩
     · refine Aw ⟨by first|rfl|exact hm.symm,k+1,by omega,by omega,?_⟩
       simp only[Cj]
       rw[hpk]
       unfold HH
       rw[hZe,List.map_set]
   · have hke:k=ws.length:=by omega
     rw[hm]
     refine Dg hN hk d.length (.exit 2) [(0,.sl 10 (evE l)),(3,.osl 0 d.length 1),(4,.osl 1 d.length 1),(5,I i)] [(0,some ⟨9,1,Ay d⟩)] 1 none (by omega) (FC _ rfl) hpl (by omega) (FC _ rfl) (by simp) (by simp[hxl2,hxl]) ?_ ?_
     · intro C vs hN hk hvl
       rw[hno]
       simp only[Go.Av.ST,Eg,Option.map_none,List.cons_append,List.nil_append,Nat.reduceAdd]
       refine nx ?_
       refine Dy AZ hN hk (noc) [0,1,2] [0,3,4,5,6,7,32] 3 (by omega) rfl (by decide+kernel) (fun K hK=>?_)
       simp only[go_sem,seval]
       try simp (disch:=omega) only[au]
       (first|with_reducible refine hK _ _ ?_|refine obK (hK _ _ ?_));clear hK K;refine nx ?_
       refine cF ?_;refine nx ?_
       refine⟨rfl,[some 0,some 1],[],⟨by simp[Al],by simp[Al],by simp⟩,by simp,by simp[AR,lk,lkh,I,str,B,U8,U64,U32]<;>omega,by first|(simp[Am,Ai,Aj,lkh];done)|(simp[Am,Ai,Aj,lkh,I,str];done)|simp[Am,Ai,Aj,lkh,I,str]⟩
     · refine nx ?_
       simp only[Cj]
       refine Dg hN hk d.length .normal [(0,.sl 10 (evE l)),(3,.osl 0 d.length 1),(4,.osl 1 d.length 1),(5,I (i+1:Nat))] [(0,some ⟨9,1,Ay d⟩)] 1 none (by omega) (FC _ rfl) hpl (by omega) (FC _ rfl) (by simp) (by simp[hxl2,hxl]) ?_ ?_
       · intro C vs hN hk hvl
         rw[hno]
         simp only[Go.Av.ST,Eg,Option.map_none,List.cons_append,List.nil_append,Nat.reduceAdd]
         refine nx ?_
         refine Dy AZ hN hk (noc) [0,1,2] [0,3,4,5] 3 (by omega) rfl (by decide+kernel) (fun K hK=>?_)
         simp only[go_sem,seval]
         try simp (disch:=omega) only[au]
         refine hK _ _ ?_;clear hK K;refine nx ?_
         refine⟨rfl,[some 0,some 1],[],⟨by simp[Al],by simp[Al],by simp⟩,by simp,by simp[AR,lk,lkh,I,str,B,U8,U64,U32]<;>omega,by first|(simp[Am,Ai,Aj,lkh];done)|(simp[Am,Ai,Aj,lkh,I,str];done)|simp[Am,Ai,Aj,lkh,I,str]⟩
       · refine Aw ⟨by first|rfl|exact hm.symm,i+1,by omega,by omega,?_⟩
         simp only[Cj]
         rw[hpx,hke]
 · have hie:i=l.length:=by omega
   rw[hm]
   refine Dg hN hk d.length (.exit 0) [(3,.osl 0 d.length 1),(4,.osl 1 d.length 1)] [(0,some ⟨9,1,Ay d⟩)] 1 none (by omega) (FC _ rfl) hpl (by omega) (FC _ rfl) (by simp) (by simp[hxl]) ?_ ?_
   · intro C vs hN hk hvl
     rw[hno]
     simp only[Go.Av.ST,Eg,Option.map_none,List.cons_append,List.nil_append,Nat.reduceAdd]
     refine nx ?_
     refine Dy AZ hN hk (noc) [0,1,2] [0,3,4,5,20] 3 (by omega) rfl (by decide+kernel) (fun K hK=>?_)
     simp only[go_sem,seval]
     try simp (disch:=omega) only[au]
     (first|with_reducible refine hK _ _ ?_|refine obK (hK _ _ ?_));clear hK K;refine nx ?_
     refine cF ?_;refine nx ?_
     refine⟨rfl,[some 0,some 1],[],⟨by simp[Al],by simp[Al],by simp⟩,by simp,by simp[AR,lk,lkh,I,str,B,U8,U64,U32]<;>omega,by first|(simp[Am,Ai,Aj,lkh];done)|(simp[Am,Ai,Aj,lkh,I,str];done)|simp[Am,Ai,Aj,lkh,I,str]⟩
   refine nx ?_
   simp only[Cj]
   rw[← hm,hie]
   subst hie
   generalize CM d l l.length=X at*
   have FO:=N1 (sz:=1) (ty:=3) (oty:=43) (FC [(3,.osl 0 d.length 1),(4,.osl 1 d.length 1)] rfl) hpl
   refine Jz hk 2 ⟨[(3,.osl 0 d.length 1),(4,.osl 1 d.length 1)],[(0,some ⟨9,1,Ay d⟩),(1,some ⟨43,1,iiE X⟩)]⟩ (Cy [some 0,some 1] (List.range' 2 X.length) (by simp[AR,lk,SO]) ?_) ?_
   · refine⟨.inl ⟨0,⟨9,1,Ay d⟩,rfl,rfl,rfl,rfl,.inl ⟨rfl,by simp⟩⟩,.inl ⟨1,⟨43,1,Ho 2 1 (X.map Ak)⟩,rfl,rfl,rfl,rfl,.inr ?_⟩,trivial⟩
     have:=Pq (hp:=lkh (SO [(3,.osl 0 d.length 1),(4,.osl 1 d.length 1)] [(0,some ⟨9,1,Ay d⟩)] 1 1 3 43 (X.map Ak)).hp) (ids:=[some 0,some 1]) (D:=List.range' 2 X.length) (ty:=3) (sz:=1) (X.map Ak) 2 (fun j hj=>by simp at hj ⊢;omega) (fun j L hj=>FO.inn j L hj) hpl
     rw[List.map_map]at this
     exact this
   refine Jz hk 1 ⟨[(3,.osl 0 d.length 1),(4,.sl 1 (iiE X))],[(0,some ⟨9,1,Ay d⟩)]⟩ (Gg hxL [some 0] [1]) ?_
   refine Ah [3,4,10] ?_ (onc 1 (bcq [0] q5) (onc 2 (bcq [9] q6) noc))
   refine Ah [3,4,10,11] ?_
   refine lpF hk 2 (fun i:Nat=>⟨[(3,.osl 0 d.length 1),(4,.sl 1 (iiE X)),(10,.osl 1 (xb i).length 1),(11,I i)],[(0,some ⟨9,1,Ay d⟩),(1,some ⟨5,1,Ab (xb i)⟩)]⟩) (fun i=>i≤X.length) (fun i=>X.length-i) 0 (C9 hx0 [some 0,some 1] []) ?_
   intro i h1
   have hbi:=hxb i h1
   by_cases hi:i<X.length
   · have hx:=List.getElem?_eq_getElem hi
     have hp:=hpost _ (List.getElem_mem hi)
     have hs:=hxs i hi
     have q7:=NK X[i] hp
     have e1:=DA X[i] hp
     have q8:=HK (xb i) (Bq X[i]) (by omega) (by omega)
     have e2:=Db (Bq X[i])
     generalize AF (Bq X[i])=x1 at*
     generalize Bq X[i]=x2 at*
     generalize X[i]=L at*
     generalize xb i=x3 at*
     refine AU [3,4,10,11,60] ?_
     refine cT ?_;refine Dw [3,4,10,11] ?_ (onc 5 (pcq q7) (onc 6 (M8 1 [42] q8) noc))
     refine AU [3,4,10,11] ?_
     refine eE (i+1) (Ol [some 0,some 1] [])
   · have:i=X.length:=by omega
     subst this
     refine AU [3,4,10,11,60] ?_
     refine cF ?_;refine Ah [2] ?_
     refine AW.ret (DX [some 0] [])
structure SegOk(l:List Ev):Prop where
 len:l.length≤4096
 ev: ∀ e∈l,EvT e
 tr: ∀ e∈l,e.trace.length≤2048∧e.stream.length≤2048
 lines:(l.flatMap Ev.lines).length≤16384
 names:(A9 l).length≤32768
 words:(AQ l).length≤32768
def Ez{β:Type}(f:Ev→β)(l:List Ev)(i:Nat):List β:=(l.take i).map f
theorem O6{β:Type}(f:Ev→β)(l:List Ev)(i:Nat)(h:i<l.length):Ez f l (i+1)=Ez f l i++[f l[i]]:=by
 unfold Ez
 rw[List.take_add_one,List.getElem?_eq_getElem h]
 simp only[Option.toList,List.map_append,List.map_cons,List.map_nil]
theorem Lq{β:Type}(f:Ev→β)(l:List Ev)(i:Nat):(Ez f l i).length≤l.length:=by simp[Ez];omega
theorem Lr{β:Type}(f:Ev→β)(l:List Ev):Ez f l l.length=l.map f:=by simp[Ez]
noncomputable def DY(l:List Ev)(k:Nat):List UInt8:=
 if k=7 then ixF (l.map Ev.trace)else if k=8 then ixF (l.map Ev.stream)else if k=9 then Io l else if k=10 then FU l else if k=11 then GH l else if k=12 then JB l
 else BF (l.map fun e=>CY e k)
theorem W5(l:List Ev)(H:SegOk l)(k:Nat)(h1:1≤k)(h12:k≤12):Af Tryz.prog 58 [.sl 10 (evE l),I k] [] (.osl 0 (DY l k).length 1) [some ⟨5,1,Ab (DY l k)⟩]:=by
 refine acN 72 0 Tryz.func58 fun C hN hk=>?_
 have hl:=H.len
 by_cases h6:k≤6
 · have e:DY l k=BF (l.map fun e=>CY e k):=by
     unfold DY;rw[if_neg (by omega),if_neg (by omega),if_neg (by omega),if_neg (by omega),if_neg (by omega),if_neg (by omega)]
   rw[e]
   have hm0:Ez (fun e=>CY e k) l 0=[]:=rfl
   refine Ah [0,1] ?_
   refine Ah [0,1,5] ?_
   refine Ah [0,1,5,9] ?_
   refine AU [0,1,5,9,10] ?_;refine cF ?_;refine AU [0,1,5,9,10] ?_;refine cF ?_;refine AU [0,1,9,39] ?_;refine cF ?_;refine AU [0,1,9,43] ?_;refine cF ?_;refine AU [0,1,9,47] ?_;refine cF ?_;refine AU [0,1,51] ?_;refine cF ?_;refine Ah [0,1,7] ?_
   refine Ah [0,1,7,8] ?_
   refine lpF hk 1 (fun i:Nat=>⟨[(0,.sl 10 (evE l)),(1,I k),(7,.osl 0 (Ez (fun e=>CY e k) l i).length 1),(8,I i)],[(0,some ⟨3,1,Ak (Ez (fun e=>CY e k) l i)⟩)]⟩) (fun i=>i≤l.length) (fun i=>l.length-i) 0 (C9 hm0 [none] []) ?_
   intro i hi0
   have hml:=Lq (fun e=>CY e k) l i
   by_cases hi:i<l.length
   · have hx:=List.getElem?_eq_getElem hi
     have hs:=O6 (fun e=>CY e k) l i hi
     have q:=Z1 l[i] k h1 h6
     generalize Ez (fun e=>CY e k) l i=o at*
     generalize CY l[i] k=v at*
     generalize l[i]=ev at*
     refine AU [0,1,7,8,58] ?_
     refine cT ?_;refine Dw [0,1,7,8] ?_ (onc 6 (pcq q) noc)
     refine AU [0,1,7,8] ?_
     refine eE (i+1) (Ol [some 0] [])
   · have:i=l.length:=by omega
     subst this
     rw[Lr]at*
     generalize l.map (fun e=>CY e k)=o at*
     have q:=HW o (by omega)
     refine AU [0,1,7,8,58] ?_
     refine cF ?_;refine Ah [4] ?_ (onc 1 (bcq [0] q) noc)
     refine AW.ret (DX [some 0] [])
 · obtain rfl|rfl|rfl|rfl|rfl|rfl:k=7∨k=8∨k=9∨k=10∨k=11∨k=12:=by omega
   · have e:DY l 7=ixF (l.map Ev.trace):=rfl
     rw[e]
     have hm0:Ez Ev.trace l 0=[]:=rfl
     refine Ah [0,1] ?_
     refine Ah [0,1,5] ?_
     refine Ah [0,1,5,9] ?_
     refine AU [0,1,5,9,10] ?_;refine cT ?_;refine nx ?_;refine cT ?_;refine Ah [0,1,5,6] ?_
     refine lpF hk 1 (fun i:Nat=>⟨[(0,.sl 10 (evE l)),(1,I 7),(5,.osl 0 (Ez Ev.trace l i).length 1),(6,I i)],[(0,some ⟨9,1,Ay (Ez Ev.trace l i)⟩)]⟩) (fun i=>i≤l.length) (fun i=>l.length-i) 0 (C9 hm0 [none] []) ?_
     intro i hi0
     have hml:=Lq Ev.trace l i
     by_cases hi:i<l.length
     · have hx:=List.getElem?_eq_getElem hi
       have hs:=O6 Ev.trace l i hi
       generalize Ez Ev.trace l i=o at*
       generalize l[i]=ev at*
       have F:=hx;refine A5 [0,1,5,6,16] ?_;clear F
       refine cT ?_;have F:=hx;refine A5 [0,1,5,6,20] ?_;clear F;refine cT ?_;refine Dw [0,1,5,6] ?_
       have F:=hx;refine A5 [0,1,5,6] ?_;clear F
       refine eE (i+1) (Ol [some 0] [])
     · have:i=l.length:=by omega
       subst this
       have hsh: ∀ t∈l.map Ev.trace,t.length≤2048:=by
         intro t ht;obtain⟨e,he,rfl⟩:=List.mem_map.1 ht;exact(H.tr e he).1
       rw[Lr]at*
       have q:=Mc (l.map Ev.trace) (by simpa using hl) hsh
       generalize l.map Ev.trace=o at*
       generalize ixF o=x at*
       refine AU [0,1,5,6,16] ?_
       refine cF ?_;refine Ah [4] ?_ (onc 1 (bcq [0] q) noc)
       refine AW.ret (DX [some 0] [])
   · have e:DY l 8=ixF (l.map Ev.stream):=rfl
     rw[e]
     have hm0:Ez Ev.stream l 0=[]:=rfl
     refine Ah [0,1] ?_
     refine Ah [0,1,5] ?_
     refine Ah [0,1,5,9] ?_
     refine AU [0,1,5,9,10] ?_;refine cF ?_;refine AU [0,1,5,9,10] ?_;refine cT ?_;refine Ah [0,1,5,6] ?_
     refine lpF hk 1 (fun i:Nat=>⟨[(0,.sl 10 (evE l)),(1,I 8),(5,.osl 0 (Ez Ev.stream l i).length 1),(6,I i)],[(0,some ⟨9,1,Ay (Ez Ev.stream l i)⟩)]⟩) (fun i=>i≤l.length) (fun i=>l.length-i) 0 (C9 hm0 [none] []) ?_
     intro i hi0
     have hml:=Lq Ev.stream l i
     by_cases hi:i<l.length
     · have hx:=List.getElem?_eq_getElem hi
       have hs:=O6 Ev.stream l i hi
       generalize Ez Ev.stream l i=o at*
       generalize l[i]=ev at*
       have F:=hx;refine A5 [0,1,5,6,16] ?_;clear F
       refine cT ?_;have F:=hx;refine A5 [0,1,5,6,20] ?_;clear F;refine cF ?_;refine Dw [0,1,5,6] ?_
       have F:=hx;refine A5 [0,1,5,6] ?_;clear F
       refine eE (i+1) (Ol [some 0] [])
     · have:i=l.length:=by omega
       subst this
       have hsh: ∀ t∈l.map Ev.stream,t.length≤2048:=by
         intro t ht;obtain⟨e,he,rfl⟩:=List.mem_map.1 ht;exact(H.tr e he).2
       rw[Lr]at*
       have q:=Mc (l.map Ev.stream) (by simpa using hl) hsh
       generalize l.map Ev.stream=o at*
       generalize ixF o=x at*
       refine AU [0,1,5,6,16] ?_
       refine cF ?_;refine Ah [4] ?_ (onc 1 (bcq [0] q) noc)
       refine AW.ret (DX [some 0] [])
   · have e:DY l 9=Io l:=rfl
     rw[e]
     have q:=AbF l hl H.ev H.lines
     generalize Io l=x at*
     refine Ah [0,1] ?_
     refine Ah [0,1,5] ?_
     refine Ah [0,1,5,9] ?_
     refine AU [0,1,5,9,10] ?_;refine cF ?_;refine AU [0,1,5,9,10] ?_;refine cF ?_;refine AU [0,1,9,39] ?_;refine cT ?_;refine Ah [4] ?_ (onc 1 (pcq q) noc)
     refine AW.ret (DX [some 0] [])
   · have e:DY l 10=FU l:=rfl
     rw[e]
     have q:=X2 l hl H.ev H.names
     generalize FU l=x at*
     refine Ah [0,1] ?_
     refine Ah [0,1,5] ?_
     refine Ah [0,1,5,9] ?_
     refine AU [0,1,5,9,10] ?_;refine cF ?_;refine AU [0,1,5,9,10] ?_;refine cF ?_;refine AU [0,1,9,39] ?_;refine cF ?_;refine AU [0,1,9,43] ?_;refine cT ?_;refine Ah [4] ?_ (onc 1 (pcq q) noc)
     refine AW.ret (DX [some 0] [])
   · have e:DY l 11=GH l:=rfl
     rw[e]
     have q:=AcF l hl H.ev H.words
     generalize GH l=x at*
     refine Ah [0,1] ?_
     refine Ah [0,1,5] ?_
     refine Ah [0,1,5,9] ?_
     refine AU [0,1,5,9,10] ?_;refine cF ?_;refine AU [0,1,5,9,10] ?_;refine cF ?_;refine AU [0,1,9,39] ?_;refine cF ?_;refine AU [0,1,9,43] ?_;refine cF ?_;refine AU [0,1,9,47] ?_;refine cT ?_;refine Ah [4] ?_ (onc 1 (pcq q) noc)
     refine AW.ret (DX [some 0] [])
   · have e:DY l 12=JB l:=rfl
     rw[e]
     have q:=Yv l hl H.ev
     generalize JB l=x at*
     refine Ah [0,1] ?_
     refine Ah [0,1,5] ?_
     refine Ah [0,1,5,9] ?_
     refine AU [0,1,5,9,10] ?_;refine cF ?_;refine AU [0,1,5,9,10] ?_;refine cF ?_;refine AU [0,1,9,39] ?_;refine cF ?_;refine AU [0,1,9,43] ?_;refine cF ?_;refine AU [0,1,9,47] ?_;refine cF ?_;refine AU [0,1,51] ?_;refine cT ?_;refine Ah [4] ?_ (onc 1 (pcq q) noc)
     refine AW.ret (DX [some 0] [])
def Qk(s:S):Prop:=1≤s.length∧s.length≤32∧ ∀ c∈s,G6 c=true
theorem Rl{c:UInt8}(h:G6 c=true):Qx c=true:=by simp[Qx,h]
theorem SY(s:S)(h:Qk s):Af Tryz.prog 205 [str s] [] (B true) []:=by
 obtain⟨h1,h2,h3⟩:=h
 refine acN 40 0 Tryz.func205 fun C hN hk=>?_
 have hx0:s[0]? =some s[0]:=List.getElem?_eq_getElem (by omega)
 have q0:=UE s[0]
 rw[h3 _ (List.getElem_mem _)]at q0
 have d1:=HB (a:=(s.length:Int)) (b:=1) (by omega)
 have d2:=Fg (a:=(s.length:Int)) (b:=32) (by omega)
 generalize s[0]=c0 at*
 refine Ah [0] ?_
 refine rG hN hk (onc 11 (pcq q0) noc) [] [0,22] fun K hK=>?_;simp only[go_sem,seval,d1,d2,hx0]
 try simp (disch:=omega) only[au]
 try simp only[go_sem,seval,d1,d2,hx0]
 iterate 3 try(simp (disch:=omega) only[au];try simp only[go_sem,seval,d1,d2,hx0])
 refine obK (hK _ _ ?_);clear hK K;refine nx ?_;refine cF ?_;refine Ah [0,3] ?_
 refine lpF hk 0 (fun i:Nat=>⟨[(0,str s),(3,I i)],[]⟩) (fun i=>i≤s.length) (fun i=>s.length-i) 0 (Eb [] []) ?_
 intro i hi0
 by_cases hi:i<s.length
 · have hx:=List.getElem?_eq_getElem hi
   have q:=AgB s[i]
   rw[Rl (h3 _ (List.getElem_mem _))]at q
   generalize s[i]=c at*
   refine AU [0,3,26] ?_
   refine cT ?_;refine nx ?_;refine rG hN hk (onc 3 (pcq q) noc) [] [0,3,39] fun K hK=>?_;simp only[go_sem,seval,hx]
   try simp (disch:=omega) only[au]
   try simp only[go_sem,seval,hx]
   refine obK (hK _ _ ?_);clear hK K;refine nx ?_;refine cF ?_;refine AU [0,3] ?_
   refine eE (i+1) (Eb [] [])
 · refine AU [0,3,26] ?_
   refine cF ?_;refine Ah [2] ?_
   refine AW.ret (DX [] [])
def Dj(f:Int)(l:List Ln):Int:=f+(l.map Ln.len).sum
theorem WQ(f:Int)(l:List Ln)(i:Nat)(h:i<l.length):Dj f (l.take (i+1))=Dj f (l.take i)+l[i].len:=by
 unfold Dj
 rw[List.take_add_one,List.getElem?_eq_getElem h]
 simp only[Option.toList,List.map_append,List.sum_append,List.map_cons,List.map_nil,List.sum_cons,List.sum_nil];omega
theorem Lu(f:Int)(l:List Ln)(x:Ln):Dj f (l++[x])=Dj f l+x.len:=by
 unfold Dj;simp;omega
structure EvG(e:Ev):Prop where
 host:0≤e.host∧e.host≤999
 file:0≤e.file∧e.file≤2147483646
 frm:0≤e.frm
 to:e.frm<e.to∧e.to≤60000
 time:0≤e.time∧e.time≤253402300799999
 weight:Kk e.weight=true
 nl:1≤e.lines.length∧e.lines.length≤40
 off: ∀ i (h:i<e.lines.length),e.lines[i].off=Dj e.frm (e.lines.take i)∧1≤e.lines[i].len
 all:Dj e.frm e.lines=e.to
 tx: ∀ x∈e.lines,x.text.length≤2000
 tr:e.trace.length≤32∧e.stream.length≤32
 nf:e.fields.length≤32
 fn: ∀ f∈e.fields,Qk f.name∧f.val.length≤2000
 fs:e.fields.Pairwise fun a b=>ltS a.name b.name
theorem EvG.evT{e:Ev}(h:EvG e):EvT e:=⟨h.nl.2,h.tx,h.nf,fun f hf=>⟨(h.fn f hf).1.2.1,(h.fn f hf).2⟩⟩
theorem Qd(f:Int)(l:List Ln)(h: ∀ i (hi:i<l.length),1≤l[i].len)(i:Nat): ∀ k,i+k≤l.length→Dj f (l.take i)+k≤Dj f (l.take (i+k))
 |0,_=>by simp
 |k+1,hk=>by
   have h1:=Qd f l h i k (by omega)
   have h2:=h (i+k) (by omega)
   have h3:=WQ f l (i+k) (by omega)
   rw[← Nat.add_assoc,h3];omega
theorem Acd(e:Ev)(h:EvG e):Af Tryz.prog 153 [.agg (evC e)] [] (I 0) []:=by
 have d1:=HB (a:=e.host) (b:=0) h.host.1
 have d2:=Fg (a:=e.host) (b:=999) h.host.2
 have d3:=HB (a:=e.file) (b:=0) h.file.1
 have d4:=Fg (a:=e.file) (b:=2147483646) h.file.2
 have d5:=HB (a:=e.frm) (b:=0) h.frm
 have d6:=Vh (a:=e.to) (b:=e.frm) h.to.1
 have d7:=Fg (a:=e.to) (b:=60000) h.to.2
 refine acN 38 0 Tryz.func153 fun C hN hk=>?_
 refine Ah [1] ?_
 refine rG hN hk noc [] [37] fun K hK=>?_;simp only[go_sem,seval,d1,d2,d3,d4,d5,d6,d7]
 try simp (disch:=omega) only[au]
 try simp only[go_sem,seval,d1,d2,d3,d4,d5,d6,d7]
 iterate 6 try(simp (disch:=omega) only[au];try simp only[go_sem,seval,d1,d2,d3,d4,d5,d6,d7])
 refine hK _ _ ?_;clear hK K;refine nx ?_;refine cF ?_;refine Ah [2] ?_
 refine AW.ret (DX [] [])
theorem AbU(e:Ev)(h:EvG e):Af Tryz.prog 155 [.agg (evC e),I 2000] [] (I 0) []:=by
 have hm:=Qd e.frm e.lines (fun i hi=>(h.off i hi).2)
 have hto:=h.to
 have hall:=h.all
 have hfr:=h.frm
 obtain⟨hl1,hl2⟩:=h.nl
 have d1:((e.lines.length:Int)==0)=false:=by simp;intro h;simp[h]at hl1
 have d2:=Fg (a:=(e.lines.length:Int)) (b:=40) (by omega)
 refine acN 74 0 Tryz.func155 fun C hN hk=>?_
 have h0:Dj e.frm (e.lines.take 0)=e.frm:=by simp[Dj]
 have h00:Dj e.frm []=e.frm:=by simp[Dj]
 refine Ah [1,2] ?_
 have F:=d1;refine A5 [1,2,11] ?_;clear F
 refine cF ?_;have F:=d2;refine A5 [1,2,15] ?_;clear F
 refine cF ?_;refine Ah [1,2,5] ?_
 refine Ah [1,2,5,6] ?_
 refine lpF hk 1 (fun i:Nat=>⟨[(1,I 2000),(2,.ptr 0 10 0 0),(5,I (Dj e.frm (e.lines.take i))),(6,I i)],[(0,some ⟨56,10,[evC e]⟩)]⟩) (fun i=>i≤e.lines.length) (fun i=>e.lines.length-i) 0 (C9 (And.intro h00 evC.eq_1) [some 0] []) ?_
 intro i hi0
 by_cases hi:i<e.lines.length
 · have hx:=List.getElem?_eq_getElem hi
   have ho:=h.off i hi
   have hs:=WQ e.frm e.lines i hi
   have ht:=h.tx _ (List.getElem_mem hi)
   have hm1:=hm 0 i (by omega)
   have hm2:=hm (i+1) (e.lines.length- (i+1)) (by omega)
   rw[show i+1+(e.lines.length- (i+1))=e.lines.length by omega,List.take_length,hall,hs]at hm2
   rw[Nat.zero_add]at hm1
   rw[h0]at hm1
   have w1:=As (n:=e.to-Dj e.frm (e.lines.take i)) (by omega)
   have w2:=As (n:=(e.lines.length:Int)-1) (by omega)
   have hla:i+1=e.lines.length→e.lines[i].len=e.to-Dj e.frm (e.lines.take i):=by
     intro he
     have:e.lines.take (i+1)=e.lines:=by rw[he,List.take_length]
     rw[this,hall]at hs;omega
   have d3:=HB (a:=e.lines[i].len) (b:=1) ho.2
   have d4:=Fg (a:=e.lines[i].len) (b:=e.to-Dj e.frm (e.lines.take i)) (by omega)
   have d5:(e.lines[i].off !=Dj e.frm (e.lines.take i))=false:=by simp[ho.1]
   have d6:=Fg (a:=(e.lines[i].text.length:Int)) (b:=2000) (by omega)
   have w3:=As (n:=Dj e.frm (e.lines.take i)+e.lines[i].len) (by omega)
   generalize Dj e.frm (e.lines.take i)=a at*
   generalize e.lines[i]=x at*
   refine AU [1,2,5,6,22] ?_
   refine cT ?_;refine Dw [1,2,5,6,7] ?_
   by_cases hl:i+1=e.lines.length
   · have d7:((i:Int)==(e.lines.length:Int)-1)=true:=by simp;omega
     have d8:(x.len !=e.to-a)=false:=by simp[hla hl]
     refine nx ?_;refine rG hN hk noc [] [1,2,5,6,7,64] fun K hK=>?_;simp only[go_sem,seval,d3,d4,d5,w1,w2,d7,d8]
     try simp (disch:=omega) only[au]
     try simp only[go_sem,seval,d3,d4,d5,w1,w2,d7,d8]
     iterate 4 try(simp (disch:=omega) only[au];try simp only[go_sem,seval,d3,d4,d5,w1,w2,d7,d8])
     (first|with_reducible refine hK _ _ ?_|refine obK (hK _ _ ?_));clear hK K;refine nx ?_
     refine cF ?_;have F:=d6;refine A5 [1,2,5,6,7,69] ?_;clear F
     refine cF ?_;have F:=w3;refine A5 [1,2,5,6] ?_;clear F;refine AU [1,2,5,6] ?_
     refine eE (i+1) (C9 (And.intro hs evC.eq_1) [some 0] [])
   · have d7:((i:Int)==(e.lines.length:Int)-1)=false:=by simp;omega
     refine nx ?_;refine rG hN hk noc [] [1,2,5,6,7,64] fun K hK=>?_;simp only[go_sem,seval,d3,d4,d5,w1,w2,d7]
     try simp (disch:=omega) only[au]
     try simp only[go_sem,seval,d3,d4,d5,w1,w2,d7]
     iterate 4 try(simp (disch:=omega) only[au];try simp only[go_sem,seval,d3,d4,d5,w1,w2,d7])
     (first|with_reducible refine hK _ _ ?_|refine obK (hK _ _ ?_));clear hK K;refine nx ?_
     refine cF ?_;have F:=d6;refine A5 [1,2,5,6,7,69] ?_;clear F
     refine cF ?_;have F:=w3;refine A5 [1,2,5,6] ?_;clear F;refine AU [1,2,5,6] ?_
     refine eE (i+1) (C9 (And.intro hs evC.eq_1) [some 0] [])
 · refine AU [1,2,5,6,22] ?_
   refine cF ?_;refine Ah [4] ?_
   refine AW.ret (DX [] [])
theorem YD{α:Type}{l:List α}{i:Nat}{x:α}(h:l[i]? =some x):l.set i x=l:=by
 obtain⟨hi,rfl⟩:=List.getElem?_eq_some_iff.1 h
 exact List.set_getElem_self hi
theorem AdJ(l:List Fl)(hl:l.length≤32)(hn: ∀ f∈l,Qk f.name)(hs:l.Pairwise fun a b=>ltS a.name b.name):Af Tryz.prog 156 [.sl 2 (flE l)] [] (.tup [.osl 0 l.length 2,I 0]) [some ⟨203,2,flE l⟩]:=by
 refine acN 89 0 Tryz.func156 fun C hN hk=>?_
 have d1:=Fg (a:=(l.length:Int)) (b:=32) (by omega)
 refine Ah [0] ?_
 have F:=d1;refine A5 [0,10] ?_;clear F
 refine cF ?_;refine Ah [0,4] ?_
 refine lpF hk 0 (fun i:Nat=>⟨[(0,.sl 2 (flE l)),(4,I i)],[]⟩) (fun i=>i≤l.length) (fun i=>l.length-i) 0 (Eb [] []) ?_
 · intro i hi0
   by_cases hi:i<l.length
   · have hx:=List.getElem?_eq_getElem hi
     have q:=SY l[i].name (hn _ (List.getElem_mem hi))
     generalize l[i]=x at*
     refine AU [0,4,14] ?_
     refine cT ?_;refine Dw [0,4,23] ?_ (onc 5 (pcq q) noc)
     refine cF ?_;refine AU [0,4] ?_
     refine eE (i+1) (Eb [] [])
   · refine AU [0,4,14] ?_
     refine cF ?_;refine Ah [0,5] ?_
     refine Ah [0,5,6] ?_
     refine lpF hk 1 (fun i:Nat=>⟨[(0,.sl 2 (flE l)),(5,.osl 0 (l.take i).length 2),(6,I i)],[(0,some ⟨203,2,flE (l.take i)⟩)]⟩) (fun i=>i≤l.length) (fun i=>l.length-i) 0 (Eb [none] []) ?_
     intro i hi0
     by_cases hi:i<l.length
     · have hx:=List.getElem?_eq_getElem hi
       have hsn:l.take (i+1)=l.take i++[l[i]]:=by simp[List.take_append_getElem]
       have hli:(l.take i).length=i:=by simp;omega
       have hlst: ∀ j,j+1=i→ ∃ y,(l.take i++[l[i]])[j]? =some y∧ltS y.name l[i].name:=by
         intro j hj
         have hj2:j<l.length:=by omega
         refine⟨l[j],?_,List.pairwise_iff_getElem.1 hs j i hj2 hi (by omega)⟩
         rw[← hsn,List.getElem?_take,if_pos (by omega),List.getElem?_eq_getElem hj2]
       have hl2:(l.take i++[l[i]])[i]? =some l[i]:=by rw[← hsn,List.getElem?_take,if_pos (by omega),hx]
       have hset:(l.take i++[l[i]]).set i l[i]=l.take i++[l[i]]:=by
         exact YD hl2
       generalize l[i]=x at*
       generalize l.take i=o at*
       have wk:=As (n:=(i:Int)-1) (by omega)
       have heq: ∀ j,j+1=i→ ∃ y,(o++[x])[j]? =some y∧Op.bytesLess y.name x.name=true∧(y.name==x.name)=false:=by
         intro j hj
         obtain⟨y,hy,hlt⟩:=hlst j hj
         refine⟨y,hy,hlt,?_⟩
         simp only[beq_eq_false_iff_ne]
         intro e
         rw[e]at hlt
         exact De _ hlt
       refine AU [0,5,6,27] ?_
       refine cT ?_;refine Ah [0,5,6,7] ?_
       refine Dw [0,5,6,7] ?_
       refine lpF hk 1 (fun z:Nat=>⟨[(0,.sl 2 (flE l)),(5,.osl 0 (o.length+1) 2),(6,I i),(7,I i)],[(0,some ⟨203,2,flE (o++[x])⟩)]⟩) (fun z=>True) (fun z=>0) 0 (C9 hli [some 0] []) ?_
       intro z _
       have hol:i<o.length+1:=by omega
       cases i with
       |zero=>
         have d0:decide (((0:Nat):Int)>0)=false:=by simp
         refine nx ?_
         refine rD hN hk noc [] [0,5,6,7,54] fun K tok htok hK=>?_
         simp only[go_sem,seval,d0]
         try simp (disch:=omega) only[au]
         try simp only[go_sem,seval,d0]
         refine⟨htok _ (by decide+kernel),?_⟩
         (first|with_reducible refine hK _ _ ?_|refine obK (hK _ _ ?_));clear hK K htok tok
         refine nx ?_;refine cF ?_;have F:=And.intro hx (And.intro hl2 (And.intro hset hol));refine AB [0,5,6,7] ?_;clear F
         refine rD hN hk noc [] [0,5,6,87] fun K tok htok hK=>?_
         simp only[go_sem,seval,d0]
         try simp (disch:=omega) only[au]
         try simp only[go_sem,seval,d0]
         refine⟨htok _ (by decide+kernel),?_⟩
         (first|with_reducible refine hK _ _ ?_|refine obK (hK _ _ ?_));clear hK K htok tok
         refine nx ?_;refine cF ?_;refine AU [0,5,6] ?_
         refine eE (1) (C9 hsn [some 0] [])
       |succ j=>
         obtain⟨y,hy,g1,g2⟩:=heq j rfl
         have d0:decide (((j+1:Nat):Int)>0)=true:=by simp
         have e1:(((j+1:Nat):Int)-1)=(j:Int):=by omega
         have w1:=As (n:=(j:Int)) (by omega)
         refine nx ?_
         refine rD hN hk noc [] [0,5,6,7,54] fun K tok htok hK=>?_
         simp only[go_sem,seval,d0,e1,w1,hy,g1,hx]
         try simp (disch:=omega) only[au]
         try simp only[go_sem,seval,d0,e1,w1,hy,g1,hx]
         refine⟨htok _ (by decide+kernel),?_⟩
         (first|with_reducible refine hK _ _ ?_|refine obK (hK _ _ ?_));clear hK K htok tok
         refine nx ?_;refine cF ?_;have F:=And.intro hx (And.intro hl2 (And.intro hset hol));refine AB [0,5,6,7] ?_;clear F
         refine rD hN hk noc [] [0,5,6,87] fun K tok htok hK=>?_
         simp only[go_sem,seval,d0,e1,w1,hy,g2,hx]
         try simp (disch:=omega) only[au]
         try simp only[go_sem,seval,d0,e1,w1,hy,g2,hx]
         refine⟨htok _ (by decide+kernel),?_⟩
         (first|with_reducible refine hK _ _ ?_|refine obK (hK _ _ ?_));clear hK K htok tok
         refine nx ?_;refine cF ?_;refine AU [0,5,6] ?_
         refine eE (j+1+1) (C9 hsn [some 0] [])
     · have:i=l.length:=by omega
       subst this
       rw[List.take_length]
       refine AU [0,5,6,27] ?_
       refine cF ?_;refine Ah [2,3] ?_
       refine AW.ret (DX [some 0] [])
theorem Acp(e:Ev)(h:EvG e):Af Tryz.prog 101 [.agg (evC e)] [] (I 0) []:=by
 have q1:=Acd e h
 have q2:=Aca e.weight
 rw[h.weight]at q2
 have q3:=AbU e h
 have q4:=AdJ e.fields h.nf (fun f hf=>(h.fn f hf).1) h.fs
 have hnf:=h.nf
 have q5:=Vy e.fields (by omega)
 have d1:=HB (a:=e.time) (b:=0) h.time.1
 have d2:=Fg (a:=e.time) (b:=253402300799999) h.time.2
 have htr:=h.tr
 have d3:=Fg (a:=(e.trace.length:Int)) (b:=32) (by omega)
 have d4:=Fg (a:=(e.stream.length:Int)) (b:=32) (by omega)
 have hfn:=h.fn
 refine acN 68 0 Tryz.func101 fun C hN hk=>?_
 refine Ah [1] ?_
 refine Ah [1,3] ?_ (onc 1 (pcq q1) noc)
 refine rG hN hk noc [] [1,21] fun K hK=>?_;simp only[go_sem,seval,d1,d2,bne_self_eq_false]
 try simp (disch:=omega) only[au]
 try simp only[go_sem,seval,d1,d2,bne_self_eq_false]
 iterate 2 try(simp (disch:=omega) only[au];try simp only[go_sem,seval,d1,d2,bne_self_eq_false])
 refine hK _ _ ?_;clear hK K;refine nx ?_;refine cF ?_;refine Ah [1,25] ?_ (onc 2 (pcq q2) noc)
 refine cF ?_;refine Ah [1,4] ?_ (onc 1 (pcq q3) noc)
 refine rG hN hk noc [] [1,4,29] fun K hK=>?_;simp only[go_sem,seval,bne_self_eq_false]
 try simp (disch:=omega) only[au]
 refine hK _ _ ?_;clear hK K;refine nx ?_;refine cF ?_;refine nx ?_;refine rG hN hk noc [] [1,40] fun K hK=>?_;simp only[go_sem,seval,d3,d4]
 try simp (disch:=omega) only[au]
 try simp only[go_sem,seval,d3,d4]
 (first|with_reducible refine hK _ _ ?_|refine obK (hK _ _ ?_));clear hK K;refine nx ?_
 refine cF ?_;refine Ah [1,5,6] ?_ (onc 2 (pcq q4) noc)
 refine rG hN hk noc [] [1,5,6,48] fun K hK=>?_;simp only[go_sem,seval,bne_self_eq_false]
 try simp (disch:=omega) only[au]
 refine hK _ _ ?_;clear hK K;refine nx ?_;refine cF ?_;refine Ah [5,54] ?_ (onc 3 (bcq [1] q5) noc)
 refine cF ?_;refine Ah [5,7] ?_
 clear q1 q2 q3 q4 q5 d1 d2 d3 d4
 refine nx ?_
 refine lpF hk 1 (fun i:Nat=>⟨[(5,.osl 0 e.fields.length 2),(7,I i)],[(0,some ⟨203,2,flE e.fields⟩)]⟩) (fun i=>i≤e.fields.length) (fun i=>e.fields.length-i) 0 (Eb [some 0] []) ?_
 intro i hi0
 generalize e.fields=l at*
 by_cases hi:i<l.length
 · have hx:=List.getElem?_eq_getElem hi
   have ht:=(hfn _ (List.getElem_mem hi)).2
   have d6:=Fg (a:=(l[i].val.length:Int)) (b:=2000) (by omega)
   generalize l[i]=x at*
   refine AU [5,7,58] ?_
   refine cT ?_;have F:=And.intro d6 hx;refine A5 [5,7,67] ?_;clear F
   refine cF ?_;refine AU [5,7] ?_
   refine eE (i+1) (Eb [some 0] [])
 · refine AU [5,7,58] ?_
   refine cF ?_;refine Ah [2] ?_
   refine AW.ret (DX [] [])
structure SegG(l:List Ev):Prop where
 len:l.length≤256
 ev: ∀ e∈l,EvG e
 asc:Asc l
 names:(A9 l).length≤100
 words:(AQ l).length≤32768
theorem Ab0(l:List Ev)(h:SegG l):Af Tryz.prog 56 [.sl 10 (evE l)] [] (I 0) []:=by
 have hl:=h.len
 have hev:=h.ev
 have q1:=Rb l (by omega) (fun e he=>(hev e he).evT)
 have q2:=Ui l (by omega) (fun e he=>(hev e he).evT)
 have d1:=Fg (a:=(l.length:Int)) (b:=256) (by omega)
 have hn:=h.names
 have hw:=h.words
 have d2:=Fg (a:=((AQ l).length:Int)) (b:=32768) (by omega)
 have d3:=Fg (a:=((A9 l).length:Int)) (b:=32768) (by omega)
 have hasc:=h.asc
 refine acN 50 0 Tryz.func56 fun C hN hk=>?_
 refine Ah [0] ?_
 have F:=d1;refine A5 [0,8] ?_;clear F
 refine cF ?_;refine Ah [0,3] ?_
 refine lpF hk 0 (fun i:Nat=>⟨[(0,.sl 10 (evE l)),(3,I i)],[]⟩) (fun i=>i≤l.length) (fun i=>l.length-i) 0 (Eb [] []) ?_
 intro i hi0
 by_cases hi:i<l.length
 · have hx:=List.getElem?_eq_getElem hi
   have q:=Acp l[i] (hev _ (List.getElem_mem hi))
   generalize l[i]=x at*
   refine AU [0,3,12] ?_
   refine cT ?_;refine Dw [0,3,4] ?_ (onc 4 (pcq q) noc)
   refine rG hN hk noc [] [0,3,4,21] fun K hK=>?_;simp only[go_sem,seval,bne_self_eq_false]
   try simp (disch:=omega) only[au]
   refine hK _ _ ?_;clear hK K;refine nx ?_;refine cF ?_;refine AU [0,3] ?_
   refine eE (i+1) (Eb [] [])
 · refine AU [0,3,12] ?_
   refine cF ?_;refine Ah [0,5] ?_
   refine lpF hk 0 (fun i:Nat=>⟨[(0,.sl 10 (evE l)),(5,I i)],[]⟩) (fun i=>1≤i) (fun i=>l.length-i) 1 (Eb [] []) ?_
   intro i hi0
   by_cases hi:i<l.length
   · have hx:=List.getElem?_eq_getElem hi
     have hj:i-1<l.length:=by omega
     have hy:=List.getElem?_eq_getElem hj
     have hls:=List.pairwise_iff_getElem.1 hasc (i-1) i hj hi (by omega)
     have q:=VY l[i-1] l[i]
     rw[hls]at q
     have w1:=As (n:=(i:Int)-1) (by omega)
     have e1:((i:Int)-1).toNat=i-1:=by omega
     generalize l[i]=x at*
     generalize l[i-1]=y at*
     refine AU [0,5,26] ?_
     refine cT ?_;have F:=And.intro hx (And.intro w1 (And.intro e1 hy));refine DV [0,5,39] ?_ (onc 9 (pcq q) noc);clear F
     refine nx ?_;refine cF ?_;refine AU [0,5] ?_
     refine eE (i+1) (Eb [] [])
   · generalize AQ l=aw at*
     generalize A9 l=an at*
     refine AU [0,5,26] ?_
     refine cF ?_;refine nx ?_;refine rG hN hk (onc 1 (pcq q1) (onc 6 (pcq q2) noc)) [] [49] fun K hK=>?_;simp only[go_sem,seval,d2,d3]
     try simp (disch:=omega) only[au]
     try simp only[go_sem,seval,d2,d3]
     refine obK (hK _ _ ?_);clear hK K;refine nx ?_;refine cF ?_;refine Ah [2] ?_
     refine AW.ret (DX [] [])
theorem Ab2{l:List Ev}(m:Nat)(h: ∀ e∈l,e.lines.length≤m):(l.flatMap Ev.lines).length≤l.length*m:=by
 induction l with
 |nil=>simp
 |cons a l ih=>
   have h1:=ih (fun e he=>h e (by simp[he]))
   have h2:=h a (by simp)
   simp only[List.flatMap_cons,List.length_append,List.length_cons]
   rw[Nat.succ_mul];omega
theorem SegG.ok{l:List Ev}(h:SegG l):SegOk l:=by
 have hl:=h.len
 have h1:=Ab2 40 (l:=l) (fun e he=>(h.ev e he).nl.2)
 have hn:=h.names
 exact⟨by omega,fun e he=>(h.ev e he).evT,fun e he=>⟨by have:=(h.ev e he).tr;omega,by have:=(h.ev e he).tr;omega⟩,by omega,by omega,h.words⟩
theorem Nm{l:List Ev}(h:SegG l)(k:Nat):(DY l k).length<2^32:=by
 have H:=h.ok
 have hl:=h.len
 have h7:(ixF (l.map Ev.trace)).length≤2^24:=Ml _ (by simp;omega) (by
   intro s hs;obtain⟨e,he,rfl⟩:=List.mem_map.1 hs;exact(H.tr e he).1)
 have h8:(ixF (l.map Ev.stream)).length≤2^24:=Ml _ (by simp;omega) (by
   intro s hs;obtain⟨e,he,rfl⟩:=List.mem_map.1 hs;exact(H.tr e he).2)
 have h9:(Io l).length≤2^27:=by
   have hL:(Du l l.length).length≤16384:=by rw[R8];exact H.lines
   have htx: ∀ x∈Du l l.length,x.text.length≤2000:=by
     intro x hx
     rw[R8]at hx
     obtain⟨e,he,hx⟩:=List.mem_flatMap.1 hx
     exact(H.ev e he).tx x hx
   have b0:=(LO (GB l l.length) (by simp[GB];omega)).2
   have b1:=(LO (lo (Du l l.length)) (by simp[lo];exact hL)).2
   have b2:=(LO (le (Du l l.length)) (by simp[le];exact hL)).2
   have b3:=(LO (lz (Du l l.length)) (by simp[lz];exact hL)).2
   have b4:=NL _ htx
   unfold Io
   simp only[List.length_append];omega
 have h10:(FU l).length≤2^31:=by
   have hn:=h.names
   have hc:A6 (A9 l)=0:=DP _ (by have:=h.names;unfold A9 at this;omega) (IP l H.ev _)
   have:=Nr l (A9 l) H.len H.ev hc (A9 l).length (Nat.le_refl _)
   have h100:(A9 l).length*(2^24+100011)≤100*(2^24+100011):=Nat.mul_le_mul_right _ hn
   unfold FU;omega
 have h11:(GH l).length<2^32:=by
   have hw:=h.words
   have hc:A6 (AQ l)=0:=DP _ (by have:=h.words;unfold AQ at this;omega) (IM l)
   have hxL:=G2 (AQ l) l l.length
   have hpost:=JA (AQ l) l H.len (B2 _) (PI l)
   have:=Nt (AQ l) (CM (AQ l) l l.length) hc hpost (CM (AQ l) l l.length).length (Nat.le_refl _)
   have h100:(AQ l).length*100011≤32768*100011:=Nat.mul_le_mul_right _ hw
   unfold GH;rw[hxL]at this ⊢;omega
 have h12:=Wn l
 have h1:(BF (l.map fun e=>CY e k)).length≤24+256*22:=by
   have:=Hf (l.map fun e=>CY e k) (by simp;omega)
   simp at this;omega
 unfold DY
 repeat' split
 all_goals omega
noncomputable def CN(l:List Ev):List (List UInt8):=(List.range 12).map fun k=>DY l (k+1)
theorem Lv(l:List Ev):(CN l).length=12:=by simp[CN]
theorem Pw(l:List Ev)(k:Nat)(h:k<(CN l).length):(CN l)[k]=DY l (k+1):=by simp[CN]
def DL(l:List Ev)(i:Nat):Nat:=match l[i]? with
 |some e=>e.time.toNat
 |none=>0
noncomputable def G1(l:List Ev):List UInt8:=EO l.length (DL l 0) (DL l (l.length-1)) (CN l)
theorem IX{l:List Ev}(h:SegG l)(i:Nat):DL l i≤253402300799999:=by
 unfold DL
 split
 · next e he=>have:=(h.ev e (List.mem_of_getElem? he)).time;omega
 · omega
theorem Vq(ss:List (List UInt8))(m:Nat)(h: ∀ s∈ss,s.length≤m):ss.flatten.length≤ss.length*m:=by
 induction ss with
 |nil=>simp
 |cons a l ih=>
   have h1:=ih (fun e he=>h e (by simp[he]))
   have h2:=h a (by simp)
   simp only[List.flatten_cons,List.length_append,List.length_cons]
   rw[Nat.succ_mul];omega
theorem Ry{l:List Ev}(h:SegG l):SegB l.length (DL l 0) (DL l (l.length-1)) (CN l):=by
 have hl:=h.len
 have h1:=IX h 0
 have h2:=IX h (l.length-1)
 have he: ∀ s∈CN l,s.length<2^32:=by
   intro s hs
   unfold CN at hs
   obtain⟨k,_,rfl⟩:=List.mem_map.1 hs
   exact Nm h _
 have hf:=Vq (CN l) (2^32) (fun s hs=>Nat.le_of_lt (he s hs))
 rw[Lv]at hf
 exact⟨Lv l,he,by omega,by omega,by omega,by omega⟩
theorem Wg{l:List Ev}(h:SegG l):SegV (G1 l) l.length (DL l 0) (DL l (l.length-1)) (CN l):=segV (Ry h)
theorem Q4{l:List Ev}(h:SegG l){i:Nat}{e:Ev}(hx:l[i]? =some e):(DL l i:Int)=e.time:=by
 unfold DL
 rw[hx]
 have:=(h.ev e (List.mem_of_getElem? hx)).time
 simp only;omega
theorem YS(l:List Ev)(h:SegG l):Af Tryz.prog 21 [.sl 10 (evE l)] [] (.tup [.osl 0 (G1 l).length 1,I 0]) [some ⟨5,1,Ab (G1 l)⟩]:=by
 have q0:=Ab0 l h
 have ha:=IX h 0
 have hz:=IX h (l.length-1)
 have hga:=fun e=>Q4 h (i:=0) (e:=e)
 have hgz:=fun e=>Q4 h (i:=l.length-1) (e:=e)
 have hl:=h.len
 have H:=h.ok
 have hn:=Lv l
 have hB:=(Ry h).each
 have hT:=(Ry h).total
 have hat:=Pw l
 have hq:=fun k h1 h2=>W5 l H k h1 h2
 have hdl:=Hc l.length (DL l 0) (DL l (l.length-1))
 have p1:=Mt [76,84,83,49] l.length 4 (by simp) (by omega)
 have p2:=Mt ([76,84,83,49]++Br l.length 4) (DL l 0) 8 (by simp[Cc]) (by omega)
 have p3:=Mt ([76,84,83,49]++Br l.length 4++Br (DL l 0) 8) (DL l (l.length-1)) 8 (by simp[Cc]) (by omega)
 have hl0:l=[]→DL l 0=0∧DL l (l.length-1)=0:=by intro h;subst h;simp[DL]
 obtain⟨sg,hsg⟩: ∃ sg,G1 l=sg:=⟨_,rfl⟩
 rw[hsg]
 unfold G1 EO hdF at hsg
 have e24:GO l.length (DL l 0) (DL l (l.length-1))=[76,84,83,49]++Br l.length 4++Br (DL l 0) 8++Br (DL l (l.length-1)) 8:=rfl
 rw[e24]at hsg
 clear e24
 generalize DL l 0=a at*
 generalize DL l (l.length-1)=z at*
 have hx1:=Cc l.length 4
 generalize Br l.length 4=x1 at*
 refine acN 68 0 Tryz.func21 fun C hN hk=>?_
 refine Ah [0] ?_
 refine Ah [0,4] ?_ (onc 1 (pcq q0) noc)
 refine rG hN hk noc [] [0,4,14] fun K hK=>?_;simp only[go_sem,seval,bne_self_eq_false]
 try simp (disch:=omega) only[au]
 refine hK _ _ ?_;clear hK K;refine nx ?_;refine cF ?_;refine Ah [0,5,6] ?_
 refine AU [0,5,6,18] ?_
 refine AW.join hk 0 ⟨[(0,.sl 10 (evE l)),(5,I a),(6,I z)],[]⟩ ?_ ?_
 · refine C8 rfl (fun h=>?_) (fun h=>?_)
   · simp only[gt_iff_lt,decide_eq_true_eq]at h
     have hl0:0<l.length:=by omega
     have hx0:=List.getElem?_eq_getElem hl0
     have hx1:=List.getElem?_eq_getElem (show l.length-1<l.length by omega)
     have g0:=hga _ hx0
     have g1:=hgz _ hx1
     have w1:=As (n:=(l.length:Int)-1) (by omega)
     have e1:((l.length:Int)-1).toNat=l.length-1:=by omega
     generalize l[0]=ea at*
     generalize l[l.length-1]=ez at*
     have F:=And.intro hx0 (And.intro w1 (And.intro e1 hx1));refine DV [0,5,6] ?_;clear F
     exact C9 (And.intro g0 g1) [] []
   · simp only[gt_iff_lt,decide_eq_false_iff_not]at h
     have hl1:l=[]:=by cases l with
       |nil=>rfl
       |cons a l=>simp at h
     have:=hl0 hl1
     obtain⟨rfl,rfl⟩:=this
     refine nx ?_
     exact Eb [] []
 clear hga hgz hl0 q0
 have w1:=Fe (n:=(l.length:Int)) (by omega)
 have w2:=Fe (n:=(a:Int)) (by omega)
 have w3:=Fe (n:=(z:Int)) (by omega)
 have F:=And.intro w1 (And.intro w2 w3);refine A5 [0,7] ?_ (onc 5 (ocq 0 p1) (onc 8 (ocq 40 p2) (onc 11 (ocq 64 p3) noc)));clear F
 clear p1 p2 p3 w1 w2 w3
 refine Ah [0,7,8] ?_
 refine Ah [0,7,8,9] ?_
 have hhl:([76,84,83,49]++x1++Br a 8++Br z 8).length=24:=by simp only[List.length_append,Cc,hx1];rfl
 obtain⟨hd,hdE⟩: ∃ hd,[76,84,83,49]++x1++Br a 8++Br z 8=hd:=⟨_,rfl⟩
 rw[hdE]at hhl hsg
 simp only[List.cons_append,List.nil_append]at hdE
 have hdE2:76::84::83::49::(x1++Br a 8++Br z 8)=hd:=hdE
 have hdE3:(x1++Br a 8++Br z 8).length+1+1+1+1=hd.length:=by rw[← hdE2];simp only[List.length_cons]
 rw[hdE2,hdE3]
 clear hdE hdE2 hdE3
 have hT': ∀ i,((CN l).take i).flatten.length≤2^36:=fun i=>Nat.le_trans (G4 (CN l) i) hT
 have hdL: ∀ i,i≤12→(hd++Ee ((CN l).take i)).length=24+8*i:=by
   intro i hi
   rw[List.length_append,G3,List.length_take,hn,hhl];omega
 have h0:Ee []=[]:=rfl
 refine nx ?_
 refine lpF hk 2 (fun i:Nat=>⟨[(0,.sl 10 (evE l)),(7,.osl 0 (hd++Ee ((CN l).take i)).length 1),(8,.osl 1 ((CN l).take i).flatten.length 1),(9,I (i+1:Nat))],[(0,some ⟨5,1,Ab (hd++Ee ((CN l).take i))⟩),(1,some ⟨5,1,Ab ((CN l).take i).flatten⟩)]⟩) (fun i=>i≤12) (fun i=>12-i) 0 (C9 h0 [some 0,none] []) ?_
 intro i hi0
 have hLi:=hdL i hi0
 have hTi:=hT' i
 by_cases hi:i<12
 · have hil:i<(CN l).length:=by omega
   have hs1:(CN l).take (i+1)=(CN l).take i++[DY l (i+1)]:=by rw[← hat i hil];simp[List.take_append_getElem]
   have hs2:hd++Ee ((CN l).take (i+1))=hd++Ee ((CN l).take i)++Br (DY l (i+1)).length 4++Br (Dm (DY l (i+1))) 4:=by
     rw[hs1];simp[Ee,KW]
   have hs3:((CN l).take (i+1)).flatten=((CN l).take i).flatten++DY l (i+1):=by rw[hs1];simp
   have q:=hq (i+1) (by omega) (by omega)
   have hsl:(DY l (i+1)).length<2^32:=hB _ (by rw[← hat i hil];exact List.getElem_mem hil)
   generalize hd++Ee ((CN l).take i)=X at*
   generalize ((CN l).take i).flatten=Y at*
   generalize DY l (i+1)=s at*
   have p1:=Mt X s.length 4 (by omega) (by omega)
   have p2:=Qz s (by omega)
   have hcr:=HQ s
   have p3:=Mt (X++Br s.length 4) (Dm s) 4 (by rw[List.length_append,Cc];omega) (by omega)
   have w1:=Fe (n:=(s.length:Int)) (by omega)
   have w2:=Fe (n:=(Dm s:Int)) (by omega)
   generalize Dm s=cr at*
   refine AU [0,7,8,9,43] ?_;refine cT ?_;refine Ah [0,7,8,9,10] ?_ (onc 2 (pcq q) noc)
   have F:=And.intro w1 w2;refine A5 [0,7,8,9,10] ?_ (onc 4 (ocq 0 p1) (onc 6 (bcq [2] p2) (onc 8 (ocq 35 p3) noc)));clear F;refine Ah [0,7,8,9] ?_
   refine AU [0,7,8,9] ?_
   refine eE (i+1) (C9 (And.intro hs2 hs3) [some 0,some 1] [])
 · have:i=12:=by omega
   subst this
   rw[show(CN l).take 12=CN l by rw[← hn,List.take_length]]at*
   generalize hd++Ee (CN l)=X at*
   generalize (CN l).flatten=Y at*
   have p2:=Qz X (by omega)
   have hcr:=HQ X
   have p3:=Mt X (Dm X) 4 (by omega) (by omega)
   have w2:=Fe (n:=(Dm X:Int)) (by omega)
   generalize Dm X=cr at*
   have hx4:(X++Br cr 4).length=128-4:=by rw[List.length_append,Cc];omega
   refine AU [0,7,8,9,43] ?_;refine cF ?_;have F:=w2;refine A5 [2,3] ?_ (onc 2 (bcq [0] p2) (onc 4 (ocq 0 p3) noc));clear F
   subst hsg
   refine AW.ret (DX [some 0] [])
end Go.Proofs.YtpkhodjlnodagaaGreatDoor
