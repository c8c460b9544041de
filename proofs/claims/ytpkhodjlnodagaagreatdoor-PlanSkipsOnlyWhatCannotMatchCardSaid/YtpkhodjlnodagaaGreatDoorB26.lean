/- Part 26 of the proof of PlanSkipsOnlyWhatCannotMatch. -/
import Derived.Test.YtpkhodjlnodagaaGreatDoorB05
import Derived.Test.YtpkhodjlnodagaaGreatDoorB25
set_option linter.unusedSimpArgs false
set_option linter.unusedVariables false
set_option linter.unusedSectionVars false
namespace Go.Proofs.YtpkhodjlnodagaaGreatDoor
open Go.Av
set_option maxHeartbeats 4000000
attribute [local irreducible] Ad
attribute [simp] EL CB FI TN TR TX TM Ux Ut Uh NF
@[simp] theorem wkE_ll{hp:Hp}{ids:List (Option Nat)}{D:List Nat}(l:List (List Ln))(x:List Ln)(c:List AV):wkE hp ids D (llE l++[c]) (llE (l++[x]))↔wkL hp ids D c [.sl 3 (lnE x)]:=by
 rw[← Sm];exact Gr (YH 0 l)
@[go_sem] theorem E201n:Av.elemOf (Ao Tryz.prog) 201=none:=by kernel_rfl
def AA:AV:= .val (.slice none 0 0)
attribute [go_sem] AA
def Cx(v:Nat→List Int)(k j:Nat):AV:=if j<k then .sl 1 (An (v j))else AA
theorem Td(l:List Ev)(s:List UInt8)(hs:s=Fk l)(hl:l.length≤4096)(h: ∀ e∈l,EvT e)(hL:(l.flatMap Ev.lines).length≤16384)(hI: ∀ x∈l.flatMap Ev.lines,BE x.off∧BE x.len):
   Ad Tryz.prog 90 [.sl 1 (Ab s),I l.length] [] (.tup [.osl 0 l.length 1,B true]) [some ⟨53,1,llE (l.map Ev.lines)⟩]:=by
 obtain⟨v,hv0,hv1,hv2,hv3⟩: ∃ v:Nat→List Int,v 0=EU l l.length∧v 1=lo (l.flatMap Ev.lines)∧v 2=le (l.flatMap Ev.lines)∧v 3=lz (l.flatMap Ev.lines):=
   ⟨fun k=>if k=0 then EU l l.length else if k=1 then lo (l.flatMap Ev.lines)else if k=2 then le (l.flatMap Ev.lines)else lz (l.flatMap Ev.lines),sP,sP,sP,sP⟩
 obtain⟨o,ho0,ho⟩: ∃ o:Nat→Nat,o 0=0∧ ∀ k,o (k+1)=o k+(AE (AZ (v k))).length:=
   ⟨fun k=>((List.range k).map fun j=>(AE (AZ (v j))).length).sum,sP,by intro k;simp[List.range_succ]⟩
 have hvl: ∀ k,k<4→(v k).length≤16384:=by
   intro k hk
   obtain rfl|rfl|rfl|rfl:k=0∨k=1∨k=2∨k=3:=by omega
   · rw[hv0];simp[EU];omega
   · rw[hv1];simpa [lo] using hL
   · rw[hv2];simpa [le] using hL
   · rw[hv3];simpa [lz] using hL
 have hvi: ∀ k,k<4→ ∀ x∈v k,BE x:=by
   intro k hk x hx
   obtain rfl|rfl|rfl|rfl:k=0∨k=1∨k=2∨k=3:=by omega
   · rw[hv0]at hx
     simp only[EU,List.take_length,List.mem_map]at hx
     obtain⟨e,he,rfl⟩:=hx
     have:=(h e he).nl
     unfold BE;omega
   · rw[hv1]at hx;simp only[lo,List.mem_map]at hx;obtain⟨y,hy,rfl⟩:=hx;exact(hI y hy).1
   · rw[hv2]at hx;simp only[le,List.mem_map]at hx;obtain⟨y,hy,rfl⟩:=hx;exact(hI y hy).2
   · rw[hv3]at hx
     simp only[lz,List.mem_map]at hx
     obtain⟨y,hy,rfl⟩:=hx
     obtain⟨e,he,hy⟩:=List.mem_flatMap.1 hy
     have:=(h e he).tx y hy
     unfold BE;omega
 have hse:s=AE (AZ (v 0))++AE (AZ (v 1))++AE (AZ (v 2))++AE (AZ (v 3))++lt (l.flatMap Ev.lines):=by
   rw[hs,hv0,hv1,hv2,hv3];unfold Fk;rw[Nz]
 have htl:=Jp (l.flatMap Ev.lines) (by
   intro x hx
   obtain⟨e,he,hx⟩:=List.mem_flatMap.1 hx
   exact(h e he).tx x hx)
 have hb: ∀ k,k<4→(AE (AZ (v k))).length≤2^20:=fun k hk=>(KI (v k) (hvl k hk)).2
 have b0:=hb 0 oM
 have b1:=hb 1 oM
 have b2:=hb 2 oM
 have b3:=hb 3 oM
 have ho1:=ho 0
 have ho2:=ho 1
 have ho3:=ho 2
 have ho4:=ho 3
 simp only[Nat.zero_add,Nat.reduceAdd]at ho1 ho2 ho3 ho4
 have hsl:s.length=o 4+(lt (l.flatMap Ev.lines)).length:=by
   rw[hse];simp only[List.length_append];omega
 have hsl2:s.length≤2^36:=by omega
 have qb: ∀ k,k<4→Ad Tryz.prog 71 [.sl 1 (Ab s),I (o k)] [] (.tup [.sl 1 (Ab (AZ (v k))),I (o (k+1)),B true]) []:=by
   intro k hk
   rw[ho k]
   refine Jb s (o k) (AZ (v k)) ?_ oM
   obtain rfl|rfl|rfl|rfl:k=0∨k=1∨k=2∨k=3:=by omega
   · exact⟨[],AE (AZ (v 1))++AE (AZ (v 2))++AE (AZ (v 3))++lt (l.flatMap Ev.lines),by rw[hse];try simp,by simp only[List.length_nil];omega⟩
   · exact⟨AE (AZ (v 0)),AE (AZ (v 2))++AE (AZ (v 3))++lt (l.flatMap Ev.lines),by rw[hse];try simp,oM⟩
   · exact⟨AE (AZ (v 0))++AE (AZ (v 1)),AE (AZ (v 3))++lt (l.flatMap Ev.lines),by rw[hse];try simp,by simp only[List.length_append];omega⟩
   · exact⟨AE (AZ (v 0))++AE (AZ (v 1))++AE (AZ (v 2)),lt (l.flatMap Ev.lines),by rw[hse];try simp,by simp only[List.length_append];omega⟩
 have qd: ∀ k,k<4→Ad Tryz.prog 74 [.sl 1 (Ab (AZ (v k)))] [] (.tup [.osl 0 (v k).length 1,I 0]) [some ⟨3,1,An (v k)⟩]:=
   fun k hk=>Nq (v k) (DO (v k) 3) (Hu _ 3) (hvl k hk) (hvi k hk)
 have f0: ∀ i (hi:i<l.length),(v 0)[i]? =some (l[i].lines.length:Int):=by
   intro i hi;rw[hv0];simp[EU,hi]
 have hsplit: ∀ i (hi:i<l.length) j (hj:j<l[i].lines.length),l.flatMap Ev.lines=(Cj l i++l[i].lines.take j)++l[i].lines[j]::(l[i].lines.drop (j+1)++(l.drop (i+1)).flatMap Ev.lines):=by
   intro i hi j hj
   have e1:l=l.take i++l[i]::l.drop (i+1):=by simp
   have e2:l[i].lines=l[i].lines.take j++l[i].lines[j]::l[i].lines.drop (j+1):=by simp
   conv=>lhs;rw[e1]
   rw[List.flatMap_append,List.flatMap_cons]
   conv=>lhs;rw[e2]
   simp only[Cj,List.append_assoc,List.cons_append]
 have hget: ∀ i (hi:i<l.length) j (hj:j<l[i].lines.length),(l.flatMap Ev.lines)[(Cj l i++l[i].lines.take j).length]? =some l[i].lines[j]:=by
   intro i hi j hj
   conv=>lhs;rw[hsplit i hi j hj]
   rw[List.getElem?_append_right (Nat.le_refl _)]
   simp
 have f1: ∀ i (hi:i<l.length) j (hj:j<l[i].lines.length),(v 1)[(Cj l i++l[i].lines.take j).length]? =some l[i].lines[j].off:=by
   intro i hi j hj;rw[hv1,lo,List.getElem?_map,hget i hi j hj];rfl
 have f2: ∀ i (hi:i<l.length) j (hj:j<l[i].lines.length),(v 2)[(Cj l i++l[i].lines.take j).length]? =some l[i].lines[j].len:=by
   intro i hi j hj;rw[hv2,le,List.getElem?_map,hget i hi j hj];rfl
 have f3: ∀ i (hi:i<l.length) j (hj:j<l[i].lines.length),(v 3)[(Cj l i++l[i].lines.take j).length]? =some (l[i].lines[j].text.length:Int):=by
   intro i hi j hj;rw[hv3,lz,List.getElem?_map,hget i hi j hj];rfl
 have f4: ∀ i (hi:i<l.length) j (hj:j<l[i].lines.length),(s.take (o 4+(lt (Cj l i++l[i].lines.take j)).length+l[i].lines[j].text.length)).drop (o 4+(lt (Cj l i++l[i].lines.take j)).length)=l[i].lines[j].text∧o 4+(lt (Cj l i++l[i].lines.take j)).length+l[i].lines[j].text.length≤s.length:=by
   intro i hi j hj
   have e:lt (l.flatMap Ev.lines)=lt (Cj l i++l[i].lines.take j)++l[i].lines[j].text++lt (l[i].lines.drop (j+1)++(l.drop (i+1)).flatMap Ev.lines):=by
     conv=>lhs;rw[hsplit i hi j hj]
     simp only[lt,List.flatMap_append,List.flatMap_cons,List.append_assoc]
   have e4:o 4=(AE (AZ (v 0))++AE (AZ (v 1))++AE (AZ (v 2))++AE (AZ (v 3))).length:=by
     simp only[List.length_append];omega
   refine⟨HN (A:=AE (AZ (v 0))++AE (AZ (v 1))++AE (AZ (v 2))++AE (AZ (v 3))++lt (Cj l i++l[i].lines.take j)) (R:=lt (l[i].lines.drop (j+1)++(l.drop (i+1)).flatMap Ev.lines)) ?_ ?_ ?_,?_⟩
   · rw[hse,e];simp only[List.append_assoc]
   · rw[List.length_append,e4]
   · rw[List.length_append,e4]
   · rw[hsl,e];simp only[List.length_append];omega
 have n0:(v 0).length=l.length:=by rw[hv0];simp[EU]
 have n1:(v 1).length=(l.flatMap Ev.lines).length:=by rw[hv1,lo,List.length_map]
 have n2:(v 2).length=(l.flatMap Ev.lines).length:=by rw[hv2,le,List.length_map]
 have n3:(v 3).length=(l.flatMap Ev.lines).length:=by rw[hv3,lz,List.length_map]
 have o4:o 4≤s.length:=by omega
 clear hsl hse hv0 hv1 hv2 hv3 hvi hvl hs b0 b1 b2 b3 ho1 ho2 ho3 ho4 hb hsplit hget htl ho
 obtain⟨en,hen⟩: ∃ en:Nat→List UInt8,∀ k,AZ (v k)=en k:=⟨fun k=>AZ (v k),fun _=>rfl⟩
 simp only[hen]at qb qd
 clear hen
 refine acN 142 0 Tryz.func90 fun C hN hk=>?_
 refine Af [0,1] ?_
 refine Af [0,1,6] ?_
 refine Af [0,1,6,7] ?_
 refine Af [0,1,6,7,8] ?_
 refine lpF hk 1 (fun k:Nat=>⟨[(0,.sl 1 (Ab s)),(1,I l.length),(6,.ptr 0 4 0 0),(7,I (o k)),(8,I k)],[(0,some ⟨201,4,[[Cx v k 0,Cx v k 1,Cx v k 2,Cx v k 3]]⟩)]⟩) (fun k=>k≤4) (fun k=>4-k) 0 (Cz (And.intro ho0 (And.intro Cx.eq_1 AA.eq_1)) [some 0] []) ?_
 intro k h1
 by_cases hk4:k<4
 · have q1:=qb k hk4
   have q2:=qd k hk4
   obtain⟨k',hk'⟩: ∃ k',k'=k+1:=⟨_,rfl⟩
   obtain rfl|rfl|rfl|rfl:k=0∨k=1∨k=2∨k=3:=by omega
   all_goals
     refine nx ?_;refine rG hN hk noc [] [0,1,6,7,8,19] fun K hK=>?_;simp only[go_sem,seval,Cx,bne_self_eq_false,AA]
     try simp (disch:=omega) only[au]
     refine hK _ _ ?_;clear hK K;refine nx ?_;refine cT ?_;refine nx ?_;refine rG hN hk (onc 2 (pcq q1) noc) [] [0,1,6,8,9,10,11] fun K hK=>?_;simp only[go_sem,seval,Cx,bne_self_eq_false,AA];refine obK (hK _ _ ?_)
     clear hK K;refine nx ?_
     refine rG hN hk noc [] [0,1,6,8,9,10,30] fun K hK=>?_;simp only[go_sem,seval,Cx,bne_self_eq_false,AA]
     (first|with_reducible refine hK _ _ ?_|refine obK (hK _ _ ?_));clear hK K;refine nx ?_
     refine cF ?_;refine nx ?_;refine rG hN hk noc [] [0,1,6,8,9,10] fun K hK=>?_;simp only[go_sem,seval,Cx,bne_self_eq_false,AA];refine hK _ _ ?_
     clear hK K;refine nx ?_
     refine rG hN hk (onc 2 (pcq q2) noc) [] [0,1,6,8,10,12] fun K hK=>?_;simp only[go_sem,seval,Cx,bne_self_eq_false,AA];refine obK (hK _ _ ?_)
     clear hK K;refine nx ?_
     refine rG hN hk noc [] [0,1,6,8,10,39] fun K hK=>?_;simp only[go_sem,seval,Cx,bne_self_eq_false,AA]
     try simp (disch:=omega) only[au]
     refine hK _ _ ?_;clear hK K;refine nx ?_;refine cF ?_;refine nx ?_;refine rG hN hk noc [] [0,1,6,7,8] fun K hK=>?_;simp only[go_sem,seval,Cx,bne_self_eq_false,AA];refine hK _ _ ?_
     clear hK K;refine nx ?_
     refine rG hN hk noc [] [0,1,6,7,8] fun K hK=>?_;simp only[go_sem,seval,Cx,bne_self_eq_false,AA]
     try simp (disch:=omega) only[au]
     refine hK _ _ ?_;clear hK K;refine nx ?_
     refine eE (k') (Cz (And.intro hk' (And.intro Cx.eq_1 AA.eq_1)) [some 0] [1])
 · have:k=4:=by omega
   subst this
   clear qb qd
   have d1:((((v 0).length:Nat):Int) !=(l.length:Int))=false:=ND oM
   have d2:((((v 1).length:Nat):Int) !=(((v 2).length:Nat):Int))=false:=ND oM
   have d3:((((v 1).length:Nat):Int) !=(((v 3).length:Nat):Int))=false:=ND oM
   refine nx ?_;refine rG hN hk noc [] [0,1,6,7,8,19] fun K hK=>?_;simp only[go_sem,seval,Cx,AA,d1,d2,d3]
   try simp (disch:=omega) only[au]
   refine hK _ _ ?_;clear hK K;refine nx ?_;refine cF ?_;refine nx ?_;refine rG hN hk noc [] [0,1,6,7,63] fun K hK=>?_;simp only[go_sem,seval,Cx,AA,d1,d2,d3]
   try simp (disch:=omega) only[au]
   try simp only[go_sem,seval,Cx,AA,d1,d2,d3]
   iterate 2 try(simp (disch:=omega) only[au];try simp only[go_sem,seval,Cx,AA,d1,d2,d3])
   (first|with_reducible refine hK _ _ ?_|refine obK (hK _ _ ?_));clear hK K;refine nx ?_
   refine cF ?_;refine nx ?_;refine rG hN hk noc [] [0,1,6,7,13] fun K hK=>?_;simp only[go_sem,seval,Cx,AA,d1,d2,d3];refine hK _ _ ?_
   clear hK K;refine nx ?_
   refine rG hN hk noc [] [0,1,6,7,13,14] fun K hK=>?_;simp only[go_sem,seval,Cx,AA,d1,d2,d3];refine hK _ _ ?_
   clear hK K;refine nx ?_
   refine rG hN hk noc [] [0,1,6,7,13,14,15] fun K hK=>?_;simp only[go_sem,seval,Cx,AA,d1,d2,d3];refine hK _ _ ?_
   clear hK K;refine nx ?_
   have e0:Cj l 0=[]:=by simp[Cj]
   refine nx ?_
   refine lpF hk 2 (fun i:Nat=>⟨[(0,.sl 1 (Ab s)),(1,I l.length),(6,.ptr 0 4 0 0),(7,I (o 4+(lt (Cj l i)).length:Nat)),(13,.osl 1 ((l.take i).map Ev.lines).length 1),(14,I (Cj l i).length),(15,I i)],[(0,some ⟨201,4,[[.sl 1 (An (v 0)),.sl 1 (An (v 1)),.sl 1 (An (v 2)),.sl 1 (An (v 3))]]⟩),(1,some ⟨53,1,llE ((l.take i).map Ev.lines)⟩)]⟩) (fun i=>i≤l.length) (fun i=>l.length-i) 0 (Cz (And.intro e0 lt.eq_1) [some 0,none] []) ?_
   intro i h2
   have hll:=Mk l i
   have htk:=Jp (Cj l i) (by
     intro x hx
     unfold Cj at hx
     obtain⟨e,he,hx⟩:=List.mem_flatMap.1 hx
     exact(h e (List.mem_of_mem_take he)).tx x hx)
   by_cases hi:i<l.length
   · have hx:=f0 i hi
     have he:=h _ (List.getElem_mem hi)
     have g1:=f1 i hi
     have g2:=f2 i hi
     have g3:=f3 i hi
     have g4:=f4 i hi
     have hnl:=he.nl
     have htx:=he.tx
     have hs1:=Xp l i hi
     have hs2:(l.take (i+1)).map Ev.lines=(l.take i).map Ev.lines++[l[i].lines]:=by
       rw[List.take_add_one,List.getElem?_eq_getElem hi]
       simp only[Option.toList,List.map_append,List.map_cons,List.map_nil]
     have hol:((l.take i).map Ev.lines).length≤4096:=by simp;omega
     generalize (l.take i).map Ev.lines=out at*
     generalize l[i]=e at*
     generalize Cj l i=A at*
     have F:=hx;refine A6 [0,1,6,7,13,14,15,66] ?_;clear F;refine cT ?_;refine Do [0,1,6,7,13,14,15,16] ?_
     refine Do [0,1,6,7,13,14,15,16,17] ?_
     obtain⟨F,hF⟩: ∃ F:Nat→List Ln,∀ j,A++e.lines.take j=F j:=⟨fun j=>A++e.lines.take j,fun _=>rfl⟩
     have hX: ∀ j,(F j).length≤A.length+40:=by intro j;rw[← hF];simp;omega
     have hT: ∀ j,j≤e.lines.length→(lt (F j)).length≤(lt A).length+80000:=by
       intro j hj
       have:=Jp (e.lines.take j) (fun x hx=>htx x (List.mem_of_mem_take hx))
       have e2:(lt (A++e.lines.take j)).length=(lt A).length+(lt (e.lines.take j)).length:=by simp[lt]
       simp at this
       rw[← hF]
       omega
     have hFs: ∀ j (hj:j<e.lines.length),F (j+1)=F j++[e.lines[j]]:=by
       intro j hj
       rw[← hF,← hF,List.take_add_one,List.getElem?_eq_getElem hj]
       simp only[Option.toList,List.append_assoc]
     have hF0:F 0=A:=by rw[← hF];simp
     have hFe:F e.lines.length=Cj l (i+1):=by rw[hs1,← hF];simp
     simp only[hF]at g1 g2 g3 g4
     clear hF
     obtain⟨G,hG⟩: ∃ G:Nat→List Ln,∀ j,e.lines.take j=G j:=⟨fun j=>e.lines.take j,fun _=>rfl⟩
     have hG0:G 0=[]:=by rw[← hG];simp
     have hGs: ∀ j (hj:j<e.lines.length),G (j+1)=G j++[e.lines[j]]:=by
       intro j hj
       rw[← hG,← hG,List.take_add_one,List.getElem?_eq_getElem hj]
       simp only[Option.toList]
     have hGe:G e.lines.length=e.lines:=by rw[← hG];simp
     have hGl: ∀ j,(G j).length≤40:=by intro j;rw[← hG];simp;omega
     clear hG
     refine nx ?_
     refine lpF hk 3 (fun j:Nat=>⟨[(0,.sl 1 (Ab s)),(1,I l.length),(6,.ptr 0 4 0 0),(7,I (o 4+(lt (F j)).length:Nat)),(13,.osl 1 out.length 1),(14,I (F j).length),(15,I i),(16,.osl 2 (G j).length 3),(17,I ((e.lines.length:Int)-j))],[(0,some ⟨201,4,[[.sl 1 (An (v 0)),.sl 1 (An (v 1)),.sl 1 (An (v 2)),.sl 1 (An (v 3))]]⟩),(1,some ⟨53,1,llE out⟩),(2,some ⟨156,3,lnE (G j)⟩)]⟩) (fun j=>j≤e.lines.length) (fun j=>e.lines.length-j) 0 (Cz (And.intro hF0 hG0) [some 0,some 1,none] []) ?_
     intro j h3
     have hXj:=hX j
     have hTj:=hT j h3
     by_cases hj:j<e.lines.length
     · have y1:=g1 j hj
       have y2:=g2 j hj
       have y3:=g3 j hj
       have y4:=g4 j hj
       have hxt:=htx _ (List.getElem_mem hj)
       have hs3:=hFs j hj
       have hs4:=hGs j hj
       have hs5:=lt_s (F j) e.lines[j]
       have hkl:(F j).length<(v 1).length:=by
         rcases Nat.lt_or_ge (F j).length (v 1).length with hh|hh
         · exact hh
         · rw[List.getElem?_eq_none hh]at y1;simp at y1
       have hcl:=hGl j
       generalize e.lines[j]=x at*
       generalize F j=Aj at*
       generalize G j=cur at*
       obtain⟨y4a,y4b⟩:=y4
       obtain⟨p,hp⟩: ∃ p,o 4+(lt Aj).length=p:=⟨_,rfl⟩
       have hp2:o 4+(lt (Aj++[x])).length=p+x.text.length:=by rw[hs5,List.length_append];omega
       rw[hp]at y4a y4b ⊢
       have d1:=Vv (a:=((Aj.length:Nat):Int)) (b:=((v 1).length:Int)) oM
       have d2:=GP (a:=((x.text.length:Nat):Int)) (b:=0) oM
       have d3:=EV (a:=((x.text.length:Nat):Int)) (b:=(s.length:Int)-p) oM
       have w1:=Ar (n:=(s.length:Int)-p) oM
       have w2:=Ar (n:=(p:Int)+(x.text.length:Int)) oM
       have e3:((p:Int)+(x.text.length:Int)).toNat=p+x.text.length:=by omega
       refine AL [0,1,6,7,13,14,15,16,17,75] ?_;refine cT ?_;refine nx ?_;refine rG hN hk noc [] [0,1,6,7,13,14,15,16,17,102] fun K hK=>?_;simp only[go_sem,seval,y3,d1,d2,w1,d3]
       try simp (disch:=omega) only[au]
       try simp only[go_sem,seval,y3,d1,d2,w1,d3]
       iterate 2 try(simp (disch:=omega) only[au];try simp only[go_sem,seval,y3,d1,d2,w1,d3])
       (first|with_reducible refine hK _ _ ?_|refine obK (hK _ _ ?_));clear hK K;refine nx ?_
       refine cF ?_;have F:=And.intro y1 (And.intro y2 (And.intro y3 (And.intro w2 (And.intro e3 y4a))));refine DI [0,1,6,7,13,14,15,16,17] ?_;clear F
       have F:=And.intro y3 w2;refine A6 [0,1,6,7,13,14,15,16,17] ?_;clear F
       refine AL [0,1,6,7,13,14,15,16,17] ?_;refine AL [0,1,6,7,13,14,15,16,17] ?_
       refine eE (j+1) (Cz (And.intro hs3 (And.intro hs4 hp2)) [some 0,some 1,some 2] [])
     · have:j=e.lines.length:=by omega
       subst this
       rw[hFe,hGe]
       have hnj:((e.lines.length:Int)- (e.lines.length:Int))=0:=by omega
       rw[hnj]
       refine AL [0,1,6,7,13,14,15,16,17,75] ?_;refine cF ?_;refine Af [0,1,6,7,13,14,15,16] ?_
       refine AL [0,1,6,7,13,14,15,16] ?_
       refine eE (i+1) (Cz hs2 [some 0,some 1] [2])
   · have:i=l.length:=by omega
     subst this
     rw[List.take_length]
     have hml:(l.map Ev.lines).length=l.length:=by simp
     generalize l.map Ev.lines=out at*
     refine AL [0,1,6,7,13,14,15,66] ?_;refine cF ?_;refine Af [4,5] ?_
     refine AW.ret (BY [some 0] [] rfl (by simp[Az,lk,lkh,I,str,B,U8,U64,U32,hml]<;>omega) (by first|(simp[Am,Ai,Ak,lkh,hml];done)|simp[Am,Ai,Ak,lkh,I,str,hml]))
end Go.Proofs.YtpkhodjlnodagaaGreatDoor
