/- Part 24 of the proof of PlanCandidates. -/
import Derived.Test.YtpkhodjlnodagaaGreatDoorA04
import Derived.Test.YtpkhodjlnodagaaGreatDoorA23
set_option linter.unusedSimpArgs false
set_option linter.unusedVariables false
set_option linter.unusedSectionVars false
namespace Go.Proofs.YtpkhodjlnodagaaGreatDoor
open Go.Av
set_option maxHeartbeats 4000000
attribute [local irreducible] Af
def AF(x:List UInt8):List UInt8:=An x.length++x
theorem HK(b x:List UInt8)(hb:b.length≤2^40)(hx:x.length≤2^40):
   Af Tryz.prog 158 [.osl 0 b.length 1,.sl 1 (Ab x)] [some ⟨5,1,Ab b⟩] (.osl 1 (b++AF x).length 1) [none,some ⟨5,1,Ab (b++AF x)⟩]:=by
 refine acN 12 1 Tryz.func158 fun C hN hk=>?_
 have q:=C7 b x.length (by omega) hb
 have:=Bh x.length
 have e:b++AF x=b++An x.length++x:=by simp[AF]
 rw[e]
 generalize An x.length=v at*
 refine Ah [0,1] ?_ noc [0]
 refine AU [4] ?_ (onc 4 (ocq 0 q) noc) [0]
 refine AW.ret (En [some 0,some 1] [])
theorem JN(x:List UInt8)(hx:x.length≤2^40):
   Af Tryz.prog 158 [.val (.slice none 0 0),.sl 1 (Ab x)] [] (.osl 0 (AF x).length 1) [some ⟨5,1,Ab (AF x)⟩]:=by
 refine acN 12 0 Tryz.func158 fun C hN hk=>?_
 have q:=K7 x.length (by omega)
 have:=Bh x.length
 unfold AF
 generalize An x.length=v at*
 refine Ah [0,1] ?_
 refine AU [4] ?_ (onc 4 (pcq q) noc)
 refine AW.ret (En [some 0] [])
theorem HW(v:List Int)(hl:v.length≤16384):Af Tryz.prog 110 [.sl 1 (Ak v)] [] (.osl 0 (BF v).length 1) [some ⟨5,1,Ab (BF v)⟩]:=by
 refine acN 11 0 Tryz.func110 fun C hN hk=>?_
 have q:=Aad v hl
 refine Ah [0] ?_
 refine Ah [3] ?_ (onc 1 (pcq q) noc)
 refine Ah [2] ?_
 refine AW.ret (En [some 0] [])
theorem Jj(d:List S)(hc:A6 d=0)(hd:d.length≤2^40)(hs: ∀ s∈d,s.length≤2^40):Af Tryz.prog 159 [.sl 1 (Ay d)] [] (.osl 0 (AG d).length 1) [some ⟨5,1,Ab (AG d)⟩]:=by
 refine acN 11 0 Tryz.func159 fun C hN hk=>?_
 have q:=RA d hd hs
 simp only[Kf,hc,if_true]at q
 refine Ah [0] ?_
 refine Ah [3] ?_ (onc 1 (pcq q) noc)
 refine Ah [2] ?_
 refine AW.ret (En [some 0] [])
theorem NK(l:List Int)(hp:Post l):Af Tryz.prog 161 [.sl 1 (Ak l)] [] (.osl 0 (Bq l).length 1) [some ⟨5,1,Ab (Bq l)⟩]:=by
 refine acN 11 0 Tryz.func161 fun C hN hk=>?_
 have q:=Ri l hp
 refine Ah [0] ?_
 refine Ah [3] ?_ (onc 1 (pcq q) noc)
 refine Ah [2] ?_
 refine AW.ret (En [some 0] [])
def Br(v:Nat):Nat→List UInt8
 |0=>[]
 |k+1=>UInt8.ofNat (v / 2^(8*k)%256)::Br v k
theorem Cc(v:Nat): ∀ k,(Br v k).length=k
 |0=>rfl
 |k+1=>by simp[Br,Cc v k]
theorem Ae3(a k:Nat):(a:Int).fdiv (2^k)=((a / 2^k:Nat):Int):=by
 rw[Int.fdiv_eq_ediv_of_nonneg _ (Int.pow_nonneg (by decide))]
 push_cast
 rfl
theorem Mt(b:List UInt8)(v w:Nat)(hb:b.length≤2^40)(hw:w≤8):
   Af Tryz.prog 57 [.osl 0 b.length 1,U64 v,I w] [some ⟨5,1,Ab b⟩] (.osl 1 (b++Br v w).length 1) [none,some ⟨5,1,Ab (b++Br v w)⟩]:=by
 refine acN 23 1 Tryz.func57 fun C hN hk=>?_
 refine Ah [0,1,2] ?_ noc [0]
 refine AU [0,1,7] ?_ noc [0]
 refine lpF hk 2 (fun z:Nat×List UInt8=>⟨[(0,.osl 1 z.2.length 1),(1,U64 v),(7,I ((z.1:Int)-1))],[(0,none),(1,some ⟨5,1,Ab z.2⟩)]⟩) (fun z=>z.1≤w∧z.2.length+z.1=b.length+w∧z.2++Br v z.1=b++Br v w) (fun z=>z.1) (w,b) (Ps [some 0,some 0] []) ?_
 intro ⟨m,d⟩ ⟨h1,h2,h3⟩
 simp only at h1 h2 h3
 cases m with
 |zero=>
   have e:d=b++Br v w:=by simpa [Br] using h3
   refine AU [0,1,7,11] ?_ noc [0];refine cF ?_;refine Ah [6] ?_ noc [0]
   refine AW.ret (B0 [some 0,some 1] [] rfl (by simp[Ax,lk,lkh,wk,wkL,wkE,I,str,B,U8,U64,U32,e]<;>omega) (by first|(simp[Am,Ai,Aj,lkh,e];done)|(simp[Am,Ai,Aj,lkh,AE,AO,I,str,e];done)|simp[Am,Ai,Aj,wkL,wk,wkE,lkh,I,str,e]))
 |succ k=>
   have e1:((((k+1:Nat):Int)-1))=k:=by omega
   rw[e1]
   have e2:((8*(k:Int))).toNat=8*k:=by omega
   have e3:(v:Int).fdiv (2^min (8*k) 64)=((v / 2^(8*k):Nat):Int):=by
     rw[Nat.min_eq_left (by omega)];exact Ae3 v (8*k)
   have e4:IntKind.u8.wrap ((v / 2^(8*k):Nat):Int)=((UInt8.ofNat (v / 2^(8*k)%256)).toNat:Int):=by
     rw[IU];simp
   have h4:(d++[UInt8.ofNat (v / 2^(8*k)%256)])++Br v k=b++Br v w:=by simpa [Br] using h3
   refine AU [0,1,7,11] ?_ noc [0];refine cT ?_;refine nx ?_;refine rG hN hk noc [0] [0,1,7] fun K hK=>?_;simp only[go_sem,seval]
   try simp (disch:=omega) only[au,e2,e3,e4]
   (first|with_reducible refine hK _ _ ?_|refine obK (hK _ _ ?_));clear hK K;refine AU [0,1,7] ?_ noc [0]
   refine eE ((k,d++[UInt8.ofNat (v / 2^(8*k)%256)])) (Ps [some 0,some 1] [])
def Ef(l:List UInt8):Nat:=l.foldl (fun v b=>v*256+b.toNat) 0
theorem X4(l:List UInt8): ∀ v,l.foldl (fun v b=>v*256+b.toNat) v<(v+1)*256^l.length:=by
 induction l with
 |nil=>intro v;simp
 |cons b r ih=>
   intro v
   have:=ih (v*256+b.toNat)
   have hb:=b.toNat_lt
   simp only[List.foldl_cons,List.length_cons,Nat.pow_succ]
   refine Nat.lt_of_lt_of_le this ?_
   rw[Nat.mul_comm (256^r.length) 256,← Nat.mul_assoc]
   exact Nat.mul_le_mul_right _ (by omega)
theorem Og(l:List UInt8)(b:UInt8):Ef (l++[b])=Ef l*256+b.toNat:=by simp[Ef]
theorem R2(l:List UInt8):Ef l<256^l.length:=by simpa [Ef] using X4 l 0
theorem Aat(a b:Nat)(ha:a<2^56)(hb:b<256):AN .or .u64 ((a:Int)*256) b=((a*256+b:Nat):Int):=by
 have e1:(BitVec.ofInt 64 ((a:Int)*256)).toNat=a*256:=by
   rw[BitVec.toNat_ofInt];omega
 have e2:(BitVec.ofInt 64 (b:Int)).toNat=b:=by
   rw[BitVec.toNat_ofInt];omega
 have e3:a*256 ||| b=a*256+b:=by
   have:=Nat.shiftLeft_add_eq_or_of_lt (show b<2^8 by omega) a
   rw[Nat.shiftLeft_eq]at this
   exact this.symm
 show IntKind.u64.wrap ((BitVec.ofInt 64 ((a:Int)*256) ||| BitVec.ofInt 64 (b:Int)).toNat:Int)=_
 rw[BitVec.toNat_or,e1,e2,e3]
 exact Fe (by omega)
theorem Af2(l:List UInt8)(hl:l.length≤8):Af Tryz.prog 22 [.sl 1 (Ab l)] [] (U64 (Ef l)) []:=by
 refine acN 20 0 Tryz.func22 fun C hN hk=>?_
 refine Ah [0] ?_
 refine Ah [0,3] ?_
 refine Ah [0,3,4] ?_
 refine lpF hk 0 (fun i:Nat=>⟨[(0,.sl 1 (Ab l)),(3,U64 (Ef (l.take i))),(4,I i)],[]⟩) (fun i=>i≤l.length) (fun i=>l.length-i) 0 (Fb Ef.eq_1 [] []) ?_
 intro i h1
 by_cases hi:i<l.length
 · have hx:=List.getElem?_eq_getElem hi
   have h2:=R2 (l.take i)
   have h3:256^(l.take i).length≤256^7:=Nat.pow_le_pow_right (by omega) (by simp;omega)
   have h4:Ef (l.take (i+1))=Ef (l.take i)*256+l[i].toNat:=by rw[← Og];simp[List.take_append_getElem]
   have h5:=Aat (Ef (l.take i)) l[i].toNat (by omega) l[i].toNat_lt
   have h6:=l[i].toNat_lt
   generalize Ef (l.take i)=v at*
   generalize l[i]=b at*
   have e1:(2:Int)^min 8 64=256:=by decide
   refine AU [0,3,4,8] ?_
   refine cT ?_;refine nx ?_;refine rG hN hk noc [] [0,3,4] fun K hK=>?_;simp only[go_sem,seval,hx]
   try simp (disch:=omega) only[au,e1,h5]
   (first|with_reducible refine hK _ _ ?_|refine obK (hK _ _ ?_));clear hK K;refine AU [0,3,4] ?_
   refine eE (i+1) (Fb h4 [] [])
 · have:i=l.length:=by omega
   subst this
   simp only[List.take_length]
   refine AU [0,3,4,8] ?_
   refine cF ?_;refine Ah [2] ?_
   refine AW.ret (En [] [])
theorem Qz(l:List UInt8)(hl:l.length≤2^40):Af Tryz.prog 23 [.sl 1 (Ab l)] [] (U32 (Dm l)) []:=(Aft l hl).toA
def GZ(ls:List Ln):Nat→S
 |0=>[]
 |i+1=>GZ ls i++(if 0<i then [10]else [])++(match ls[i]? with|some x=>x.text|none=>[])
def B4(e:Ev):S:=GZ e.lines e.lines.length
theorem Nh(ls:List Ln)(h: ∀ x∈ls,x.text.length≤2000): ∀ i,(GZ ls i).length≤i*2001
 |0=>by simp[GZ]
 |i+1=>by
   have:=Nh ls h i
   simp only[GZ,List.length_append]
   have h2:(if 0<i then [10]else []:S).length≤1:=by split<;>simp
   have h3:(match ls[i]? with|some x=>x.text|none=>[]:S).length≤2000:=by
     split
     · next x hx=>exact h x (List.mem_of_getElem? hx)
     · simp
   omega
theorem Rn(e:Ev)(hn:e.lines.length≤40)(ht: ∀ x∈e.lines,x.text.length≤2000):Af Tryz.prog 45 [.agg (evC e)] [] (str (B4 e)) []:=by
 refine acN 25 0 Tryz.func45 fun C hN hk=>?_
 refine Ah [1] ?_
 refine Ah [1,3] ?_
 refine Ah [1,3,4] ?_
 refine lpF hk 1 (fun i:Nat=>⟨[(1,.ptr 0 10 0 0),(3,str (GZ e.lines i)),(4,I i)],[(0,some ⟨56,10,[evC e]⟩)]⟩) (fun i=>i≤e.lines.length) (fun i=>e.lines.length-i) 0 (Fb (And.intro evC.eq_1 (And.intro GZ.eq_1 GZ.eq_2)) [some 0] []) ?_
 intro i h1
 have hl:=Nh e.lines ht i
 by_cases hi:i<e.lines.length
 · have hx:=List.getElem?_eq_getElem hi
   have hs:GZ e.lines (i+1)=GZ e.lines i++(if 0<i then [10]else [])++e.lines[i].text:=by rw[GZ,hx]
   have hy:=ht _ (List.getElem_mem hi)
   generalize GZ e.lines i=t at*
   generalize e.lines[i]=x at*
   by_cases h0:0<i
   · rw[if_pos h0]at hs
     have F:=hx;refine A5 [1,3,4,9] ?_;clear F
     refine cT ?_;have F:=hx;refine A5 [1,3,4,13] ?_;clear F;refine cT ?_;have F:=hx;refine A5 [1,3,4] ?_;clear F
     have F:=hx;refine A5 [1,3,4] ?_;clear F
     have F:=hx;refine A5 [1,3,4] ?_;clear F
     refine eE (i+1) (Fb (And.intro hs evC.eq_1) [some 0] [])
   · rw[if_neg h0]at hs
     have F:=hx;refine A5 [1,3,4,9] ?_;clear F
     refine cT ?_;have F:=hx;refine A5 [1,3,4,13] ?_;clear F;refine cF ?_;have F:=hx;refine A5 [1,3,4] ?_;clear F
     have F:=hx;refine A5 [1,3,4] ?_;clear F
     refine eE (i+1) (Fb (And.intro hs evC.eq_1) [some 0] [])
 · have:i=e.lines.length:=by omega
   subst this
   refine AU [1,3,4,9] ?_
   refine cF ?_;refine Ah [2] ?_
   refine AW.ret (B0 [] [] rfl (by simp[Ax,lk,lkh,wk,wkL,wkE,I,str,B,U8,U64,U32,B4]<;>omega) (by first|(simp[Am,Ai,Aj,lkh,B4];done)|(simp[Am,Ai,Aj,lkh,AE,AO,I,str,B4];done)|simp[Am,Ai,Aj,wkL,wk,wkE,lkh,I,str,B4]))
def IG(s:List S×S)(c:UInt8):List S×S:=if c≠0 then(s.1,s.2++[c])else(if 0<s.2.length∧s.2.length≤40 then s.1++[s.2]else s.1,[])
def Iy(t:S):S:=t.map J2++[0]
def wTo(t:S)(i:Nat):List S×S:=((Iy t).take i).foldl IG ([],[])
def CG(t:S):List S:=Bi (wTo t (t.length+1)).1
theorem UQ(t:S)(i:Nat)(h:i<(Iy t).length):wTo t (i+1)=IG (wTo t i) (Iy t)[i]:=by
 unfold wTo
 rw[List.take_add_one,List.getElem?_eq_getElem h,List.foldl_append]
 rfl
theorem Pz(t:S): ∀ i,i≤t.length+1→(wTo t i).1.length≤i∧(wTo t i).2.length≤i
 |0,_=>by simp[wTo]
 |i+1,h=>by
   have:=Pz t i (by omega)
   rw[UQ t i (by simp[Iy];omega)]
   unfold IG
   split
   · simp;omega
   · split<;>simp<;>omega
theorem OY(t:S)(ht:t.length≤2^30):Af Tryz.prog 44 [str t] [] (.osl 0 (CG t).length 1) [some ⟨9,1,Ay (CG t)⟩]:=by
 refine acN 42 0 Tryz.func44 fun C hN hk=>?_
 refine Ah [0] ?_
 refine Ah [0,3] ?_
 refine Ah [0,3,4] ?_
 refine Ah [0,3,4,5] ?_
 refine lpF hk 2 (fun i:Nat=>⟨[(0,str t),(3,.osl 0 (wTo t i).1.length 1),(4,.osl 1 (wTo t i).2.length 1),(5,I i)],[(0,some ⟨9,1,Ay (wTo t i).1⟩),(1,some ⟨5,1,Ab (wTo t i).2⟩)]⟩) (fun i=>i≤t.length+1) (fun i=>t.length+1-i) 0 (Fb wTo.eq_1 [none,none] []) ?_
 intro i h1
 have hl:=Pz t i h1
 by_cases hi:i≤t.length
 · have hs:=UQ t i (by simp[Iy];omega)
   by_cases hj:i<t.length
   · have hx:=List.getElem?_eq_getElem hj
     have hy:(Iy t)[i]'(by simp[Iy];omega)=J2 t[i]:=by simp[Iy,List.getElem_append,hj]
     rw[hy]at hs
     have q:=Y4 t[i]
     generalize wTo t i=z at*
     obtain⟨o,w⟩:=z
     simp only at hl
     generalize J2 t[i]=c at*
     generalize t[i]=b at*
     rcases dqE (c.toNat:Int) 0 with ⟨p0,e0,f0⟩|⟨p0,e0,f0⟩
     · have hc:c=0:=UInt8.toNat_inj.1 (by simpa using p0)
       subst hc
       by_cases hw:0<w.length∧w.length≤40
       · have hs:wTo t (i+1)=(o++[w],[]):=by simp[hs,IG,hw]
         have f1:=YH (a:=w.length) (b:=0) (by omega)
         have f2:=OL (a:=w.length) (b:=40) (by omega)
         have F:=And.intro hx (And.intro f0 (And.intro f1 f2));refine A5 [0,3,4,5,10] ?_;clear F
         refine cT ?_;have F:=And.intro hx (And.intro f0 (And.intro f1 f2));refine AB [0,3,4,5,6] ?_;clear F
         have F:=And.intro hx (And.intro f0 (And.intro f1 f2));refine A5 [0,3,4,5,6,16] ?_;clear F
         refine cT ?_;have F:=And.intro hx (And.intro f0 (And.intro f1 f2));refine AB [0,3,4,5,6] ?_ (onc 3 (pcq q) noc);clear F
         have F:=And.intro hx (And.intro f0 (And.intro f1 f2));refine A5 [0,3,4,5,6,22] ?_;clear F;refine cF ?_;refine nx ?_;refine rG hN hk noc [] [0,3,4,5,34] fun K hK=>?_;simp only[go_sem,seval,hx,f0,f1,f2]
         try simp (disch:=omega) only[au]
         try simp only[go_sem,seval,hx,f0,f1,f2]
         (first|with_reducible refine hK _ _ ?_|refine obK (hK _ _ ?_));clear hK K;refine nx ?_
         refine cT ?_;have F:=And.intro hx (And.intro f0 (And.intro f1 f2));refine A5 [0,3,5] ?_;clear F
         have F:=And.intro hx (And.intro f0 (And.intro f1 f2));refine AB [0,3,4,5] ?_;clear F
         have F:=And.intro hx (And.intro f0 (And.intro f1 f2));refine A5 [0,3,4,5] ?_;clear F
         refine eE (i+1) (HD [some 0,none] [])
       · have hs:wTo t (i+1)=(o,[]):=by simp only[hs,IG,hw];simp
         rcases dq ((w.length:Int)>0)with ⟨p0,e0⟩|⟨p0,e0⟩<;>(try omega)<;>rcases dq ((w.length:Int)≤40)with ⟨p1,e1⟩|⟨p1,e1⟩<;>try omega
         all_goals
           have F:=And.intro hx (And.intro f0 (And.intro e0 e1));refine A5 [0,3,4,5,10] ?_;clear F
           refine cT ?_;have F:=And.intro hx (And.intro f0 (And.intro e0 e1));refine AB [0,3,4,5,6] ?_;clear F
           have F:=And.intro hx (And.intro f0 (And.intro e0 e1));refine A5 [0,3,4,5,6,16] ?_;clear F
           refine cT ?_;have F:=And.intro hx (And.intro f0 (And.intro e0 e1));refine AB [0,3,4,5,6] ?_ (onc 3 (pcq q) noc);clear F
           have F:=And.intro hx (And.intro f0 (And.intro e0 e1));refine A5 [0,3,4,5,6,22] ?_;clear F;refine cF ?_;refine nx ?_;refine rG hN hk noc [] [0,3,4,5,34] fun K hK=>?_;simp only[go_sem,seval,hx,f0,e0,e1]
           try simp (disch:=omega) only[au]
           try simp only[go_sem,seval,hx,f0,e0,e1]
           (first|with_reducible refine hK _ _ ?_|refine obK (hK _ _ ?_));clear hK K;refine nx ?_
           refine cF ?_;have F:=And.intro hx (And.intro f0 (And.intro e0 e1));refine AB [0,3,4,5] ?_;clear F
           have F:=And.intro hx (And.intro f0 (And.intro e0 e1));refine A5 [0,3,4,5] ?_;clear F
           refine eE (i+1) (HD [some 0,none] [])
     · have hc:c≠0:=fun h=>p0 (by rw[h];rfl)
       have hs:wTo t (i+1)=(o,w++[c]):=by simp[hs,IG,hc]
       have F:=And.intro hx f0;refine A5 [0,3,4,5,10] ?_;clear F
       refine cT ?_;have F:=And.intro hx f0;refine AB [0,3,4,5,6] ?_;clear F
       have F:=And.intro hx f0;refine A5 [0,3,4,5,6,16] ?_;clear F
       refine cT ?_;have F:=And.intro hx f0;refine AB [0,3,4,5,6] ?_ (onc 3 (pcq q) noc);clear F
       have F:=And.intro hx f0;refine A5 [0,3,4,5,6,22] ?_;clear F;refine cT ?_;have F:=And.intro hx f0;refine AB [0,3,4,5] ?_;clear F
       have F:=And.intro hx f0;refine A5 [0,3,4,5] ?_;clear F
       refine eE (i+1) (HD [some 0,some 1] [])
   · have hj:i=t.length:=by omega
     have hy:(Iy t)[i]'(by simp[Iy];omega)=0:=by simp[Iy,List.getElem_append,hj]
     rw[hy]at hs
     generalize wTo t i=z at*
     obtain⟨o,w⟩:=z
     simp only at hl
     by_cases hw:0<w.length∧w.length≤40
     · have hs:wTo t (i+1)=(o++[w],[]):=by simp[hs,IG,hw]
       have f1:=YH (a:=w.length) (b:=0) (by omega)
       have f2:=OL (a:=w.length) (b:=40) (by omega)
       refine nx ?_;refine rG hN hk noc [] [0,3,4,5,10] fun K hK=>?_;simp only[go_sem,seval,f1,f2,bne_self_eq_false]
       try simp (disch:=omega) only[au]
       (first|with_reducible refine hK _ _ ?_|refine obK (hK _ _ ?_));clear hK K;refine nx ?_
       refine cT ?_;refine nx ?_;refine rG hN hk noc [] [0,3,4,5,6] fun K hK=>?_;simp only[go_sem,seval,f1,f2,bne_self_eq_false];refine hK _ _ ?_
       clear hK K;refine nx ?_
       refine rG hN hk noc [] [0,3,4,5,6,16] fun K hK=>?_;simp only[go_sem,seval,f1,f2,bne_self_eq_false]
       try simp (disch:=omega) only[au]
       (first|with_reducible refine hK _ _ ?_|refine obK (hK _ _ ?_));clear hK K;refine nx ?_
       refine cF ?_;refine nx ?_;refine rG hN hk noc [] [0,3,4,5,6,22] fun K hK=>?_;simp only[go_sem,seval,f1,f2,bne_self_eq_false]
       try simp (disch:=omega) only[au]
       refine hK _ _ ?_;clear hK K;refine nx ?_;refine cF ?_;refine nx ?_;refine rG hN hk noc [] [0,3,4,5,34] fun K hK=>?_;simp only[go_sem,seval,f1,f2,bne_self_eq_false]
       try simp (disch:=omega) only[au]
       try simp only[go_sem,seval,f1,f2,bne_self_eq_false]
       (first|with_reducible refine hK _ _ ?_|refine obK (hK _ _ ?_));clear hK K;refine nx ?_
       refine cT ?_;refine nx ?_;refine rG hN hk noc [] [0,3,5] fun K hK=>?_;simp only[go_sem,seval,f1,f2,bne_self_eq_false]
       try simp (disch:=omega) only[au]
       (first|with_reducible refine hK _ _ ?_|refine obK (hK _ _ ?_));clear hK K;refine nx ?_
       refine rG hN hk noc [] [0,3,4,5] fun K hK=>?_;simp only[go_sem,seval,f1,f2,bne_self_eq_false];refine hK _ _ ?_
       clear hK K;refine nx ?_
       refine rG hN hk noc [] [0,3,4,5] fun K hK=>?_;simp only[go_sem,seval,f1,f2,bne_self_eq_false]
       try simp (disch:=omega) only[au]
       refine hK _ _ ?_;clear hK K;refine nx ?_
       refine eE (i+1) (HD [some 0,none] [])
     · have hs:wTo t (i+1)=(o,[]):=by simp only[hs,IG,hw];simp
       rcases dq ((w.length:Int)>0)with ⟨p0,e0⟩|⟨p0,e0⟩<;>(try omega)<;>rcases dq ((w.length:Int)≤40)with ⟨p1,e1⟩|⟨p1,e1⟩<;>try omega
       all_goals
         refine nx ?_;refine rG hN hk noc [] [0,3,4,5,10] fun K hK=>?_;simp only[go_sem,seval,e0,e1,bne_self_eq_false]
         try simp (disch:=omega) only[au]
         (first|with_reducible refine hK _ _ ?_|refine obK (hK _ _ ?_));clear hK K;refine nx ?_
         refine cT ?_;refine nx ?_;refine rG hN hk noc [] [0,3,4,5,6] fun K hK=>?_;simp only[go_sem,seval,e0,e1,bne_self_eq_false];refine hK _ _ ?_
         clear hK K;refine nx ?_
         refine rG hN hk noc [] [0,3,4,5,6,16] fun K hK=>?_;simp only[go_sem,seval,e0,e1,bne_self_eq_false]
         try simp (disch:=omega) only[au]
         (first|with_reducible refine hK _ _ ?_|refine obK (hK _ _ ?_));clear hK K;refine nx ?_
         refine cF ?_;refine nx ?_;refine rG hN hk noc [] [0,3,4,5,6,22] fun K hK=>?_;simp only[go_sem,seval,e0,e1,bne_self_eq_false]
         try simp (disch:=omega) only[au]
         refine hK _ _ ?_;clear hK K;refine nx ?_;refine cF ?_;refine nx ?_;refine rG hN hk noc [] [0,3,4,5,34] fun K hK=>?_;simp only[go_sem,seval,e0,e1,bne_self_eq_false]
         try simp (disch:=omega) only[au]
         try simp only[go_sem,seval,e0,e1,bne_self_eq_false]
         (first|with_reducible refine hK _ _ ?_|refine obK (hK _ _ ?_));clear hK K;refine nx ?_
         refine cF ?_;refine nx ?_;refine rG hN hk noc [] [0,3,4,5] fun K hK=>?_;simp only[go_sem,seval,e0,e1,bne_self_eq_false];refine hK _ _ ?_
         clear hK K;refine nx ?_
         refine rG hN hk noc [] [0,3,4,5] fun K hK=>?_;simp only[go_sem,seval,e0,e1,bne_self_eq_false]
         try simp (disch:=omega) only[au]
         refine hK _ _ ?_;clear hK K;refine nx ?_
         refine eE (i+1) (HD [some 0,none] [])
 · have hi:i=t.length+1:=by omega
   subst hi
   have q:=Gn _ (wTo t (t.length+1)).1 (Nat.le_refl _) (by omega)
   have hd:=Do (wTo t (t.length+1)).1
   unfold CG
   generalize (wTo t (t.length+1)).1=o at*
   refine AU [0,3,4,5,10] ?_
   refine cF ?_;refine Ah [2] ?_ (onc 1 (bcq [0] q) noc)
   refine AW.ret (En [some 0] [])
structure EvT(e:Ev):Prop where
 nl:e.lines.length≤40
 tx: ∀ x∈e.lines,x.text.length≤2000
 nf:e.fields.length≤32
 fv: ∀ f∈e.fields,f.name.length≤32∧f.val.length≤2000
theorem Ha(e:Ev)(h:EvT e):(B4 e).length≤80040:=by
 have:=Nh e.lines h.tx e.lines.length
 have:=h.nl
 unfold B4;omega
theorem FG(t:S):(CG t).length≤t.length+1:=by
 have:=Do (wTo t (t.length+1)).1
 have:=(Pz t (t.length+1) (by omega)).1
 unfold CG;omega
def Fc(l:List Ev)(i:Nat):List S:=(l.take i).flatMap fun e=>CG (B4 e)
theorem RT(l:List Ev)(i:Nat)(h:i<l.length):Fc l (i+1)=Fc l i++CG (B4 l[i]):=by
 unfold Fc
 rw[List.take_add_one,List.getElem?_eq_getElem h,List.flatMap_append]
 simp only[Option.toList,List.flatMap_cons,List.flatMap_nil,List.append_nil]
theorem Sw(l:List Ev)(h: ∀ e∈l,EvT e): ∀ i,i≤l.length→(Fc l i).length≤i*80041
 |0,_=>by simp[Fc]
 |i+1,hi=>by
   have:=Sw l h i (by omega)
   have:=FG (B4 l[i])
   have:=Ha l[i] (h _ (List.getElem_mem _))
   rw[RT l i (by omega)]
   simp only[List.length_append];omega
def AQ(l:List Ev):List S:=Bi (Fc l l.length)
theorem Rb(l:List Ev)(hl:l.length≤4096)(h: ∀ e∈l,EvT e):Af Tryz.prog 102 [.sl 10 (evE l)] [] (.osl 0 (AQ l).length 1) [some ⟨9,1,Ay (AQ l)⟩]:=by
 refine acN 21 0 Tryz.func102 fun C hN hk=>?_
 refine Ah [0] ?_
 refine Ah [0,3] ?_
 refine Ah [0,3,4] ?_
 refine lpF hk 1 (fun i:Nat=>⟨[(0,.sl 10 (evE l)),(3,.osl 0 (Fc l i).length 1),(4,I i)],[(0,some ⟨9,1,Ay (Fc l i)⟩)]⟩) (fun i=>i≤l.length) (fun i=>l.length-i) 0 (Fb Fc.eq_1 [none] []) ?_
 intro i h1
 have hl2:=Sw l h i h1
 by_cases hi:i<l.length
 · have hx:=List.getElem?_eq_getElem hi
   have hs:=RT l i hi
   have he:=h _ (List.getElem_mem hi)
   have q0:=Rn l[i] he.nl he.tx
   have hw:=FG (B4 l[i])
   have ht:=Ha l[i] he
   have q1:=OY (B4 l[i]) (by omega)
   generalize CG (B4 l[i])=ws at*
   generalize B4 l[i]=t at*
   generalize l[i]=e at*
   generalize Fc l i=o at*
   have F:=hx;refine A5 [0,3,4,8] ?_;clear F
   refine cT ?_;refine Dw [0,3,4] ?_ (onc 5 (pcq q0) (onc 6 (pcq q1) noc))
   have F:=hx;refine A5 [0,3,4] ?_;clear F
   refine eE (i+1) (HD [some 0] [])
 · have:i=l.length:=by omega
   subst this
   have q:=Gn _ (Fc l l.length) (Nat.le_refl _) (by omega)
   unfold AQ
   generalize Fc l l.length=o at*
   refine AU [0,3,4,8] ?_
   refine cF ?_;refine Ah [2] ?_ (onc 1 (bcq [0] q) noc)
   refine AW.ret (En [some 0] [])
def F4(l:List Ev)(i:Nat):List S:=(l.take i).flatMap fun e=>e.fields.map Fl.name
theorem WO(l:List Ev)(i:Nat)(h:i<l.length):F4 l (i+1)=F4 l i++l[i].fields.map Fl.name:=by
 unfold F4
 rw[List.take_add_one,List.getElem?_eq_getElem h,List.flatMap_append]
 simp only[Option.toList,List.flatMap_cons,List.flatMap_nil,List.append_nil]
theorem Q2(l:List Ev)(h: ∀ e∈l,EvT e): ∀ i,i≤l.length→(F4 l i).length≤i*32
 |0,_=>by simp[F4]
 |i+1,hi=>by
   have:=Q2 l h i (by omega)
   have:=(h _ (List.getElem_mem (l:=l) (n:=i) (by omega))).nf
   rw[WO l i (by omega)]
   simp only[List.length_append,List.length_map];omega
def Jf(o:List S)(fs:List Fl)(k:Nat):List S:=o++(fs.take k).map Fl.name
def A9(l:List Ev):List S:=Bi (F4 l l.length)
theorem Ui(l:List Ev)(hl:l.length≤4096)(h: ∀ e∈l,EvT e):Af Tryz.prog 103 [.sl 10 (evE l)] [] (.osl 0 (A9 l).length 1) [some ⟨9,1,Ay (A9 l)⟩]:=by
 refine acN 36 0 Tryz.func103 fun C hN hk=>?_
 refine Ah [0] ?_
 refine Ah [0,3] ?_
 refine Ah [0,3,4] ?_
 refine lpF hk 1 (fun i:Nat=>⟨[(0,.sl 10 (evE l)),(3,.osl 0 (F4 l i).length 1),(4,I i)],[(0,some ⟨9,1,Ay (F4 l i)⟩)]⟩) (fun i=>i≤l.length) (fun i=>l.length-i) 0 (Fb F4.eq_1 [none] []) ?_
 intro i h1
 have hl2:=Q2 l h i h1
 by_cases hi:i<l.length
 · have hx:=List.getElem?_eq_getElem hi
   have hs:=WO l i hi
   have he:=h _ (List.getElem_mem hi)
   generalize F4 l i=o at*
   generalize l[i]=e at*
   have hnf:=he.nf
   refine AU [0,3,4,9] ?_
   refine cT ?_;refine Ah [0,3,4,5] ?_
   refine lpF hk 1 (fun k:Nat=>⟨[(0,.sl 10 (evE l)),(3,.osl 0 (Jf o e.fields k).length 1),(4,I i),(5,I k)],[(0,some ⟨9,1,Ay (Jf o e.fields k)⟩)]⟩) (fun k=>k≤e.fields.length) (fun k=>e.fields.length-k) 0 (Fb Jf.eq_1 [some 0] []) ?_
   intro k h2
   by_cases hk2:k<e.fields.length
   · have hy:=List.getElem?_eq_getElem hk2
     have hs2:Jf o e.fields (k+1)=(Jf o e.fields k)++[e.fields[k].name]:=by
       unfold Jf
       rw[List.take_add_one,hy]
       simp only[Option.toList,List.map_append,List.map_cons,List.map_nil,List.append_assoc]
     have hz:(Jf o e.fields k).length≤o.length+32:=by simp[Jf];omega
     generalize Jf o e.fields k=o2 at*
     generalize e.fields[k]=f at*
     have F:=And.intro hx hy;refine A5 [0,3,4,5,19] ?_;clear F
     refine cT ?_;have F:=And.intro hx hy;refine AB [0,3,4,5] ?_;clear F
     have F:=And.intro hx hy;refine A5 [0,3,4,5] ?_;clear F
     refine eE (k+1) (Fb hs2 [some 0] [])
   · have:k=e.fields.length:=by omega
     subst this
     have hs3:Jf o e.fields e.fields.length=F4 l (i+1):=by rw[hs];simp[Jf]
     rw[hs3]
     have F:=hx;refine A5 [0,3,4,5,19] ?_;clear F
     refine cF ?_;have F:=hx;refine A5 [0,3,4] ?_;clear F
     refine eE (i+1) (Ps [some 0] [])
 · have:i=l.length:=by omega
   subst this
   have q:=Gn _ (F4 l l.length) (Nat.le_refl _) (by omega)
   unfold A9
   generalize F4 l l.length=o at*
   refine AU [0,3,4,9] ?_
   refine cF ?_;refine Ah [2] ?_ (onc 1 (bcq [0] q) noc)
   refine AW.ret (En [some 0] [])
end Go.Proofs.YtpkhodjlnodagaaGreatDoor
namespace Go.Proofs.YtpkhodjlnodagaaGreatDoor
open Go.Av
def ltS(x y:S):Prop:=Op.bytesLess x y=true
instance (x y:S):Decidable (ltS x y):=inferInstanceAs (Decidable (_=true))
theorem De: ∀ x:S,¬ ltS x x
 | []=>by simp[ltS,Op.bytesLess]
 |a::x=>by
   have:=De x
   simp only[ltS]at*
   simp[Op.bytesLess,this]
theorem ES: ∀ {x y z:S},ltS x y→ltS y z→ltS x z
 |_,[],_,h,_=>by simp[ltS,Op.bytesLess]at h
 |_,_::_,[],_,h=>by simp[ltS,Op.bytesLess]at h
 | [],_::_,_::_,_,_=>by simp[ltS,Op.bytesLess]
 |a::x,b::y,c::z,h,k=>by
   simp only[ltS,Op.bytesLess,Bool.or_eq_true,Bool.and_eq_true,decide_eq_true_eq,beq_iff_eq]at h k ⊢
   rcases h with h|⟨rfl,h⟩<;>rcases k with k|⟨rfl,k⟩
   · exact .inl (UInt8.lt_trans h k)
   · exact .inl h
   · exact .inl k
   · exact .inr ⟨rfl,ES h k⟩
theorem HO: ∀ x y:S,ltS x y∨x=y∨ltS y x
 | [],[]=> .inr (.inl rfl)
 | [],_::_=> .inl (by simp[ltS,Op.bytesLess])
 |_::_,[]=> .inr (.inr (by simp[ltS,Op.bytesLess]))
 |a::x,b::y=>by
   simp only[ltS,Op.bytesLess,Bool.or_eq_true,Bool.and_eq_true,decide_eq_true_eq,beq_iff_eq]
   have g:a<b∨a=b∨b<a:=by
     simp only[UInt8.lt_iff_toNat_lt,← UInt8.toNat_inj];omega
   rcases g with g|rfl|g
   · exact .inl (.inl g)
   · rcases HO x y with h|rfl|h
     · exact .inl (.inr ⟨rfl,h⟩)
     · exact .inr (.inl rfl)
     · exact .inr (.inr (.inr ⟨rfl,h⟩))
   · exact .inr (.inr (.inl g))
theorem JM{x y:S}(h:ltS x y): ¬ ltS y x:=fun k=>De x (ES h k)
def mrg:List S→List S→List S
 | [],b=>b
 |x::a,[]=>x::a
 |x::a,y::b=>if ltS x y then x::mrg a (y::b)else if ltS y x then y::mrg (x::a) b else x::mrg a b
termination_by a b=>a.length+b.length
theorem AbQ(a:List S):mrg a []=a:=by cases a<;>simp[mrg]
theorem DN{l:List S}{i:Nat}(h:i<l.length):l.getD i []=l[i]:=by simp[List.getD,h]
theorem HZ(a b:List S): ∀ f (s:Un),s.i≤a.length→s.k≤b.length→(a.length-s.i)+(b.length-s.k)≤f→(IE a b f s).out=s.out++mrg (a.drop s.i) (b.drop s.k)
 |0,s,h1,h2,h3=>by
   have e1:a.drop s.i=[]:=List.drop_eq_nil_of_le (by omega)
   have e2:b.drop s.k=[]:=List.drop_eq_nil_of_le (by omega)
   simp[IE,e1,e2,mrg]
 |f+1,s,h1,h2,h3=>by
   by_cases hs:s.i<a.length∨s.k<b.length
   · rw[IE,if_pos hs]
     by_cases hk:s.k=b.length
     · have hi:s.i<a.length:=by omega
       rw[FT,if_pos (.inl hk),HZ a b f _ (by simp;omega) (by simp;omega) (by simp;omega)]
       have e2:b.drop s.k=[]:=List.drop_eq_nil_of_le (by omega)
       simp only[e2,AbQ,List.drop_eq_getElem_cons hi,DN hi]
       simp
     · have hk2:s.k<b.length:=by omega
       by_cases hi:s.i=a.length
       · have e1:a.drop s.i=[]:=List.drop_eq_nil_of_le (by omega)
         rw[FT,if_neg (by omega),if_pos (.inl hi),HZ a b f _ (by simp;omega) (by simp;omega) (by simp;omega)]
         simp only[e1,mrg,List.drop_eq_getElem_cons hk2,DN hk2]
         simp
       · have hi2:s.i<a.length:=by omega
         by_cases c1:ltS a[s.i] b[s.k]
         · rw[FT,if_pos (.inr ⟨hi2,by rw[DN hi2,DN hk2];exact c1⟩),HZ a b f _ (by simp;omega) (by simp;omega) (by simp;omega)]
           simp only[List.drop_eq_getElem_cons hi2,List.drop_eq_getElem_cons hk2,mrg,if_pos c1,DN hi2]
           simp
         · have n1: ¬ (s.k=b.length∨s.i<a.length∧Op.bytesLess (a.getD s.i []) (b.getD s.k [])=true):=by
             rw[DN hi2,DN hk2];rintro(h|⟨_,h⟩)
             · omega
             · exact c1 h
           by_cases c2:ltS b[s.k] a[s.i]
           · rw[FT,if_neg n1,if_pos (.inr (by rw[DN hi2,DN hk2];exact c2)),HZ a b f _ (by simp;omega) (by simp;omega) (by simp;omega)]
             simp only[List.drop_eq_getElem_cons hi2,List.drop_eq_getElem_cons hk2,mrg,if_neg c1,if_pos c2,DN hk2]
             simp
           · have n2: ¬ (s.i=a.length∨Op.bytesLess (b.getD s.k []) (a.getD s.i [])=true):=by
               rw[DN hi2,DN hk2];rintro(h|h)
               · omega
               · exact c2 h
             rw[FT,if_neg n1,if_neg n2,HZ a b f _ (by simp;omega) (by simp;omega) (by simp;omega)]
             simp only[List.drop_eq_getElem_cons hi2,List.drop_eq_getElem_cons hk2,mrg,if_neg c1,if_neg c2,DN hi2]
             simp
   · rw[IE,if_neg hs]
     have e1:a.drop s.i=[]:=List.drop_eq_nil_of_le (by omega)
     have e2:b.drop s.k=[]:=List.drop_eq_nil_of_le (by omega)
     simp[e1,e2,mrg]
theorem AcM(a b:List S):(unF a b).out=mrg a b:=by
 have:=HZ a b (a.length+b.length) ⟨0,0,[],[],[]⟩ (by simp) (by simp) (by simp)
 simpa [unF] using this
theorem Mo(a b:List S)(z:S):z∈mrg a b↔z∈a∨z∈b:=by
 fun_induction mrg a b with
 |case1=>simp
 |case2=>simp
 |case3 x a y b h ih=>simp[ih,or_assoc]
 |case4 x a y b h k ih=>simp[ih];grind
 |case5 x a y b h k ih=>
   have:x=y:=by rcases HO x y with t|t|t<;>simp_all
   simp[ih];grind
theorem U7(a b:List S)(ha:a.Pairwise ltS)(hb:b.Pairwise ltS):(mrg a b).Pairwise ltS:=by
 fun_induction mrg a b with
 |case1=>exact hb
 |case2=>exact ha
 |case3 x a y b h ih=>
   rw[List.pairwise_cons]at ha ⊢
   have hb':=List.pairwise_cons.1 hb
   refine⟨fun z hz=>?_,ih ha.2 hb⟩
   rcases(Mo _ _ _).1 hz with hz|hz
   · exact ha.1 z hz
   · rcases List.mem_cons.1 hz with rfl|hz
     · exact h
     · exact ES h (hb'.1 z hz)
 |case4 x a y b h k ih=>
   have ha':=List.pairwise_cons.1 ha
   rw[List.pairwise_cons]at hb ⊢
   refine⟨fun z hz=>?_,ih ha hb.2⟩
   rcases(Mo _ _ _).1 hz with hz|hz
   · rcases List.mem_cons.1 hz with rfl|hz
     · exact k
     · exact ES k (ha'.1 z hz)
   · exact hb.1 z hz
 |case5 x a y b h k ih=>
   have:x=y:=by rcases HO x y with t|t|t<;>simp_all
   subst this
   rw[List.pairwise_cons]at ha hb ⊢
   refine⟨fun z hz=>?_,ih ha.2 hb.2⟩
   rcases(Mo _ _ _).1 hz with hz|hz
   · exact ha.1 z hz
   · exact hb.1 z hz
theorem Sf: ∀ (n:Nat) (l:List S),l.length≤n→(Bi l).Pairwise ltS∧ ∀ z,z∈Bi l↔z∈l:=by
 intro n
 induction n with
 |zero=>intro l h;rw[JX l (by omega)];have:l=[]:=List.length_eq_zero_iff.1 (by omega);simp[this]
 |succ n ih=>
   intro l h
   by_cases hl:l.length<2
   · rw[JX l hl]
     match l,hl with
     | [],_=>simp
     | [x],_=>simp
     |_::_::_,h=>simp at h;omega
   · rw[R1 l hl,AcM]
     have h1:=ih (l.take (l.length / 2)) (by simp;omega)
     have h2:=ih (l.drop (l.length / 2)) (by simp;omega)
     refine⟨U7 _ _ h1.1 h2.1,fun z=>?_⟩
     rw[Mo,h1.2,h2.2,← List.mem_append,List.take_append_drop]
theorem B2(l:List S):(Bi l).Pairwise ltS:=(Sf _ l (Nat.le_refl _)).1
theorem C5(l:List S)(z:S):z∈Bi l↔z∈l:=(Sf _ l (Nat.le_refl _)).2 z
theorem Hl: ∀ l:List S,l.Pairwise ltS→IN l=false
 | [],_=>rfl
 | [_],_=>rfl
 |a::b::r,h=>by
   rw[List.pairwise_cons]at h
   have h1:=h.1 b (by simp)
   have h2:=JM h1
   have h3:b≠a:=fun e=>De a (e ▸ h1)
   simp only[ltS,Bool.not_eq_true]at h2
   simp[IN,leS,h2,h3,Hl (b::r) h.2]
theorem Nj(d:List S)(w:S)(hd:d.Pairwise ltS): ∀ f a b,b≤d.length→b-a≤f→a≤b→(∀ i (h:i<d.length),i<a→ltS d[i] w)→(∀ i (h:i<d.length),b≤i→ ¬ ltS d[i] w)→
   Fo d w f a b≤b∧(∀ i (h:i<d.length),i<Fo d w f a b→ltS d[i] w)∧(∀ i (h:i<d.length),Fo d w f a b≤i→ ¬ ltS d[i] w)
 |0,a,b,h0,h1,h2,h3,h4=>by
   have:a=b:=by omega
   subst this
   exact⟨Nat.le_refl _,h3,h4⟩
 |f+1,a,b,h0,h1,h2,h3,h4=>by
   have hp:=List.pairwise_iff_getElem.1 hd
   rw[Fo]
   by_cases hab:a<b
   · rw[if_pos hab]
     have hm:(a+b) / 2<d.length:=by omega
     rw[DN hm]
     by_cases c:Op.bytesLess d[(a+b) / 2] w=true
     · rw[if_pos c]
       refine Nj d w hd f _ b h0 (by omega) (by omega) (fun i h hi=>?_) h4
       by_cases e:i=(a+b) / 2
       · subst e;exact c
       · exact ES (hp i _ h hm (by omega)) c
     · rw[if_neg c]
       have:=Nj d w hd f a ((a+b) / 2) (by omega) (by omega) (by omega) h3 (fun i h hi hlt=>?_)
       · exact⟨by omega,this.2⟩
       · by_cases e:i=(a+b) / 2
         · subst e;exact c hlt
         · exact c (ES (hp _ i hm h (by omega)) hlt)
   · rw[if_neg hab]
     have:a=b:=by omega
     subst this
     exact⟨Nat.le_refl _,h3,h4⟩
theorem Fm(d:List S)(w:S)(hd:d.Pairwise ltS)(hw:w∈d):d[CZ d w]? =some w∧CZ d w<d.length:=by
 obtain⟨h1,h2,h3⟩:=Nj d w hd d.length 0 d.length (Nat.le_refl _) (by omega) (by omega) (fun i h hi=>by omega) (fun i h hi=>by omega)
 obtain⟨p,hp,rfl⟩:=List.getElem_of_mem hw
 have hr:Fo d d[p] d.length 0 d.length=p:=by
   rcases Nat.lt_trichotomy (Fo d d[p] d.length 0 d.length) p with h|h|h
   · exact absurd (List.pairwise_iff_getElem.1 hd _ _ (by omega) hp h) (h3 _ (by omega) (Nat.le_refl _))
   · exact h
   · exact absurd (h2 p hp h) (De _)
 unfold CZ
 rw[hr]
 exact⟨List.getElem?_eq_getElem hp,hp⟩
end Go.Proofs.YtpkhodjlnodagaaGreatDoor
namespace Go.Proofs.YtpkhodjlnodagaaGreatDoor
open Go.Av
set_option maxHeartbeats 4000000
attribute [local irreducible] Af
def Pd(fs:List Fl)(n:S):Option Fl:=fs.find? fun f=>f.name==n
def Pu(fs:List Fl)(n:S):AV:=match Pd fs n with
 |some f=> .tup [str f.val,B true]
 |none=> .tup [str [],B false]
theorem UK{α:Type}{p:α→Bool}{l:List α}{i:Nat}(hi:i<l.length)(h: ∀ x∈l.take i,p x=false)(hp:p l[i]=true):l.find? p=some l[i]:=by
 have e:l=l.take i++l[i]::l.drop (i+1):=by simp
 have h2:(l.take i).find? p=none:=by simp only[List.find?_eq_none];intro x hx;simp[h x hx]
 conv=>lhs;rw[e]
 rw[List.find?_append,h2,List.find?_cons_of_pos (by simpa using hp)];rfl
theorem Agk(fs:List Fl)(n:S)(hf:fs.length≤2^30):Af Tryz.prog 95 [.sl 2 (flE fs),str n] [] (Pu fs n) []:=by
 refine acN 25 0 Tryz.func95 fun C hN hk=>?_
 refine Ah [0,1] ?_
 refine Ah [0,1,6] ?_
 refine lpF hk 0 (fun i:Nat=>⟨[(0,.sl 2 (flE fs)),(1,str n),(6,I i)],[]⟩) (fun i=>i≤fs.length∧ ∀ x∈fs.take i,(x.name==n)=false) (fun i=>fs.length-i) 0 (Ps [] []) ?_
 rintro i ⟨h1,h2⟩
 by_cases hi:i<fs.length
 · have hx:=List.getElem?_eq_getElem hi
   rcases dqB (fs[i].name==n)with e|e
   · have hg:Pu fs n= .tup [str fs[i].val,B true]:=by
       unfold Pu Pd;rw[UK hi h2 (by exact e)]
     rw[hg]
     generalize fs[i]=f at*
     have F:=And.intro hx e;refine A5 [0,1,6,10] ?_;clear F
     refine cT ?_;have F:=And.intro hx e;refine A5 [0,1,6,19] ?_;clear F
     refine cT ?_;have F:=And.intro hx e;refine AB [4,5] ?_;clear F
     refine AW.ret (En [] [])
   · have h3: ∀ x∈fs.take (i+1),(x.name==n)=false:=by
       rw[List.take_add_one,hx]
       intro x hx
       rcases List.mem_append.1 hx with hx|hx
       · exact h2 x hx
       · simp at hx;rw[hx];exact e
     generalize fs[i]=f at*
     have F:=And.intro hx e;refine A5 [0,1,6,10] ?_;clear F
     refine cT ?_;have F:=And.intro hx e;refine A5 [0,1,6,19] ?_;clear F
     refine cF ?_;have F:=And.intro hx e;refine A5 [0,1,6] ?_;clear F
     refine eE (i+1) (Ps [] [])
 · have:i=fs.length:=by omega
   subst this
   rw[List.take_length]at h2
   have hg:Pu fs n= .tup [str [],B false]:=by
     unfold Pu Pd
     rw[List.find?_eq_none.2 (fun x hx=>by simp[h2 x hx])]
   rw[hg]
   refine AU [0,1,6,10] ?_
   refine cF ?_;refine Ah [4,5] ?_
   refine AW.ret (En [] [])
def Cf(l:List Ev)(n:S):Nat→List Int×List S
 |0=>([],[])
 |i+1=>match l[i]? with
   |some e=>match Pd e.fields n with
     |some f=>((Cf l n i).1++[(i:Int)],(Cf l n i).2++[f.val])
     |none=>Cf l n i
   |none=>Cf l n i
theorem GY(l:List Ev)(n:S): ∀ i,(Cf l n i).1.length≤i∧(Cf l n i).2.length≤i
 |0=>by simp[Cf]
 |i+1=>by
   have:=GY l n i
   unfold Cf
   split
   · split
     · simp;omega
     · omega
   · omega
theorem Yb(l:List Ev)(n:S)(hl:l.length≤4096)(hf: ∀ e∈l,EvT e):Af Tryz.prog 160 [.sl 10 (evE l),str n] []
   (.tup [.osl 0 (Cf l n l.length).1.length 1,.osl 1 (Cf l n l.length).2.length 1]) [some ⟨3,1,Ak (Cf l n l.length).1⟩,some ⟨9,1,Ay (Cf l n l.length).2⟩]:=by
 refine acN 38 0 Tryz.func160 fun C hN hk=>?_
 refine Ah [0,1] ?_
 refine Ah [0,1,6] ?_
 refine Ah [0,1,6,7] ?_
 refine Ah [0,1,6,7,8] ?_
 refine lpF hk 2 (fun i:Nat=>⟨[(0,.sl 10 (evE l)),(1,str n),(6,.osl 0 (Cf l n i).1.length 1),(7,.osl 1 (Cf l n i).2.length 1),(8,I i)],[(0,some ⟨3,1,Ak (Cf l n i).1⟩),(1,some ⟨9,1,Ay (Cf l n i).2⟩)]⟩) (fun i=>i≤l.length) (fun i=>l.length-i) 0 (Cy [none,none] [] (by simp[AR,wk,wkL,wkE,lk,I,str,B,U8,U64,U32,Cf]<;>omega) (by first|(simp[Am,Ai,Aj,lkh,Cf];done)|(simp[Am,Ai,Aj,lkh,AE,AO,I,str,Cf];done)|simp[Am,Ai,Aj,wkL,wk,wkE,lkh,I,str,Cf])) ?_
 intro i h1
 have hv:=GY l n i
 by_cases hi:i<l.length
 · have hx:=List.getElem?_eq_getElem hi
   have he:=hf _ (List.getElem_mem hi)
   have hnf:=he.nf
   have q:=Agk l[i].fields n (by omega)
   have hs:Cf l n (i+1)=match Pd l[i].fields n with|some f=>((Cf l n i).1++[(i:Int)],(Cf l n i).2++[f.val])|none=>Cf l n i:=by rw[Cf,hx]
   unfold Pu at q
   generalize l[i]=e at*
   generalize Cf l n i=z at*
   obtain⟨a,b⟩:=z
   simp only at hv
   cases hg:Pd e.fields n with
   |some f=>
     simp only[hg]at q hs
     have F:=hx;refine A5 [0,1,6,7,8,14] ?_;clear F
     refine cT ?_;refine Dw [0,1,6,7,8,9,10] ?_ (onc 6 (pcq q) noc)
     refine Dw [0,1,6,7,8,9,27] ?_
     refine cT ?_;refine Dw [0,1,6,7,8] ?_
     have F:=hx;refine A5 [0,1,6,7,8] ?_;clear F
     refine eE (i+1) (HD [some 0,some 1] [])
   |none=>
     simp only[hg]at q hs
     have F:=hx;refine A5 [0,1,6,7,8,14] ?_;clear F
     refine cT ?_;refine Dw [0,1,6,7,8,9,10] ?_ (onc 6 (pcq q) noc)
     refine Dw [0,1,6,7,8,9,27] ?_
     refine cF ?_;have F:=hx;refine A5 [0,1,6,7,8] ?_;clear F
     refine eE (i+1) (HD [some 0,some 1] [])
 · have:i=l.length:=by omega
   subst this
   generalize Cf l n l.length=z at*
   refine AU [0,1,6,7,8,14] ?_
   refine cF ?_;refine Ah [4,5] ?_
   refine AW.ret (En [some 0,some 1] [])
def CY(e:Ev)(k:Nat):Int:=if k=1 then e.host else if k=2 then e.file else if k=3 then e.frm else if k=4 then e.to else if k=5 then e.time else e.weight
theorem Z1(e:Ev)(k:Nat)(h1:1≤k)(h6:k≤6):Af Tryz.prog 109 [.agg (evC e),I k] [] (I (CY e k)) []:=by
 refine acN 28 0 Tryz.func109 fun C hN hk=>?_
 obtain rfl|rfl|rfl|rfl|rfl|rfl:k=1∨k=2∨k=3∨k=4∨k=5∨k=6:=by omega
 · refine Ah [1,2] ?_
   refine Ah [2,5] ?_
   refine AU [2,5,6] ?_;refine cT ?_;refine Ah [4] ?_
   refine AW.ret (B0 [] [] rfl (by simp[Ax,lk,lkh,wk,wkL,wkE,I,str,B,U8,U64,U32,CY]<;>omega) (by first|(simp[Am,Ai,Aj,lkh,CY];done)|(simp[Am,Ai,Aj,lkh,AE,AO,I,str,CY];done)|simp[Am,Ai,Aj,wkL,wk,wkE,lkh,I,str,CY]))
 · refine Ah [1,2] ?_
   refine Ah [2,5] ?_
   refine AU [2,5,6] ?_;refine cF ?_;refine AU [2,5,10] ?_;refine cT ?_;refine Ah [4] ?_
   refine AW.ret (B0 [] [] rfl (by simp[Ax,lk,lkh,wk,wkL,wkE,I,str,B,U8,U64,U32,CY]<;>omega) (by first|(simp[Am,Ai,Aj,lkh,CY];done)|(simp[Am,Ai,Aj,lkh,AE,AO,I,str,CY];done)|simp[Am,Ai,Aj,wkL,wk,wkE,lkh,I,str,CY]))
 · refine Ah [1,2] ?_
   refine Ah [2,5] ?_
   refine AU [2,5,6] ?_;refine cF ?_;refine AU [2,5,10] ?_;refine cF ?_;refine AU [2,5,14] ?_;refine cT ?_;refine Ah [4] ?_
   refine AW.ret (B0 [] [] rfl (by simp[Ax,lk,lkh,wk,wkL,wkE,I,str,B,U8,U64,U32,CY]<;>omega) (by first|(simp[Am,Ai,Aj,lkh,CY];done)|(simp[Am,Ai,Aj,lkh,AE,AO,I,str,CY];done)|simp[Am,Ai,Aj,wkL,wk,wkE,lkh,I,str,CY]))
 · refine Ah [1,2] ?_
   refine Ah [2,5] ?_
   refine AU [2,5,6] ?_;refine cF ?_;refine AU [2,5,10] ?_;refine cF ?_;refine AU [2,5,14] ?_;refine cF ?_;refine AU [2,5,18] ?_;refine cT ?_;refine Ah [4] ?_
   refine AW.ret (B0 [] [] rfl (by simp[Ax,lk,lkh,wk,wkL,wkE,I,str,B,U8,U64,U32,CY]<;>omega) (by first|(simp[Am,Ai,Aj,lkh,CY];done)|(simp[Am,Ai,Aj,lkh,AE,AO,I,str,CY];done)|simp[Am,Ai,Aj,wkL,wk,wkE,lkh,I,str,CY]))
 · refine Ah [1,2] ?_
   refine Ah [2,5] ?_
   refine AU [2,5,6] ?_;refine cF ?_;refine AU [2,5,10] ?_;refine cF ?_;refine AU [2,5,14] ?_;refine cF ?_;refine AU [2,5,18] ?_;refine cF ?_;refine AU [2,22] ?_;refine cT ?_;refine Ah [4] ?_
   refine AW.ret (B0 [] [] rfl (by simp[Ax,lk,lkh,wk,wkL,wkE,I,str,B,U8,U64,U32,CY]<;>omega) (by first|(simp[Am,Ai,Aj,lkh,CY];done)|(simp[Am,Ai,Aj,lkh,AE,AO,I,str,CY];done)|simp[Am,Ai,Aj,wkL,wk,wkE,lkh,I,str,CY]))
 · refine Ah [1,2] ?_
   refine Ah [2,5] ?_
   refine AU [2,5,6] ?_;refine cF ?_;refine AU [2,5,10] ?_;refine cF ?_;refine AU [2,5,14] ?_;refine cF ?_;refine AU [2,5,18] ?_;refine cF ?_;refine AU [2,22] ?_;refine cF ?_;refine Ah [4] ?_
   refine AW.ret (B0 [] [] rfl (by simp[Ax,lk,lkh,wk,wkL,wkE,I,str,B,U8,U64,U32,CY]<;>omega) (by first|(simp[Am,Ai,Aj,lkh,CY];done)|(simp[Am,Ai,Aj,lkh,AE,AO,I,str,CY];done)|simp[Am,Ai,Aj,wkL,wk,wkE,lkh,I,str,CY]))
theorem Gb(l:List S)(h1:l.length≤32768)(h2: ∀ s∈l,s.length≤2048):A6 (Bi l)=0:=by
 have:=Do l
 have h3:Ey (Bi l)=false:=by
   unfold Ey
   rw[List.any_eq_false]
   intro x hx
   have:=h2 x ((C5 l x).1 hx)
   simp;omega
 unfold A6
 rw[if_neg (by omega),h3,Hl _ (B2 l)]
 simp
theorem E2(d:List S)(h:A6 d=0):Ey d=false∧d.length≤32768:=by
 unfold A6 at h
 split at h
 · simp at h
 · split at h
   · simp at h
   · next h1 h2=>exact⟨by simpa using h2,by omega⟩
theorem FF(d:List S)(h:A6 d=0):(AG d).length≤11+d.length*2070:=E3 d (E2 d h).1 _ (Nat.le_refl _)
theorem Nn(d:List S)(h:A6 d=0): ∀ s∈d,s.length≤2^40:=by
 have h1:=(E2 d h).1
 unfold Ey at h1
 rw[List.any_eq_false]at h1
 intro s hs
 have:=h1 s hs
 simp at this;omega
theorem Db(x:List UInt8):(AF x).length≤x.length+11:=by
 have:=Bh x.length
 simp only[AF,List.length_append];omega
theorem Hf(v:List Int)(hl:v.length≤16384):(BF v).length≤24+v.length*22:=PH v _ (JJ v 3) hl
def DW(ts:List S)(i:Nat):List Int:=(ts.take i).map fun t=>(CZ (Bi ts) t:Int)
theorem Ade(ts:List S)(i:Nat)(h:i<ts.length):DW ts (i+1)=DW ts i++[(CZ (Bi ts) ts[i]:Int)]:=by
 unfold DW
 rw[List.take_add_one,List.getElem?_eq_getElem h]
 simp only[Option.toList,List.map_append,List.map_cons,List.map_nil]
def ixF(ts:List S):List UInt8:=AF (AG (Bi ts))++AF (BF (DW ts ts.length))
theorem Mc(ts:List S)(hl:ts.length≤4096)(hs: ∀ s∈ts,s.length≤2048):Af Tryz.prog 104 [.sl 1 (Ay ts)] [] (.osl 0 (ixF ts).length 1) [some ⟨5,1,Ab (ixF ts)⟩]:=by
 refine acN 35 0 Tryz.func104 fun C hN hk=>?_
 have hc:=Gb ts (by omega) hs
 have hdl:=Do ts
 have q0:=Gn _ ts (Nat.le_refl _) (by omega)
 have q1:=Jj (Bi ts) hc (by omega) (Nn _ hc)
 have hel:=FF _ hc
 have q2:=JN (AG (Bi ts)) (by omega)
 have hbl:=Db (AG (Bi ts))
 have qi:=fun w=>Rf (Bi ts) w (by omega)
 have hss:=Ade ts
 have h0:DW ts 0=[]:=rfl
 have hlen: ∀ i,(DW ts i).length≤i:=by intro i;simp[DW];omega
 unfold ixF
 generalize DW ts=ix at*
 generalize AF (AG (Bi ts))=bl at*
 generalize AG (Bi ts)=en at*
 generalize Bi ts=d at*
 refine Ah [0] ?_
 refine Ah [0,3] ?_ (onc 1 (pcq q0) noc)
 refine Ah [0,3,4] ?_
 refine Ah [0,3,4,5] ?_
 clear q0
 refine nx ?_
 refine lpF hk 2 (fun i:Nat=>⟨[(0,.sl 1 (Ay ts)),(3,.osl 0 d.length 1),(4,.osl 1 (ix i).length 1),(5,I i)],[(0,some ⟨9,1,Ay d⟩),(1,some ⟨3,1,Ak (ix i)⟩)]⟩) (fun i=>i≤ts.length) (fun i=>ts.length-i) 0 (Fb h0 [some 0,none] []) ?_
 intro i h1
 have hli:=hlen i
 by_cases hi:i<ts.length
 · have hx:=List.getElem?_eq_getElem hi
   have hs':=hss i hi
   have q3:=qi ts[i]
   generalize CZ d ts[i]=k at*
   generalize C2 d ts[i]=kb at*
   generalize ts[i]=t at*
   generalize ix i=o at*
   have F:=hx;refine A5 [0,3,4,5,13] ?_;clear F
   refine cT ?_;refine Dw [0,3,4,5,6] ?_ (onc 5 (bcq [0] q3) noc)
   refine Dw [0,3,4,5] ?_
   have F:=hx;refine A5 [0,3,4,5] ?_;clear F
   refine eE (i+1) (Fb hs' [some 0,some 1] [])
 · have:i=ts.length:=by omega
   subst this
   have q3:=HW (ix ts.length) (by omega)
   have hcl:=Hf (ix ts.length) (by omega)
   have q4:=HK bl (BF (ix ts.length)) (by omega) (by omega)
   have hb2:=Db (BF (ix ts.length))
   generalize AF (BF (ix ts.length))=b2 at*
   generalize BF (ix ts.length)=cl at*
   generalize ix ts.length=o at*
   refine AU [0,3,4,5,13] ?_
   refine cF ?_;refine nx ?_;refine rG hN hk (onc 1 (bcq [0] q1) (onc 2 (bcq [10] q2) (onc 4 (bcq [1] q3) (onc 5 (M8 18 [34] q4) noc)))) [] [2] fun K hK=>?_;simp only[go_sem,seval];refine obK (hK _ _ ?_)
   clear hK K;refine nx ?_
   refine AW.ret (En [some 0] [])
def HN(e:Ev)(i:Nat):List S:=CG (B4 e)++(e.fields.take i).map fun f=>f.name++[61]++f.val
theorem AeT(e:Ev)(i:Nat)(h:i<e.fields.length):HN e (i+1)=HN e i++[e.fields[i].name++[61]++e.fields[i].val]:=by
 unfold HN
 rw[List.take_add_one,List.getElem?_eq_getElem h]
 simp only[Option.toList,List.map_append,List.map_cons,List.map_nil,List.append_assoc]
def HF(e:Ev):List S:=Bi (HN e e.fields.length)
theorem AcX(e:Ev)(he:EvT e):Af Tryz.prog 162 [.agg (evC e)] [] (.osl 0 (HF e).length 1) [some ⟨9,1,Ay (HF e)⟩]:=by
 refine acN 39 0 Tryz.func162 fun C hN hk=>?_
 have q0:=Rn e he.nl he.tx
 have hw:=FG (B4 e)
 have ht:=Ha e he
 have q1:=OY (B4 e) (by omega)
 have hnf:=he.nf
 have h0:HN e 0=CG (B4 e):=by simp[HN]
 have hlen: ∀ i,(HN e i).length≤80041+i:=by intro i;simp[HN];omega
 have hss:=AeT e
 unfold HF
 generalize CG (B4 e)=ws at*
 generalize HN e=tr at*
 refine Ah [1] ?_
 refine Ah [1,3] ?_ (onc 1 (pcq q0) (onc 2 (pcq q1) noc))
 refine Ah [1,3,4] ?_
 clear q0 q1
 refine nx ?_
 refine lpF hk 2 (fun i:Nat=>⟨[(1,.ptr 0 10 0 0),(3,.osl 1 (tr i).length 1),(4,I i)],[(0,some ⟨56,10,[evC e]⟩),(1,some ⟨9,1,Ay (tr i)⟩)]⟩) (fun i=>i≤e.fields.length) (fun i=>e.fields.length-i) 0 (Fb (And.intro h0 evC.eq_1) [some 0,some 1] []) ?_
 intro i h1
 have hli:=hlen i
 by_cases hi:i<e.fields.length
 · have hx:=List.getElem?_eq_getElem hi
   have hs':=hss i hi
   have hv:=he.fv _ (List.getElem_mem hi)
   generalize e.fields[i]=f at*
   generalize tr i=o at*
   have hlf:(f.name++[61]++f.val).length≤2048:=by simp;omega
   have hlf2:=OL (a:=((f.name++[61]++f.val).length:Int)) (b:=2048) (by omega)
   have F:=hx;refine A5 [1,3,4,13] ?_;clear F
   refine cT ?_;have F:=hx;refine DV [1,3,4,5] ?_;clear F
   have F:=hx;refine A5 [1,3,4,5,32] ?_;clear F
   refine cT ?_;refine Dw [1,3,4] ?_
   have F:=hx;refine A5 [1,3,4] ?_;clear F
   refine eE (i+1) (Fb (And.intro hs' evC.eq_1) [some 0,some 1] [])
 · have:i=e.fields.length:=by omega
   subst this
   have hli:=hlen e.fields.length
   generalize tr e.fields.length=o at*
   have q:=Gn _ o (Nat.le_refl _) (by omega)
   refine AU [1,3,4,13] ?_
   refine cF ?_;refine Ah [2] ?_ (onc 1 (bcq [1] q) noc)
   refine AW.ret (En [some 0] [])
end Go.Proofs.YtpkhodjlnodagaaGreatDoor
