/- Part 24 of the proof of PlanSkipsOnlyWhatCannotMatch. -/
import Derived.Test.YtpkhodjlnodagaaGreatDoorB04
import Derived.Test.YtpkhodjlnodagaaGreatDoorB23
set_option linter.unusedSimpArgs false
set_option linter.unusedVariables false
set_option linter.unusedSectionVars false
namespace Go.Proofs.YtpkhodjlnodagaaGreatDoor
open Go.Av
set_option maxHeartbeats 4000000
attribute [local irreducible] Ad
def AE(x:List UInt8):List UInt8:=Ap x.length++x
theorem H1(b x:List UInt8)(hb:b.length≤2^40)(hx:x.length≤2^40):
   Ad Tryz.prog 158 [.osl 0 b.length 1,.sl 1 (Ab x)] [some ⟨5,1,Ab b⟩] (.osl 1 (b++AE x).length 1) [none,some ⟨5,1,Ab (b++AE x)⟩]:=by
 refine acN 12 1 Tryz.func158 fun C hN hk=>?_
 have q:=Db b x.length oM hb
 have:=Bf x.length
 have e:b++AE x=b++Ap x.length++x:=by simp[AE]
 rw[e]
 generalize Ap x.length=v at*
 refine Af [0,1] ?_ noc [0]
 refine AL [4] ?_ (onc 4 (ocq 0 q) noc) [0]
 refine AW.ret (D6 [some 0,some 1] [])
theorem JJ(x:List UInt8)(hx:x.length≤2^40):
   Ad Tryz.prog 158 [.val (.slice none 0 0),.sl 1 (Ab x)] [] (.osl 0 (AE x).length 1) [some ⟨5,1,Ab (AE x)⟩]:=by
 refine acN 12 0 Tryz.func158 fun C hN hk=>?_
 have q:=KG x.length oM
 have:=Bf x.length
 unfold AE
 generalize Ap x.length=v at*
 refine Af [0,1] ?_
 refine AL [4] ?_ (onc 4 (pcq q) noc)
 refine AW.ret (D6 [some 0] [])
theorem H5(v:List Int)(hl:v.length≤16384):Ad Tryz.prog 110 [.sl 1 (An v)] [] (.osl 0 (AZ v).length 1) [some ⟨5,1,Ab (AZ v)⟩]:=by
 refine acN 11 0 Tryz.func110 fun C hN hk=>?_
 have q:=AaQ v hl
 refine Af [0] ?_
 refine Af [3] ?_ (onc 1 (pcq q) noc)
 refine Af [2] ?_
 refine AW.ret (D6 [some 0] [])
theorem I8(d:List S)(hc:Bb d=0)(hd:d.length≤2^40)(hs: ∀ s∈d,s.length≤2^40):Ad Tryz.prog 159 [.sl 1 (Au d)] [] (.osl 0 (AM d).length 1) [some ⟨5,1,Ab (AM d)⟩]:=by
 refine acN 11 0 Tryz.func159 fun C hN hk=>?_
 have q:=Se d hd hs
 simp only[KC,hc,if_true]at q
 refine Af [0] ?_
 refine Af [3] ?_ (onc 1 (pcq q) noc)
 refine Af [2] ?_
 refine AW.ret (D6 [some 0] [])
theorem N8(l:List Int)(hp:Post l):Ad Tryz.prog 161 [.sl 1 (An l)] [] (.osl 0 (Bt l).length 1) [some ⟨5,1,Ab (Bt l)⟩]:=by
 refine acN 11 0 Tryz.func161 fun C hN hk=>?_
 have q:=R8 l hp
 refine Af [0] ?_
 refine Af [3] ?_ (onc 1 (pcq q) noc)
 refine Af [2] ?_
 refine AW.ret (D6 [some 0] [])
def Bs(v:Nat):Nat→List UInt8
 |0=>[]
 |k+1=>UInt8.ofNat (v / 2^(8*k)%256)::Bs v k
theorem Ck(v:Nat): ∀ k,(Bs v k).length=k
 |0=>rfl
 |k+1=>by simp[Bs,Ck v k]
theorem Aes(a k:Nat):(a:Int).fdiv (2^k)=((a / 2^k:Nat):Int):=by
 rw[Int.fdiv_eq_ediv_of_nonneg _ (Int.pow_nonneg dC)]
 push_cast
 rfl
theorem Mt(b:List UInt8)(v w:Nat)(hb:b.length≤2^40)(hw:w≤8):
   Ad Tryz.prog 57 [.osl 0 b.length 1,U64 v,I w] [some ⟨5,1,Ab b⟩] (.osl 1 (b++Bs v w).length 1) [none,some ⟨5,1,Ab (b++Bs v w)⟩]:=by
 refine acN 23 1 Tryz.func57 fun C hN hk=>?_
 refine Af [0,1,2] ?_ noc [0]
 refine AL [0,1,7] ?_ noc [0]
 refine lpF hk 2 (fun z:Nat×List UInt8=>⟨[(0,.osl 1 z.2.length 1),(1,U64 v),(7,I ((z.1:Int)-1))],[(0,none),(1,some ⟨5,1,Ab z.2⟩)]⟩) (fun z=>z.1≤w∧z.2.length+z.1=b.length+w∧z.2++Bs v z.1=b++Bs v w) (fun z=>z.1) (w,b) (KJ [some 0,some 0] []) ?_
 intro ⟨m,d⟩ ⟨h1,h2,h3⟩
 simp only at h1 h2 h3
 cases m with
 |zero=>
   have e:d=b++Bs v w:=by simpa [Bs] using h3
   refine AL [0,1,7,11] ?_ noc [0];refine cF ?_;refine Af [6] ?_ noc [0]
   refine AW.ret (BY [some 0,some 1] [] rfl (by simp[Az,lk,lkh,wk,wkL,wkE,I,str,B,U8,U64,U32,e]<;>omega) (by first|(simp[Am,Ai,Ak,lkh,e];done)|(simp[Am,Ai,Ak,lkh,AF,AN,I,str,e];done)|simp[Am,Ai,Ak,wkL,wk,wkE,lkh,I,str,e]))
 |succ k=>
   have e1:((((k+1:Nat):Int)-1))=k:=by omega
   rw[e1]
   have e2:((8*(k:Int))).toNat=8*k:=by omega
   have e3:(v:Int).fdiv (2^min (8*k) 64)=((v / 2^(8*k):Nat):Int):=by
     rw[Nat.min_eq_left oM];exact Aes v (8*k)
   have e4:IntKind.u8.wrap ((v / 2^(8*k):Nat):Int)=((UInt8.ofNat (v / 2^(8*k)%256)).toNat:Int):=by
     rw[IW];simp
   have h4:(d++[UInt8.ofNat (v / 2^(8*k)%256)])++Bs v k=b++Bs v w:=by simpa [Bs] using h3
   refine AL [0,1,7,11] ?_ noc [0];refine cT ?_;refine nx ?_;refine rG hN hk noc [0] [0,1,7] fun K hK=>?_;simp only[go_sem,seval]
   try simp (disch:=omega) only[au,e2,e3,e4]
   (first|with_reducible refine hK _ _ ?_|refine obK (hK _ _ ?_));clear hK K;refine AL [0,1,7] ?_ noc [0]
   refine eE ((k,d++[UInt8.ofNat (v / 2^(8*k)%256)])) (KJ [some 0,some 1] [])
def Ej(l:List UInt8):Nat:=l.foldl (fun v b=>v*256+b.toNat) 0
theorem Abm(l:List UInt8): ∀ v,l.foldl (fun v b=>v*256+b.toNat) v<(v+1)*256^l.length:=by
 induction l with
 |nil=>intro v;simp
 |cons b r ih=>
   intro v
   have:=ih (v*256+b.toNat)
   have hb:=b.toNat_lt
   simp only[List.foldl_cons,List.length_cons,Nat.pow_succ]
   refine Nat.lt_of_lt_of_le this ?_
   rw[Nat.mul_comm (256^r.length) 256,← Nat.mul_assoc]
   exact Nat.mul_le_mul_right _ oM
theorem Pc(l:List UInt8)(b:UInt8):Ej (l++[b])=Ej l*256+b.toNat:=by simp[Ej]
theorem SP(l:List UInt8):Ej l<256^l.length:=by simpa [Ej] using Abm l 0
theorem AbO(a b:Nat)(ha:a<2^56)(hb:b<256):AP .or .u64 ((a:Int)*256) b=((a*256+b:Nat):Int):=by
 have e1:(BitVec.ofInt 64 ((a:Int)*256)).toNat=a*256:=by
   rw[BitVec.toNat_ofInt];omega
 have e2:(BitVec.ofInt 64 (b:Int)).toNat=b:=by
   rw[BitVec.toNat_ofInt];omega
 have e3:a*256 ||| b=a*256+b:=by
   have:=Nat.shiftLeft_add_eq_or_of_lt (show b<2^8 by omega) a
   rw[Nat.shiftLeft_eq]at this
   exact this.symm
 show IntKind.u64.wrap ((BitVec.ofInt 64 ((a:Int)*256) ||| BitVec.ofInt 64 (b:Int)).toNat:Int)=_
 rw[BitVec.toNat_or,e1,e2,e3]
 exact Fp oM
theorem AgP(l:List UInt8)(hl:l.length≤8):Ad Tryz.prog 22 [.sl 1 (Ab l)] [] (U64 (Ej l)) []:=by
 refine acN 20 0 Tryz.func22 fun C hN hk=>?_
 refine Af [0] ?_
 refine Af [0,3] ?_
 refine Af [0,3,4] ?_
 refine lpF hk 0 (fun i:Nat=>⟨[(0,.sl 1 (Ab l)),(3,U64 (Ej (l.take i))),(4,I i)],[]⟩) (fun i=>i≤l.length) (fun i=>l.length-i) 0 (Fm Ej.eq_1 [] []) ?_
 intro i h1
 by_cases hi:i<l.length
 · have hx:=List.getElem?_eq_getElem hi
   have h2:=SP (l.take i)
   have h3:256^(l.take i).length≤256^7:=Nat.pow_le_pow_right oM sO
   have h4:Ej (l.take (i+1))=Ej (l.take i)*256+l[i].toNat:=by rw[← Pc];simp[List.take_append_getElem]
   have h5:=AbO (Ej (l.take i)) l[i].toNat oM l[i].toNat_lt
   have h6:=l[i].toNat_lt
   generalize Ej (l.take i)=v at*
   generalize l[i]=b at*
   have e1:(2:Int)^min 8 64=256:=by decide
   refine AL [0,3,4,8] ?_
   refine cT ?_;refine nx ?_;refine rG hN hk noc [] [0,3,4] fun K hK=>?_;simp only[go_sem,seval,hx]
   try simp (disch:=omega) only[au,e1,h5]
   (first|with_reducible refine hK _ _ ?_|refine obK (hK _ _ ?_));clear hK K;refine AL [0,3,4] ?_
   refine eE (i+1) (Fm h4 [] [])
 · have:i=l.length:=by omega
   subst this
   simp only[List.take_length]
   refine AL [0,3,4,8] ?_
   refine cF ?_;refine Af [2] ?_
   refine AW.ret (D6 [] [])
theorem QN(l:List UInt8)(hl:l.length≤2^40):Ad Tryz.prog 23 [.sl 1 (Ab l)] [] (U32 (Dq l)) []:=(Ag4 l hl).toA
def Hh(ls:List Ln):Nat→S
 |0=>[]
 |i+1=>Hh ls i++(if 0<i then [10]else [])++(match ls[i]? with|some x=>x.text|none=>[])
def BH(e:Ev):S:=Hh e.lines e.lines.length
theorem NY(ls:List Ln)(h: ∀ x∈ls,x.text.length≤2000): ∀ i,(Hh ls i).length≤i*2001
 |0=>by simp[Hh]
 |i+1=>by
   have:=NY ls h i
   simp only[Hh,List.length_append]
   have h2:(if 0<i then [10]else []:S).length≤1:=by split<;>simp
   have h3:(match ls[i]? with|some x=>x.text|none=>[]:S).length≤2000:=by
     split
     · next x hx=>exact h x (List.mem_of_getElem? hx)
     · simp
   omega
theorem Oj(e:Ev)(hn:e.lines.length≤40)(ht: ∀ x∈e.lines,x.text.length≤2000):Ad Tryz.prog 45 [.agg (evC e)] [] (str (BH e)) []:=by
 refine acN 25 0 Tryz.func45 fun C hN hk=>?_
 refine Af [1] ?_
 refine Af [1,3] ?_
 refine Af [1,3,4] ?_
 refine lpF hk 1 (fun i:Nat=>⟨[(1,.ptr 0 10 0 0),(3,str (Hh e.lines i)),(4,I i)],[(0,some ⟨56,10,[evC e]⟩)]⟩) (fun i=>i≤e.lines.length) (fun i=>e.lines.length-i) 0 (Fm (And.intro evC.eq_1 (And.intro Hh.eq_1 Hh.eq_2)) [some 0] []) ?_
 intro i h1
 have hl:=NY e.lines ht i
 by_cases hi:i<e.lines.length
 · have hx:=List.getElem?_eq_getElem hi
   have hs:Hh e.lines (i+1)=Hh e.lines i++(if 0<i then [10]else [])++e.lines[i].text:=by rw[Hh,hx]
   have hy:=ht _ (List.getElem_mem hi)
   generalize Hh e.lines i=t at*
   generalize e.lines[i]=x at*
   by_cases h0:0<i
   · rw[if_pos h0]at hs
     have F:=hx;refine A6 [1,3,4,9] ?_;clear F
     refine cT ?_;have F:=hx;refine A6 [1,3,4,13] ?_;clear F;refine cT ?_;have F:=hx;refine A6 [1,3,4] ?_;clear F
     have F:=hx;refine A6 [1,3,4] ?_;clear F
     have F:=hx;refine A6 [1,3,4] ?_;clear F
     refine eE (i+1) (Fm (And.intro hs evC.eq_1) [some 0] [])
   · rw[if_neg h0]at hs
     have F:=hx;refine A6 [1,3,4,9] ?_;clear F
     refine cT ?_;have F:=hx;refine A6 [1,3,4,13] ?_;clear F;refine cF ?_;have F:=hx;refine A6 [1,3,4] ?_;clear F
     have F:=hx;refine A6 [1,3,4] ?_;clear F
     refine eE (i+1) (Fm (And.intro hs evC.eq_1) [some 0] [])
 · have:i=e.lines.length:=by omega
   subst this
   refine AL [1,3,4,9] ?_
   refine cF ?_;refine Af [2] ?_
   refine AW.ret (BY [] [] rfl (by simp[Az,lk,lkh,wk,wkL,wkE,I,str,B,U8,U64,U32,BH]<;>omega) (by first|(simp[Am,Ai,Ak,lkh,BH];done)|(simp[Am,Ai,Ak,lkh,AF,AN,I,str,BH];done)|simp[Am,Ai,Ak,wkL,wk,wkE,lkh,I,str,BH]))
def IX(s:List S×S)(c:UInt8):List S×S:=if c≠0 then(s.1,s.2++[c])else(if 0<s.2.length∧s.2.length≤40 then s.1++[s.2]else s.1,[])
def IK(t:S):S:=t.map Kn++[0]
def wTo(t:S)(i:Nat):List S×S:=((IK t).take i).foldl IX ([],[])
def Cf(t:S):List S:=Bg (wTo t (t.length+1)).1
theorem Wu(t:S)(i:Nat)(h:i<(IK t).length):wTo t (i+1)=IX (wTo t i) (IK t)[i]:=by
 unfold wTo
 rw[List.take_add_one,List.getElem?_eq_getElem h,List.foldl_append]
 rfl
theorem Pm(t:S): ∀ i,i≤t.length+1→(wTo t i).1.length≤i∧(wTo t i).2.length≤i
 |0,_=>by simp[wTo]
 |i+1,h=>by
   have:=Pm t i oM
   rw[Wu t i (by simp[IK];omega)]
   unfold IX
   split
   · simp;omega
   · split<;>simp<;>omega
theorem MA(t:S)(ht:t.length≤2^30):Ad Tryz.prog 44 [str t] [] (.osl 0 (Cf t).length 1) [some ⟨9,1,Au (Cf t)⟩]:=by
 refine acN 42 0 Tryz.func44 fun C hN hk=>?_
 refine Af [0] ?_
 refine Af [0,3] ?_
 refine Af [0,3,4] ?_
 refine Af [0,3,4,5] ?_
 refine lpF hk 2 (fun i:Nat=>⟨[(0,str t),(3,.osl 0 (wTo t i).1.length 1),(4,.osl 1 (wTo t i).2.length 1),(5,I i)],[(0,some ⟨9,1,Au (wTo t i).1⟩),(1,some ⟨5,1,Ab (wTo t i).2⟩)]⟩) (fun i=>i≤t.length+1) (fun i=>t.length+1-i) 0 (Fm wTo.eq_1 [none,none] []) ?_
 intro i h1
 have hl:=Pm t i h1
 by_cases hi:i≤t.length
 · have hs:=Wu t i (by simp[IK];omega)
   by_cases hj:i<t.length
   · have hx:=List.getElem?_eq_getElem hj
     have hy:(IK t)[i]'(by simp[IK];omega)=Kn t[i]:=by simp[IK,List.getElem_append,hj]
     rw[hy]at hs
     have q:=Z7 t[i]
     generalize wTo t i=z at*
     obtain⟨o,w⟩:=z
     simp only at hl
     generalize Kn t[i]=c at*
     generalize t[i]=b at*
     rcases dqE (c.toNat:Int) 0 with ⟨p0,e0,f0⟩|⟨p0,e0,f0⟩
     · have hc:c=0:=UInt8.toNat_inj.1 (by simpa using p0)
       subst hc
       by_cases hw:0<w.length∧w.length≤40
       · have hs:wTo t (i+1)=(o++[w],[]):=by simp[hs,IX,hw]
         have f1:=Zm (a:=w.length) (b:=0) oM
         have f2:=Pl (a:=w.length) (b:=40) oM
         have F:=And.intro hx (And.intro f0 (And.intro f1 f2));refine A6 [0,3,4,5,10] ?_;clear F
         refine cT ?_;have F:=And.intro hx (And.intro f0 (And.intro f1 f2));refine AD [0,3,4,5,6] ?_;clear F
         have F:=And.intro hx (And.intro f0 (And.intro f1 f2));refine A6 [0,3,4,5,6,16] ?_;clear F
         refine cT ?_;have F:=And.intro hx (And.intro f0 (And.intro f1 f2));refine AD [0,3,4,5,6] ?_ (onc 3 (pcq q) noc);clear F
         have F:=And.intro hx (And.intro f0 (And.intro f1 f2));refine A6 [0,3,4,5,6,22] ?_;clear F;refine cF ?_;refine nx ?_;refine rG hN hk noc [] [0,3,4,5,34] fun K hK=>?_;simp only[go_sem,seval,hx,f0,f1,f2]
         try simp (disch:=omega) only[au]
         try simp only[go_sem,seval,hx,f0,f1,f2]
         (first|with_reducible refine hK _ _ ?_|refine obK (hK _ _ ?_));clear hK K;refine nx ?_
         refine cT ?_;have F:=And.intro hx (And.intro f0 (And.intro f1 f2));refine A6 [0,3,5] ?_;clear F
         have F:=And.intro hx (And.intro f0 (And.intro f1 f2));refine AD [0,3,4,5] ?_;clear F
         have F:=And.intro hx (And.intro f0 (And.intro f1 f2));refine A6 [0,3,4,5] ?_;clear F
         refine eE (i+1) (G1 [some 0,none] [])
       · have hs:wTo t (i+1)=(o,[]):=by simp only[hs,IX,hw];simp
         rcases dq ((w.length:Int)>0)with ⟨p0,e0⟩|⟨p0,e0⟩<;>(try omega)<;>rcases dq ((w.length:Int)≤40)with ⟨p1,e1⟩|⟨p1,e1⟩<;>try omega
         all_goals
           have F:=And.intro hx (And.intro f0 (And.intro e0 e1));refine A6 [0,3,4,5,10] ?_;clear F
           refine cT ?_;have F:=And.intro hx (And.intro f0 (And.intro e0 e1));refine AD [0,3,4,5,6] ?_;clear F
           have F:=And.intro hx (And.intro f0 (And.intro e0 e1));refine A6 [0,3,4,5,6,16] ?_;clear F
           refine cT ?_;have F:=And.intro hx (And.intro f0 (And.intro e0 e1));refine AD [0,3,4,5,6] ?_ (onc 3 (pcq q) noc);clear F
           have F:=And.intro hx (And.intro f0 (And.intro e0 e1));refine A6 [0,3,4,5,6,22] ?_;clear F;refine cF ?_;refine nx ?_;refine rG hN hk noc [] [0,3,4,5,34] fun K hK=>?_;simp only[go_sem,seval,hx,f0,e0,e1]
           try simp (disch:=omega) only[au]
           try simp only[go_sem,seval,hx,f0,e0,e1]
           (first|with_reducible refine hK _ _ ?_|refine obK (hK _ _ ?_));clear hK K;refine nx ?_
           refine cF ?_;have F:=And.intro hx (And.intro f0 (And.intro e0 e1));refine AD [0,3,4,5] ?_;clear F
           have F:=And.intro hx (And.intro f0 (And.intro e0 e1));refine A6 [0,3,4,5] ?_;clear F
           refine eE (i+1) (G1 [some 0,none] [])
     · have hc:c≠0:=fun h=>p0 (by rw[h];rfl)
       have hs:wTo t (i+1)=(o,w++[c]):=by simp[hs,IX,hc]
       have F:=And.intro hx f0;refine A6 [0,3,4,5,10] ?_;clear F
       refine cT ?_;have F:=And.intro hx f0;refine AD [0,3,4,5,6] ?_;clear F
       have F:=And.intro hx f0;refine A6 [0,3,4,5,6,16] ?_;clear F
       refine cT ?_;have F:=And.intro hx f0;refine AD [0,3,4,5,6] ?_ (onc 3 (pcq q) noc);clear F
       have F:=And.intro hx f0;refine A6 [0,3,4,5,6,22] ?_;clear F;refine cT ?_;have F:=And.intro hx f0;refine AD [0,3,4,5] ?_;clear F
       have F:=And.intro hx f0;refine A6 [0,3,4,5] ?_;clear F
       refine eE (i+1) (G1 [some 0,some 1] [])
   · have hj:i=t.length:=by omega
     have hy:(IK t)[i]'(by simp[IK];omega)=0:=by simp[IK,List.getElem_append,hj]
     rw[hy]at hs
     generalize wTo t i=z at*
     obtain⟨o,w⟩:=z
     simp only at hl
     by_cases hw:0<w.length∧w.length≤40
     · have hs:wTo t (i+1)=(o++[w],[]):=by simp[hs,IX,hw]
       have f1:=Zm (a:=w.length) (b:=0) oM
       have f2:=Pl (a:=w.length) (b:=40) oM
       refine nx ?_;refine rG hN hk noc [] [0,3,4,5,10] fun K hK=>?_;simp only[go_sem,seval,f1,f2,bne_self_eq_false]
       try simp (disch:=omega) only[au]
       (first|with_reducible refine hK _ _ ?_|refine obK (hK _ _ ?_));clear hK K;refine nx ?_
       refine cT ?_;refine nx ?_;refine rG hN hk noc [] [0,3,4,5,6] fun K hK=>?_;simp only[go_sem,seval,f1,f2,bne_self_eq_false];refine hK _ _ ?_
       clear hK K;refine nx ?_
       refine rG hN hk noc [] [0,3,4,5,6,16] fun K hK=>?_;simp only[go_sem,seval,f1,f2,bne_self_eq_false]
       try simp (disch:=omega) only[au]
       (first|with_reducible refine hK _ _ ?_|refine obK (hK _ _ ?_));clear hK K;refine nx ?_
       refine cF ?_;refine nx ?_;refine rG hN hk noc [] [0,3,4,5,6,22] fun K hK=>?_;simp only[go_sem,seval,f1,f2,bne_self_eq_false]
       try simp (disch:=omega) only[au]
       refine hK _ _ ?_;clear hK K;refine nx ?_;refine cF ?_;refine nx ?_;refine rG hN hk noc [] [0,3,4,5,34] fun K hK=>?_;simp only[go_sem,seval,f1,f2,bne_self_eq_false]
       try simp (disch:=omega) only[au]
       try simp only[go_sem,seval,f1,f2,bne_self_eq_false]
       (first|with_reducible refine hK _ _ ?_|refine obK (hK _ _ ?_));clear hK K;refine nx ?_
       refine cT ?_;refine nx ?_;refine rG hN hk noc [] [0,3,5] fun K hK=>?_;simp only[go_sem,seval,f1,f2,bne_self_eq_false]
       try simp (disch:=omega) only[au]
       (first|with_reducible refine hK _ _ ?_|refine obK (hK _ _ ?_));clear hK K;refine nx ?_
       refine rG hN hk noc [] [0,3,4,5] fun K hK=>?_;simp only[go_sem,seval,f1,f2,bne_self_eq_false];refine hK _ _ ?_
       clear hK K;refine nx ?_
       refine rG hN hk noc [] [0,3,4,5] fun K hK=>?_;simp only[go_sem,seval,f1,f2,bne_self_eq_false]
       try simp (disch:=omega) only[au]
       refine hK _ _ ?_;clear hK K;refine nx ?_
       refine eE (i+1) (G1 [some 0,none] [])
     · have hs:wTo t (i+1)=(o,[]):=by simp only[hs,IX,hw];simp
       rcases dq ((w.length:Int)>0)with ⟨p0,e0⟩|⟨p0,e0⟩<;>(try omega)<;>rcases dq ((w.length:Int)≤40)with ⟨p1,e1⟩|⟨p1,e1⟩<;>try omega
       all_goals
         refine nx ?_;refine rG hN hk noc [] [0,3,4,5,10] fun K hK=>?_;simp only[go_sem,seval,e0,e1,bne_self_eq_false]
         try simp (disch:=omega) only[au]
         (first|with_reducible refine hK _ _ ?_|refine obK (hK _ _ ?_));clear hK K;refine nx ?_
         refine cT ?_;refine nx ?_;refine rG hN hk noc [] [0,3,4,5,6] fun K hK=>?_;simp only[go_sem,seval,e0,e1,bne_self_eq_false];refine hK _ _ ?_
         clear hK K;refine nx ?_
         refine rG hN hk noc [] [0,3,4,5,6,16] fun K hK=>?_;simp only[go_sem,seval,e0,e1,bne_self_eq_false]
         try simp (disch:=omega) only[au]
         (first|with_reducible refine hK _ _ ?_|refine obK (hK _ _ ?_));clear hK K;refine nx ?_
         refine cF ?_;refine nx ?_;refine rG hN hk noc [] [0,3,4,5,6,22] fun K hK=>?_;simp only[go_sem,seval,e0,e1,bne_self_eq_false]
         try simp (disch:=omega) only[au]
         refine hK _ _ ?_;clear hK K;refine nx ?_;refine cF ?_;refine nx ?_;refine rG hN hk noc [] [0,3,4,5,34] fun K hK=>?_;simp only[go_sem,seval,e0,e1,bne_self_eq_false]
         try simp (disch:=omega) only[au]
         try simp only[go_sem,seval,e0,e1,bne_self_eq_false]
         (first|with_reducible refine hK _ _ ?_|refine obK (hK _ _ ?_));clear hK K;refine nx ?_
         refine cF ?_;refine nx ?_;refine rG hN hk noc [] [0,3,4,5] fun K hK=>?_;simp only[go_sem,seval,e0,e1,bne_self_eq_false];refine hK _ _ ?_
         clear hK K;refine nx ?_
         refine rG hN hk noc [] [0,3,4,5] fun K hK=>?_;simp only[go_sem,seval,e0,e1,bne_self_eq_false]
         try simp (disch:=omega) only[au]
         refine hK _ _ ?_;clear hK K;refine nx ?_
         refine eE (i+1) (G1 [some 0,none] [])
 · have hi:i=t.length+1:=by omega
   subst hi
   have q:=Hj _ (wTo t (t.length+1)).1 (Nat.le_refl _) oM
   have hd:=DA (wTo t (t.length+1)).1
   unfold Cf
   generalize (wTo t (t.length+1)).1=o at*
   refine AL [0,3,4,5,10] ?_
   refine cF ?_;refine Af [2] ?_ (onc 1 (bcq [0] q) noc)
   refine AW.ret (D6 [some 0] [])
structure EvT(e:Ev):Prop where
 nl:e.lines.length≤40
 tx: ∀ x∈e.lines,x.text.length≤2000
 nf:e.fields.length≤32
 fv: ∀ f∈e.fields,f.name.length≤32∧f.val.length≤2000
theorem Gl(e:Ev)(h:EvT e):(BH e).length≤80040:=by
 have:=NY e.lines h.tx e.lines.length
 have:=h.nl
 unfold BH;omega
theorem E5(t:S):(Cf t).length≤t.length+1:=by
 have:=DA (wTo t (t.length+1)).1
 have:=(Pm t (t.length+1) oM).1
 unfold Cf;omega
def Fc(l:List Ev)(i:Nat):List S:=(l.take i).flatMap fun e=>Cf (BH e)
theorem SM(l:List Ev)(i:Nat)(h:i<l.length):Fc l (i+1)=Fc l i++Cf (BH l[i]):=by
 unfold Fc
 rw[List.take_add_one,List.getElem?_eq_getElem h,List.flatMap_append]
 simp only[Option.toList,List.flatMap_cons,List.flatMap_nil,List.append_nil]
theorem S6(l:List Ev)(h: ∀ e∈l,EvT e): ∀ i,i≤l.length→(Fc l i).length≤i*80041
 |0,_=>by simp[Fc]
 |i+1,hi=>by
   have:=S6 l h i oM
   have:=E5 (BH l[i])
   have:=Gl l[i] (h _ (List.getElem_mem _))
   rw[SM l i oM]
   simp only[List.length_append];omega
def AR(l:List Ev):List S:=Bg (Fc l l.length)
theorem Q9(l:List Ev)(hl:l.length≤4096)(h: ∀ e∈l,EvT e):Ad Tryz.prog 102 [.sl 10 (evE l)] [] (.osl 0 (AR l).length 1) [some ⟨9,1,Au (AR l)⟩]:=by
 refine acN 21 0 Tryz.func102 fun C hN hk=>?_
 refine Af [0] ?_
 refine Af [0,3] ?_
 refine Af [0,3,4] ?_
 refine lpF hk 1 (fun i:Nat=>⟨[(0,.sl 10 (evE l)),(3,.osl 0 (Fc l i).length 1),(4,I i)],[(0,some ⟨9,1,Au (Fc l i)⟩)]⟩) (fun i=>i≤l.length) (fun i=>l.length-i) 0 (Fm Fc.eq_1 [none] []) ?_
 intro i h1
 have hl2:=S6 l h i h1
 by_cases hi:i<l.length
 · have hx:=List.getElem?_eq_getElem hi
   have hs:=SM l i hi
   have he:=h _ (List.getElem_mem hi)
   have q0:=Oj l[i] he.nl he.tx
   have hw:=E5 (BH l[i])
   have ht:=Gl l[i] he
   have q1:=MA (BH l[i]) oM
   generalize Cf (BH l[i])=ws at*
   generalize BH l[i]=t at*
   generalize l[i]=e at*
   generalize Fc l i=o at*
   have F:=hx;refine A6 [0,3,4,8] ?_;clear F
   refine cT ?_;refine Do [0,3,4] ?_ (onc 5 (pcq q0) (onc 6 (pcq q1) noc))
   have F:=hx;refine A6 [0,3,4] ?_;clear F
   refine eE (i+1) (G1 [some 0] [])
 · have:i=l.length:=by omega
   subst this
   have q:=Hj _ (Fc l l.length) (Nat.le_refl _) oM
   unfold AR
   generalize Fc l l.length=o at*
   refine AL [0,3,4,8] ?_
   refine cF ?_;refine Af [2] ?_ (onc 1 (bcq [0] q) noc)
   refine AW.ret (D6 [some 0] [])
def Fy(l:List Ev)(i:Nat):List S:=(l.take i).flatMap fun e=>e.fields.map Fl.name
theorem Xs(l:List Ev)(i:Nat)(h:i<l.length):Fy l (i+1)=Fy l i++l[i].fields.map Fl.name:=by
 unfold Fy
 rw[List.take_add_one,List.getElem?_eq_getElem h,List.flatMap_append]
 simp only[Option.toList,List.flatMap_cons,List.flatMap_nil,List.append_nil]
theorem Q4(l:List Ev)(h: ∀ e∈l,EvT e): ∀ i,i≤l.length→(Fy l i).length≤i*32
 |0,_=>by simp[Fy]
 |i+1,hi=>by
   have:=Q4 l h i oM
   have:=(h _ (List.getElem_mem (l:=l) (n:=i) oM)).nf
   rw[Xs l i oM]
   simp only[List.length_append,List.length_map];omega
def Jf(o:List S)(fs:List Fl)(k:Nat):List S:=o++(fs.take k).map Fl.name
def AH(l:List Ev):List S:=Bg (Fy l l.length)
theorem TH(l:List Ev)(hl:l.length≤4096)(h: ∀ e∈l,EvT e):Ad Tryz.prog 103 [.sl 10 (evE l)] [] (.osl 0 (AH l).length 1) [some ⟨9,1,Au (AH l)⟩]:=by
 refine acN 36 0 Tryz.func103 fun C hN hk=>?_
 refine Af [0] ?_
 refine Af [0,3] ?_
 refine Af [0,3,4] ?_
 refine lpF hk 1 (fun i:Nat=>⟨[(0,.sl 10 (evE l)),(3,.osl 0 (Fy l i).length 1),(4,I i)],[(0,some ⟨9,1,Au (Fy l i)⟩)]⟩) (fun i=>i≤l.length) (fun i=>l.length-i) 0 (Fm Fy.eq_1 [none] []) ?_
 intro i h1
 have hl2:=Q4 l h i h1
 by_cases hi:i<l.length
 · have hx:=List.getElem?_eq_getElem hi
   have hs:=Xs l i hi
   have he:=h _ (List.getElem_mem hi)
   generalize Fy l i=o at*
   generalize l[i]=e at*
   have hnf:=he.nf
   refine AL [0,3,4,9] ?_
   refine cT ?_;refine Af [0,3,4,5] ?_
   refine lpF hk 1 (fun k:Nat=>⟨[(0,.sl 10 (evE l)),(3,.osl 0 (Jf o e.fields k).length 1),(4,I i),(5,I k)],[(0,some ⟨9,1,Au (Jf o e.fields k)⟩)]⟩) (fun k=>k≤e.fields.length) (fun k=>e.fields.length-k) 0 (Fm Jf.eq_1 [some 0] []) ?_
   intro k h2
   by_cases hk2:k<e.fields.length
   · have hy:=List.getElem?_eq_getElem hk2
     have hs2:Jf o e.fields (k+1)=(Jf o e.fields k)++[e.fields[k].name]:=by
       unfold Jf
       rw[List.take_add_one,hy]
       simp only[Option.toList,List.map_append,List.map_cons,List.map_nil,List.append_assoc]
     have hz:(Jf o e.fields k).length≤o.length+32:=by simp[Jf];omega
     generalize Jf o e.fields k=o2 at*
     generalize e.fields[k]=f at*
     have F:=And.intro hx hy;refine A6 [0,3,4,5,19] ?_;clear F
     refine cT ?_;have F:=And.intro hx hy;refine AD [0,3,4,5] ?_;clear F
     have F:=And.intro hx hy;refine A6 [0,3,4,5] ?_;clear F
     refine eE (k+1) (Fm hs2 [some 0] [])
   · have:k=e.fields.length:=by omega
     subst this
     have hs3:Jf o e.fields e.fields.length=Fy l (i+1):=by rw[hs];simp[Jf]
     rw[hs3]
     have F:=hx;refine A6 [0,3,4,5,19] ?_;clear F
     refine cF ?_;have F:=hx;refine A6 [0,3,4] ?_;clear F
     refine eE (i+1) (KJ [some 0] [])
 · have:i=l.length:=by omega
   subst this
   have q:=Hj _ (Fy l l.length) (Nat.le_refl _) oM
   unfold AH
   generalize Fy l l.length=o at*
   refine AL [0,3,4,9] ?_
   refine cF ?_;refine Af [2] ?_ (onc 1 (bcq [0] q) noc)
   refine AW.ret (D6 [some 0] [])
end Go.Proofs.YtpkhodjlnodagaaGreatDoor
namespace Go.Proofs.YtpkhodjlnodagaaGreatDoor
open Go.Av
def ltS(x y:S):Prop:=Op.bytesLess x y=true
instance (x y:S):Decidable (ltS x y):=inferInstanceAs (Decidable (_=true))
theorem C3: ∀ x:S,¬ ltS x x
 | []=>by simp[ltS,Op.bytesLess]
 |a::x=>by
   have:=C3 x
   simp only[ltS]at*
   simp[Op.bytesLess,this]
theorem EH: ∀ {x y z:S},ltS x y→ltS y z→ltS x z
 |_,[],_,h,_=>by simp[ltS,Op.bytesLess]at h
 |_,_::_,[],_,h=>by simp[ltS,Op.bytesLess]at h
 | [],_::_,_::_,_,_=>by simp[ltS,Op.bytesLess]
 |a::x,b::y,c::z,h,k=>by
   simp only[ltS,Op.bytesLess,Bool.or_eq_true,Bool.and_eq_true,decide_eq_true_eq,beq_iff_eq]at h k ⊢
   rcases h with h|⟨rfl,h⟩<;>rcases k with k|⟨rfl,k⟩
   · exact .inl (UInt8.lt_trans h k)
   · exact .inl h
   · exact .inl k
   · exact .inr ⟨rfl,EH h k⟩
theorem HT: ∀ x y:S,ltS x y∨x=y∨ltS y x
 | [],[]=> .inr (.inl rfl)
 | [],_::_=> .inl (by simp[ltS,Op.bytesLess])
 |_::_,[]=> .inr (.inr (by simp[ltS,Op.bytesLess]))
 |a::x,b::y=>by
   simp only[ltS,Op.bytesLess,Bool.or_eq_true,Bool.and_eq_true,decide_eq_true_eq,beq_iff_eq]
   have g:a<b∨a=b∨b<a:=by
     simp only[UInt8.lt_iff_toNat_lt,← UInt8.toNat_inj];omega
   rcases g with g|rfl|g
   · exact .inl (.inl g)
   · rcases HT x y with h|rfl|h
     · exact .inl (.inr ⟨rfl,h⟩)
     · exact .inr (.inl rfl)
     · exact .inr (.inr (.inr ⟨rfl,h⟩))
   · exact .inr (.inr (.inl g))
theorem JQ{x y:S}(h:ltS x y): ¬ ltS y x:=fun k=>C3 x (EH h k)
def mrg:List S→List S→List S
 | [],b=>b
 |x::a,[]=>x::a
 |x::a,y::b=>if ltS x y then x::mrg a (y::b)else if ltS y x then y::mrg (x::a) b else x::mrg a b
termination_by a b=>a.length+b.length
theorem AcL(a:List S):mrg a []=a:=by cases a<;>simp[mrg]
theorem DP{l:List S}{i:Nat}(h:i<l.length):l.getD i []=l[i]:=by simp[List.getD,h]
theorem Ia(a b:List S): ∀ f (s:Un),s.i≤a.length→s.k≤b.length→(a.length-s.i)+(b.length-s.k)≤f→(IL a b f s).out=s.out++mrg (a.drop s.i) (b.drop s.k)
 |0,s,h1,h2,h3=>by
   have e1:a.drop s.i=[]:=List.drop_eq_nil_of_le oM
   have e2:b.drop s.k=[]:=List.drop_eq_nil_of_le oM
   simp[IL,e1,e2,mrg]
 |f+1,s,h1,h2,h3=>by
   by_cases hs:s.i<a.length∨s.k<b.length
   · rw[IL,if_pos hs]
     by_cases hk:s.k=b.length
     · have hi:s.i<a.length:=by omega
       rw[F0,if_pos (.inl hk),Ia a b f _ sO sO sO]
       have e2:b.drop s.k=[]:=List.drop_eq_nil_of_le oM
       simp only[e2,AcL,List.drop_eq_getElem_cons hi,DP hi]
       simp
     · have hk2:s.k<b.length:=by omega
       by_cases hi:s.i=a.length
       · have e1:a.drop s.i=[]:=List.drop_eq_nil_of_le oM
         rw[F0,if_neg oM,if_pos (.inl hi),Ia a b f _ sO sO sO]
         simp only[e1,mrg,List.drop_eq_getElem_cons hk2,DP hk2]
         simp
       · have hi2:s.i<a.length:=by omega
         by_cases c1:ltS a[s.i] b[s.k]
         · rw[F0,if_pos (.inr ⟨hi2,by rw[DP hi2,DP hk2];exact c1⟩),Ia a b f _ sO sO sO]
           simp only[List.drop_eq_getElem_cons hi2,List.drop_eq_getElem_cons hk2,mrg,if_pos c1,DP hi2]
           simp
         · have n1: ¬ (s.k=b.length∨s.i<a.length∧Op.bytesLess (a.getD s.i []) (b.getD s.k [])=true):=by
             rw[DP hi2,DP hk2];rintro(h|⟨_,h⟩)
             · omega
             · exact c1 h
           by_cases c2:ltS b[s.k] a[s.i]
           · rw[F0,if_neg n1,if_pos (.inr (by rw[DP hi2,DP hk2];exact c2)),Ia a b f _ sO sO sO]
             simp only[List.drop_eq_getElem_cons hi2,List.drop_eq_getElem_cons hk2,mrg,if_neg c1,if_pos c2,DP hk2]
             simp
           · have n2: ¬ (s.i=a.length∨Op.bytesLess (b.getD s.k []) (a.getD s.i [])=true):=by
               rw[DP hi2,DP hk2];rintro(h|h)
               · omega
               · exact c2 h
             rw[F0,if_neg n1,if_neg n2,Ia a b f _ sO sO sO]
             simp only[List.drop_eq_getElem_cons hi2,List.drop_eq_getElem_cons hk2,mrg,if_neg c1,if_neg c2,DP hi2]
             simp
   · rw[IL,if_neg hs]
     have e1:a.drop s.i=[]:=List.drop_eq_nil_of_le oM
     have e2:b.drop s.k=[]:=List.drop_eq_nil_of_le oM
     simp[e1,e2,mrg]
theorem AcT(a b:List S):(unF a b).out=mrg a b:=by
 have:=Ia a b (a.length+b.length) ⟨0,0,[],[],[]⟩ sP sP sP
 simpa [unF] using this
theorem MT(a b:List S)(z:S):z∈mrg a b↔z∈a∨z∈b:=by
 fun_induction mrg a b with
 |case1=>simp
 |case2=>simp
 |case3 x a y b h ih=>simp[ih,or_assoc]
 |case4 x a y b h k ih=>simp[ih];grind
 |case5 x a y b h k ih=>
   have:x=y:=by rcases HT x y with t|t|t<;>simp_all
   simp[ih];grind
theorem V5(a b:List S)(ha:a.Pairwise ltS)(hb:b.Pairwise ltS):(mrg a b).Pairwise ltS:=by
 fun_induction mrg a b with
 |case1=>exact hb
 |case2=>exact ha
 |case3 x a y b h ih=>
   rw[List.pairwise_cons]at ha ⊢
   have hb':=List.pairwise_cons.1 hb
   refine⟨fun z hz=>?_,ih ha.2 hb⟩
   rcases(MT _ _ _).1 hz with hz|hz
   · exact ha.1 z hz
   · rcases List.mem_cons.1 hz with rfl|hz
     · exact h
     · exact EH h (hb'.1 z hz)
 |case4 x a y b h k ih=>
   have ha':=List.pairwise_cons.1 ha
   rw[List.pairwise_cons]at hb ⊢
   refine⟨fun z hz=>?_,ih ha hb.2⟩
   rcases(MT _ _ _).1 hz with hz|hz
   · rcases List.mem_cons.1 hz with rfl|hz
     · exact k
     · exact EH k (ha'.1 z hz)
   · exact hb.1 z hz
 |case5 x a y b h k ih=>
   have:x=y:=by rcases HT x y with t|t|t<;>simp_all
   subst this
   rw[List.pairwise_cons]at ha hb ⊢
   refine⟨fun z hz=>?_,ih ha.2 hb.2⟩
   rcases(MT _ _ _).1 hz with hz|hz
   · exact ha.1 z hz
   · exact hb.1 z hz
theorem Q1: ∀ (n:Nat) (l:List S),l.length≤n→(Bg l).Pairwise ltS∧ ∀ z,z∈Bg l↔z∈l:=by
 intro n
 induction n with
 |zero=>intro l h;rw[Kk l oM];have:l=[]:=List.length_eq_zero_iff.1 oM;simp[this]
 |succ n ih=>
   intro l h
   by_cases hl:l.length<2
   · rw[Kk l hl]
     match l,hl with
     | [],_=>simp
     | [x],_=>simp
     |_::_::_,h=>simp at h;omega
   · rw[SG l hl,AcT]
     have h1:=ih (l.take (l.length / 2)) sO
     have h2:=ih (l.drop (l.length / 2)) sO
     refine⟨V5 _ _ h1.1 h2.1,fun z=>?_⟩
     rw[MT,h1.2,h2.2,← List.mem_append,List.take_append_drop]
theorem BO(l:List S):(Bg l).Pairwise ltS:=(Q1 _ l (Nat.le_refl _)).1
theorem Cd(l:List S)(z:S):z∈Bg l↔z∈l:=(Q1 _ l (Nat.le_refl _)).2 z
theorem HD: ∀ l:List S,l.Pairwise ltS→IV l=false
 | [],_=>rfl
 | [_],_=>rfl
 |a::b::r,h=>by
   rw[List.pairwise_cons]at h
   have h1:=h.1 b sP
   have h2:=JQ h1
   have h3:b≠a:=fun e=>C3 a (e ▸ h1)
   simp only[ltS,Bool.not_eq_true]at h2
   simp[IV,leS,h2,h3,HD (b::r) h.2]
theorem Nu(d:List S)(w:S)(hd:d.Pairwise ltS): ∀ f a b,b≤d.length→b-a≤f→a≤b→(∀ i (h:i<d.length),i<a→ltS d[i] w)→(∀ i (h:i<d.length),b≤i→ ¬ ltS d[i] w)→
   FR d w f a b≤b∧(∀ i (h:i<d.length),i<FR d w f a b→ltS d[i] w)∧(∀ i (h:i<d.length),FR d w f a b≤i→ ¬ ltS d[i] w)
 |0,a,b,h0,h1,h2,h3,h4=>by
   have:a=b:=by omega
   subst this
   exact⟨Nat.le_refl _,h3,h4⟩
 |f+1,a,b,h0,h1,h2,h3,h4=>by
   have hp:=List.pairwise_iff_getElem.1 hd
   rw[FR]
   by_cases hab:a<b
   · rw[if_pos hab]
     have hm:(a+b) / 2<d.length:=by omega
     rw[DP hm]
     by_cases c:Op.bytesLess d[(a+b) / 2] w=true
     · rw[if_pos c]
       refine Nu d w hd f _ b h0 oM oM (fun i h hi=>?_) h4
       by_cases e:i=(a+b) / 2
       · subst e;exact c
       · exact EH (hp i _ h hm oM) c
     · rw[if_neg c]
       have:=Nu d w hd f a ((a+b) / 2) oM oM oM h3 (fun i h hi hlt=>?_)
       · exact⟨oM,this.2⟩
       · by_cases e:i=(a+b) / 2
         · subst e;exact c hlt
         · exact c (EH (hp _ i hm h oM) hlt)
   · rw[if_neg hab]
     have:a=b:=by omega
     subst this
     exact⟨Nat.le_refl _,h3,h4⟩
theorem Fa(d:List S)(w:S)(hd:d.Pairwise ltS)(hw:w∈d):d[CD d w]? =some w∧CD d w<d.length:=by
 obtain⟨h1,h2,h3⟩:=Nu d w hd d.length 0 d.length (Nat.le_refl _) oM oM (fun i h hi=>by omega) (fun i h hi=>by omega)
 obtain⟨p,hp,rfl⟩:=List.getElem_of_mem hw
 have hr:FR d d[p] d.length 0 d.length=p:=by
   rcases Nat.lt_trichotomy (FR d d[p] d.length 0 d.length) p with h|h|h
   · exact absurd (List.pairwise_iff_getElem.1 hd _ _ oM hp h) (h3 _ oM (Nat.le_refl _))
   · exact h
   · exact absurd (h2 p hp h) (C3 _)
 unfold CD
 rw[hr]
 exact⟨List.getElem?_eq_getElem hp,hp⟩
end Go.Proofs.YtpkhodjlnodagaaGreatDoor
namespace Go.Proofs.YtpkhodjlnodagaaGreatDoor
open Go.Av
set_option maxHeartbeats 4000000
attribute [local irreducible] Ad
def DW(fs:List Fl)(n:S):Option Fl:=fs.find? fun f=>f.name==n
def L4(fs:List Fl)(n:S):AV:=match DW fs n with
 |some f=> .tup [str f.val,B true]
 |none=> .tup [str [],B false]
theorem Uk{α:Type}{p:α→Bool}{l:List α}{i:Nat}(hi:i<l.length)(h: ∀ x∈l.take i,p x=false)(hp:p l[i]=true):l.find? p=some l[i]:=by
 have e:l=l.take i++l[i]::l.drop (i+1):=by simp
 have h2:(l.take i).find? p=none:=by simp only[List.find?_eq_none];intro x hx;simp[h x hx]
 conv=>lhs;rw[e]
 rw[List.find?_append,h2,List.find?_cons_of_pos (by simpa using hp)];rfl
theorem Abr(fs:List Fl)(n:S)(hf:fs.length≤2^30):Ad Tryz.prog 95 [.sl 2 (flE fs),str n] [] (L4 fs n) []:=by
 refine acN 25 0 Tryz.func95 fun C hN hk=>?_
 refine Af [0,1] ?_
 refine Af [0,1,6] ?_
 refine lpF hk 0 (fun i:Nat=>⟨[(0,.sl 2 (flE fs)),(1,str n),(6,I i)],[]⟩) (fun i=>i≤fs.length∧ ∀ x∈fs.take i,(x.name==n)=false) (fun i=>fs.length-i) 0 (KJ [] []) ?_
 rintro i ⟨h1,h2⟩
 by_cases hi:i<fs.length
 · have hx:=List.getElem?_eq_getElem hi
   rcases dqB (fs[i].name==n)with e|e
   · have hg:L4 fs n= .tup [str fs[i].val,B true]:=by
       unfold L4 DW;rw[Uk hi h2 (by exact e)]
     rw[hg]
     generalize fs[i]=f at*
     have F:=And.intro hx e;refine A6 [0,1,6,10] ?_;clear F
     refine cT ?_;have F:=And.intro hx e;refine A6 [0,1,6,19] ?_;clear F
     refine cT ?_;have F:=And.intro hx e;refine AD [4,5] ?_;clear F
     refine AW.ret (D6 [] [])
   · have h3: ∀ x∈fs.take (i+1),(x.name==n)=false:=by
       rw[List.take_add_one,hx]
       intro x hx
       rcases List.mem_append.1 hx with hx|hx
       · exact h2 x hx
       · simp at hx;rw[hx];exact e
     generalize fs[i]=f at*
     have F:=And.intro hx e;refine A6 [0,1,6,10] ?_;clear F
     refine cT ?_;have F:=And.intro hx e;refine A6 [0,1,6,19] ?_;clear F
     refine cF ?_;have F:=And.intro hx e;refine A6 [0,1,6] ?_;clear F
     refine eE (i+1) (KJ [] [])
 · have:i=fs.length:=by omega
   subst this
   rw[List.take_length]at h2
   have hg:L4 fs n= .tup [str [],B false]:=by
     unfold L4 DW
     rw[List.find?_eq_none.2 (fun x hx=>by simp[h2 x hx])]
   rw[hg]
   refine AL [0,1,6,10] ?_
   refine cF ?_;refine Af [4,5] ?_
   refine AW.ret (D6 [] [])
def Bn(l:List Ev)(n:S):Nat→List Int×List S
 |0=>([],[])
 |i+1=>match l[i]? with
   |some e=>match DW e.fields n with
     |some f=>((Bn l n i).1++[(i:Int)],(Bn l n i).2++[f.val])
     |none=>Bn l n i
   |none=>Bn l n i
theorem G9(l:List Ev)(n:S): ∀ i,(Bn l n i).1.length≤i∧(Bn l n i).2.length≤i
 |0=>by simp[Bn]
 |i+1=>by
   have:=G9 l n i
   unfold Bn
   split
   · split
     · simp;omega
     · omega
   · omega
theorem AaL(l:List Ev)(n:S)(hl:l.length≤4096)(hf: ∀ e∈l,EvT e):Ad Tryz.prog 160 [.sl 10 (evE l),str n] []
   (.tup [.osl 0 (Bn l n l.length).1.length 1,.osl 1 (Bn l n l.length).2.length 1]) [some ⟨3,1,An (Bn l n l.length).1⟩,some ⟨9,1,Au (Bn l n l.length).2⟩]:=by
 refine acN 38 0 Tryz.func160 fun C hN hk=>?_
 refine Af [0,1] ?_
 refine Af [0,1,6] ?_
 refine Af [0,1,6,7] ?_
 refine Af [0,1,6,7,8] ?_
 refine lpF hk 2 (fun i:Nat=>⟨[(0,.sl 10 (evE l)),(1,str n),(6,.osl 0 (Bn l n i).1.length 1),(7,.osl 1 (Bn l n i).2.length 1),(8,I i)],[(0,some ⟨3,1,An (Bn l n i).1⟩),(1,some ⟨9,1,Au (Bn l n i).2⟩)]⟩) (fun i=>i≤l.length) (fun i=>l.length-i) 0 (CL [none,none] [] (by simp[AK,wk,wkL,wkE,lk,I,str,B,U8,U64,U32,Bn]<;>omega) (by first|(simp[Am,Ai,Ak,lkh,Bn];done)|(simp[Am,Ai,Ak,lkh,AF,AN,I,str,Bn];done)|simp[Am,Ai,Ak,wkL,wk,wkE,lkh,I,str,Bn])) ?_
 intro i h1
 have hv:=G9 l n i
 by_cases hi:i<l.length
 · have hx:=List.getElem?_eq_getElem hi
   have he:=hf _ (List.getElem_mem hi)
   have hnf:=he.nf
   have q:=Abr l[i].fields n oM
   have hs:Bn l n (i+1)=match DW l[i].fields n with|some f=>((Bn l n i).1++[(i:Int)],(Bn l n i).2++[f.val])|none=>Bn l n i:=by rw[Bn,hx]
   unfold L4 at q
   generalize l[i]=e at*
   generalize Bn l n i=z at*
   obtain⟨a,b⟩:=z
   simp only at hv
   cases hg:DW e.fields n with
   |some f=>
     simp only[hg]at q hs
     have F:=hx;refine A6 [0,1,6,7,8,14] ?_;clear F
     refine cT ?_;refine Do [0,1,6,7,8,9,10] ?_ (onc 6 (pcq q) noc)
     refine Do [0,1,6,7,8,9,27] ?_
     refine cT ?_;refine Do [0,1,6,7,8] ?_
     have F:=hx;refine A6 [0,1,6,7,8] ?_;clear F
     refine eE (i+1) (G1 [some 0,some 1] [])
   |none=>
     simp only[hg]at q hs
     have F:=hx;refine A6 [0,1,6,7,8,14] ?_;clear F
     refine cT ?_;refine Do [0,1,6,7,8,9,10] ?_ (onc 6 (pcq q) noc)
     refine Do [0,1,6,7,8,9,27] ?_
     refine cF ?_;have F:=hx;refine A6 [0,1,6,7,8] ?_;clear F
     refine eE (i+1) (G1 [some 0,some 1] [])
 · have:i=l.length:=by omega
   subst this
   generalize Bn l n l.length=z at*
   refine AL [0,1,6,7,8,14] ?_
   refine cF ?_;refine Af [4,5] ?_
   refine AW.ret (D6 [some 0,some 1] [])
def CM(e:Ev)(k:Nat):Int:=if k=1 then e.host else if k=2 then e.file else if k=3 then e.frm else if k=4 then e.to else if k=5 then e.time else e.weight
theorem Aan(e:Ev)(k:Nat)(h1:1≤k)(h6:k≤6):Ad Tryz.prog 109 [.agg (evC e),I k] [] (I (CM e k)) []:=by
 refine acN 28 0 Tryz.func109 fun C hN hk=>?_
 obtain rfl|rfl|rfl|rfl|rfl|rfl:k=1∨k=2∨k=3∨k=4∨k=5∨k=6:=by omega
 · refine Af [1,2] ?_
   refine Af [2,5] ?_
   refine AL [2,5,6] ?_;refine cT ?_;refine Af [4] ?_
   refine AW.ret (BY [] [] rfl (by simp[Az,lk,lkh,wk,wkL,wkE,I,str,B,U8,U64,U32,CM]<;>omega) (by first|(simp[Am,Ai,Ak,lkh,CM];done)|(simp[Am,Ai,Ak,lkh,AF,AN,I,str,CM];done)|simp[Am,Ai,Ak,wkL,wk,wkE,lkh,I,str,CM]))
 · refine Af [1,2] ?_
   refine Af [2,5] ?_
   refine AL [2,5,6] ?_;refine cF ?_;refine AL [2,5,10] ?_;refine cT ?_;refine Af [4] ?_
   refine AW.ret (BY [] [] rfl (by simp[Az,lk,lkh,wk,wkL,wkE,I,str,B,U8,U64,U32,CM]<;>omega) (by first|(simp[Am,Ai,Ak,lkh,CM];done)|(simp[Am,Ai,Ak,lkh,AF,AN,I,str,CM];done)|simp[Am,Ai,Ak,wkL,wk,wkE,lkh,I,str,CM]))
 · refine Af [1,2] ?_
   refine Af [2,5] ?_
   refine AL [2,5,6] ?_;refine cF ?_;refine AL [2,5,10] ?_;refine cF ?_;refine AL [2,5,14] ?_;refine cT ?_;refine Af [4] ?_
   refine AW.ret (BY [] [] rfl (by simp[Az,lk,lkh,wk,wkL,wkE,I,str,B,U8,U64,U32,CM]<;>omega) (by first|(simp[Am,Ai,Ak,lkh,CM];done)|(simp[Am,Ai,Ak,lkh,AF,AN,I,str,CM];done)|simp[Am,Ai,Ak,wkL,wk,wkE,lkh,I,str,CM]))
 · refine Af [1,2] ?_
   refine Af [2,5] ?_
   refine AL [2,5,6] ?_;refine cF ?_;refine AL [2,5,10] ?_;refine cF ?_;refine AL [2,5,14] ?_;refine cF ?_;refine AL [2,5,18] ?_;refine cT ?_;refine Af [4] ?_
   refine AW.ret (BY [] [] rfl (by simp[Az,lk,lkh,wk,wkL,wkE,I,str,B,U8,U64,U32,CM]<;>omega) (by first|(simp[Am,Ai,Ak,lkh,CM];done)|(simp[Am,Ai,Ak,lkh,AF,AN,I,str,CM];done)|simp[Am,Ai,Ak,wkL,wk,wkE,lkh,I,str,CM]))
 · refine Af [1,2] ?_
   refine Af [2,5] ?_
   refine AL [2,5,6] ?_;refine cF ?_;refine AL [2,5,10] ?_;refine cF ?_;refine AL [2,5,14] ?_;refine cF ?_;refine AL [2,5,18] ?_;refine cF ?_;refine AL [2,22] ?_;refine cT ?_;refine Af [4] ?_
   refine AW.ret (BY [] [] rfl (by simp[Az,lk,lkh,wk,wkL,wkE,I,str,B,U8,U64,U32,CM]<;>omega) (by first|(simp[Am,Ai,Ak,lkh,CM];done)|(simp[Am,Ai,Ak,lkh,AF,AN,I,str,CM];done)|simp[Am,Ai,Ak,wkL,wk,wkE,lkh,I,str,CM]))
 · refine Af [1,2] ?_
   refine Af [2,5] ?_
   refine AL [2,5,6] ?_;refine cF ?_;refine AL [2,5,10] ?_;refine cF ?_;refine AL [2,5,14] ?_;refine cF ?_;refine AL [2,5,18] ?_;refine cF ?_;refine AL [2,22] ?_;refine cF ?_;refine Af [4] ?_
   refine AW.ret (BY [] [] rfl (by simp[Az,lk,lkh,wk,wkL,wkE,I,str,B,U8,U64,U32,CM]<;>omega) (by first|(simp[Am,Ai,Ak,lkh,CM];done)|(simp[Am,Ai,Ak,lkh,AF,AN,I,str,CM];done)|simp[Am,Ai,Ak,wkL,wk,wkE,lkh,I,str,CM]))
theorem Ge(l:List S)(h1:l.length≤32768)(h2: ∀ s∈l,s.length≤2048):Bb (Bg l)=0:=by
 have:=DA l
 have h3:EG (Bg l)=false:=by
   unfold EG
   rw[List.any_eq_false]
   intro x hx
   have:=h2 x ((Cd l x).1 hx)
   simp;omega
 unfold Bb
 rw[if_neg oM,h3,HD _ (BO l)]
 simp
theorem Es(d:List S)(h:Bb d=0):EG d=false∧d.length≤32768:=by
 unfold Bb at h
 split at h
 · simp at h
 · split at h
   · simp at h
   · next h1 h2=>exact⟨by simpa using h2,oM⟩
theorem FL(d:List S)(h:Bb d=0):(AM d).length≤11+d.length*2070:=Ff d (Es d h).1 _ (Nat.le_refl _)
theorem Nv(d:List S)(h:Bb d=0): ∀ s∈d,s.length≤2^40:=by
 have h1:=(Es d h).1
 unfold EG at h1
 rw[List.any_eq_false]at h1
 intro s hs
 have:=h1 s hs
 simp at this;omega
theorem Dj(x:List UInt8):(AE x).length≤x.length+11:=by
 have:=Bf x.length
 simp only[AE,List.length_append];omega
theorem Hm(v:List Int)(hl:v.length≤16384):(AZ v).length≤24+v.length*22:=Qp v _ (Hu v 3) hl
def Da(ts:List S)(i:Nat):List Int:=(ts.take i).map fun t=>(CD (Bg ts) t:Int)
theorem AeS(ts:List S)(i:Nat)(h:i<ts.length):Da ts (i+1)=Da ts i++[(CD (Bg ts) ts[i]:Int)]:=by
 unfold Da
 rw[List.take_add_one,List.getElem?_eq_getElem h]
 simp only[Option.toList,List.map_append,List.map_cons,List.map_nil]
def ixF(ts:List S):List UInt8:=AE (AM (Bg ts))++AE (AZ (Da ts ts.length))
theorem LS(ts:List S)(hl:ts.length≤4096)(hs: ∀ s∈ts,s.length≤2048):Ad Tryz.prog 104 [.sl 1 (Au ts)] [] (.osl 0 (ixF ts).length 1) [some ⟨5,1,Ab (ixF ts)⟩]:=by
 refine acN 35 0 Tryz.func104 fun C hN hk=>?_
 have hc:=Ge ts oM hs
 have hdl:=DA ts
 have q0:=Hj _ ts (Nat.le_refl _) oM
 have q1:=I8 (Bg ts) hc oM (Nv _ hc)
 have hel:=FL _ hc
 have q2:=JJ (AM (Bg ts)) oM
 have hbl:=Dj (AM (Bg ts))
 have qi:=fun w=>Oz (Bg ts) w oM
 have hss:=AeS ts
 have h0:Da ts 0=[]:=rfl
 have hlen: ∀ i,(Da ts i).length≤i:=by intro i;simp[Da];omega
 unfold ixF
 generalize Da ts=ix at*
 generalize AE (AM (Bg ts))=bl at*
 generalize AM (Bg ts)=en at*
 generalize Bg ts=d at*
 refine Af [0] ?_
 refine Af [0,3] ?_ (onc 1 (pcq q0) noc)
 refine Af [0,3,4] ?_
 refine Af [0,3,4,5] ?_
 clear q0
 refine nx ?_
 refine lpF hk 2 (fun i:Nat=>⟨[(0,.sl 1 (Au ts)),(3,.osl 0 d.length 1),(4,.osl 1 (ix i).length 1),(5,I i)],[(0,some ⟨9,1,Au d⟩),(1,some ⟨3,1,An (ix i)⟩)]⟩) (fun i=>i≤ts.length) (fun i=>ts.length-i) 0 (Fm h0 [some 0,none] []) ?_
 intro i h1
 have hli:=hlen i
 by_cases hi:i<ts.length
 · have hx:=List.getElem?_eq_getElem hi
   have hs':=hss i hi
   have q3:=qi ts[i]
   generalize CD d ts[i]=k at*
   generalize DV d ts[i]=kb at*
   generalize ts[i]=t at*
   generalize ix i=o at*
   have F:=hx;refine A6 [0,3,4,5,13] ?_;clear F
   refine cT ?_;refine Do [0,3,4,5,6] ?_ (onc 5 (bcq [0] q3) noc)
   refine Do [0,3,4,5] ?_
   have F:=hx;refine A6 [0,3,4,5] ?_;clear F
   refine eE (i+1) (Fm hs' [some 0,some 1] [])
 · have:i=ts.length:=by omega
   subst this
   have q3:=H5 (ix ts.length) oM
   have hcl:=Hm (ix ts.length) oM
   have q4:=H1 bl (AZ (ix ts.length)) oM oM
   have hb2:=Dj (AZ (ix ts.length))
   generalize AE (AZ (ix ts.length))=b2 at*
   generalize AZ (ix ts.length)=cl at*
   generalize ix ts.length=o at*
   refine AL [0,3,4,5,13] ?_
   refine cF ?_;refine nx ?_;refine rG hN hk (onc 1 (bcq [0] q1) (onc 2 (bcq [10] q2) (onc 4 (bcq [1] q3) (onc 5 (NU 18 [34] q4) noc)))) [] [2] fun K hK=>?_;simp only[go_sem,seval];refine obK (hK _ _ ?_)
   clear hK K;refine nx ?_
   refine AW.ret (D6 [some 0] [])
def Hc(e:Ev)(i:Nat):List S:=Cf (BH e)++(e.fields.take i).map fun f=>f.name++[61]++f.val
theorem Af7(e:Ev)(i:Nat)(h:i<e.fields.length):Hc e (i+1)=Hc e i++[e.fields[i].name++[61]++e.fields[i].val]:=by
 unfold Hc
 rw[List.take_add_one,List.getElem?_eq_getElem h]
 simp only[Option.toList,List.map_append,List.map_cons,List.map_nil,List.append_assoc]
def EJ(e:Ev):List S:=Bg (Hc e e.fields.length)
theorem AcA(e:Ev)(he:EvT e):Ad Tryz.prog 162 [.agg (evC e)] [] (.osl 0 (EJ e).length 1) [some ⟨9,1,Au (EJ e)⟩]:=by
 refine acN 39 0 Tryz.func162 fun C hN hk=>?_
 have q0:=Oj e he.nl he.tx
 have hw:=E5 (BH e)
 have ht:=Gl e he
 have q1:=MA (BH e) oM
 have hnf:=he.nf
 have h0:Hc e 0=Cf (BH e):=by simp[Hc]
 have hlen: ∀ i,(Hc e i).length≤80041+i:=by intro i;simp[Hc];omega
 have hss:=Af7 e
 unfold EJ
 generalize Cf (BH e)=ws at*
 generalize Hc e=tr at*
 refine Af [1] ?_
 refine Af [1,3] ?_ (onc 1 (pcq q0) (onc 2 (pcq q1) noc))
 refine Af [1,3,4] ?_
 clear q0 q1
 refine nx ?_
 refine lpF hk 2 (fun i:Nat=>⟨[(1,.ptr 0 10 0 0),(3,.osl 1 (tr i).length 1),(4,I i)],[(0,some ⟨56,10,[evC e]⟩),(1,some ⟨9,1,Au (tr i)⟩)]⟩) (fun i=>i≤e.fields.length) (fun i=>e.fields.length-i) 0 (Fm (And.intro h0 evC.eq_1) [some 0,some 1] []) ?_
 intro i h1
 have hli:=hlen i
 by_cases hi:i<e.fields.length
 · have hx:=List.getElem?_eq_getElem hi
   have hs':=hss i hi
   have hv:=he.fv _ (List.getElem_mem hi)
   generalize e.fields[i]=f at*
   generalize tr i=o at*
   have hlf:(f.name++[61]++f.val).length≤2048:=by simp;omega
   have hlf2:=Pl (a:=((f.name++[61]++f.val).length:Int)) (b:=2048) oM
   have F:=hx;refine A6 [1,3,4,13] ?_;clear F
   refine cT ?_;have F:=hx;refine DI [1,3,4,5] ?_;clear F
   have F:=hx;refine A6 [1,3,4,5,32] ?_;clear F
   refine cT ?_;refine Do [1,3,4] ?_
   have F:=hx;refine A6 [1,3,4] ?_;clear F
   refine eE (i+1) (Fm (And.intro hs' evC.eq_1) [some 0,some 1] [])
 · have:i=e.fields.length:=by omega
   subst this
   have hli:=hlen e.fields.length
   generalize tr e.fields.length=o at*
   have q:=Hj _ o (Nat.le_refl _) oM
   refine AL [1,3,4,13] ?_
   refine cF ?_;refine Af [2] ?_ (onc 1 (bcq [1] q) noc)
   refine AW.ret (D6 [some 0] [])
end Go.Proofs.YtpkhodjlnodagaaGreatDoor
