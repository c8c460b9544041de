/- Part 30 of the proof of PlanSkipsOnlyWhatCannotMatch. -/
import Derived.Test.YtpkhodjlnodagaaGreatDoorB15
import Derived.Test.YtpkhodjlnodagaaGreatDoorB29
set_option linter.unusedSimpArgs false
set_option linter.unusedVariables false
set_option linter.unusedSectionVars false
namespace Go.Proofs.YtpkhodjlnodagaaGreatDoor
open Go.Av
attribute [simp] EL CB
theorem Abd(l:List UInt8)(hl:l.length≤2^40):Ad Tryz.prog 167 [.sl 1 (Ab l)] [] (.sl 1 (Ab l)) []:=by
 refine acN 8 0 Tryz.func167 fun C hN hk=>?_
 repeat first|with_reducible refine AW.seq ?_|with_reducible refine AW.block ?_
 refine Fj Bh hN hk (noc) [] [0] rfl dK (fun K hK=>?_)
 simp only[go_sem,seval]
 refine hK _ _ ?_
 clear hK K
 repeat first|with_reducible refine CH ?_|with_reducible refine As ?_
 repeat first|refine AW.seq ?_|refine AW.block ?_
 refine ME ?_
 refine OW.run hN hk noc [] [0,3] rfl 1 dC dK (fun K hK=>?_)
 unfold Px
 simp only[go_sem,seval]
 refine hK _ _ ?_
 clear hK K
 refine OW.nil (d:=4) (t:=3) (xt:=22) (e:=5) (BU _) rfl rfl rfl rfl (by rw[hN];decide) rfl D22 ?_
 intro b hb
 refine OW.done dC (As ?_)
 cases b with
 |true=>
   rw[hb rfl]
   repeat first|with_reducible refine AW.seq ?_|with_reducible refine AW.block ?_
   refine AX rfl ?_
   try first|refine AW.skip ?_|refine AW.exit ?_
   repeat first|with_reducible refine Ba ?_|with_reducible refine BZ ?_|with_reducible refine KF dC ?_|with_reducible refine CH ?_|with_reducible refine As ?_
   repeat first|with_reducible refine AW.seq ?_|with_reducible refine AW.block ?_
   refine Fj Bh hN hk (noc) [] [2] rfl dK (fun K hK=>?_)
   simp only[go_sem,seval]
   refine hK _ _ ?_
   clear hK K
   repeat first|with_reducible refine CH ?_|with_reducible refine As ?_
   refine AW.ret ⟨.inl rfl,_,_,[],[],rfl,sP,⟨by simp[Al],by simp[Al],sP⟩,sP,by first|(simp[Az,lk,lkh,I,str,B,U8,U64,U32,I];done)|(simp[Az,lk,lkh,I,str,B,U8,U64,U32,I];omega)|simp[Az,lk,lkh,I,str,B,U8,U64,U32,I],by first|(simp[Am,Ai,Ak,lkh,I];done)|(simp[Am,Ai,Ak,lkh,I,str,I];done)|simp[Am,Ai,Ak,lkh,I,str,I]⟩
 |false=>
   clear hb
   repeat first|with_reducible refine AW.seq ?_|with_reducible refine AW.block ?_
   refine Ay rfl ?_
   try first|refine AW.skip ?_|refine AW.exit ?_
   repeat first|with_reducible refine Ba ?_|with_reducible refine BZ ?_|with_reducible refine KF dC ?_|with_reducible refine CH ?_|with_reducible refine As ?_
   repeat first|with_reducible refine AW.seq ?_|with_reducible refine AW.block ?_
   refine Fj Bh hN hk (noc) [] [2] rfl dK (fun K hK=>?_)
   simp only[go_sem,seval]
   first|with_reducible refine hK _ _ ?_|refine⟨by(repeat' (with_reducible refine And.intro ?_ ?_))<;>first|with_reducible exact True.intro|omega|exact B2 _|with_reducible assumption|decide|(simp;done)|(simp;omega),hK _ _ ?_⟩
   clear hK K
   repeat first|with_reducible refine CH ?_|with_reducible refine As ?_
   refine AW.ret ⟨.inl rfl,_,_,[],[0],rfl,sP,⟨by simp[Al],by simp[Al],sP⟩,sP,by first|(simp[Az,lk,lkh,I,str,B,U8,U64,U32,I];done)|(simp[Az,lk,lkh,I,str,B,U8,U64,U32,I];omega)|simp[Az,lk,lkh,I,str,B,U8,U64,U32,I],by first|(simp[Am,Ai,Ak,lkh,I];done)|(simp[Am,Ai,Ak,lkh,I,str,I];done)|simp[Am,Ai,Ak,lkh,I,str,I]⟩
theorem Zl(l:List Int)(hl:l.length≤2^40):Ad Tryz.prog 120 [.sl 1 (An l)] [] (.sl 1 (An l)) []:=by
 refine acN 8 0 Tryz.func120 fun C hN hk=>?_
 repeat first|with_reducible refine AW.seq ?_|with_reducible refine AW.block ?_
 refine Fj Bh hN hk (noc) [] [0] rfl dK (fun K hK=>?_)
 simp only[go_sem,seval]
 refine hK _ _ ?_
 clear hK K
 repeat first|with_reducible refine CH ?_|with_reducible refine As ?_
 repeat first|refine AW.seq ?_|refine AW.block ?_
 refine ME ?_
 refine OW.run hN hk noc [] [0,3] rfl 1 dC dK (fun K hK=>?_)
 unfold Px
 simp only[go_sem,seval]
 refine hK _ _ ?_
 clear hK K
 refine OW.nil (d:=4) (t:=3) (xt:=43) (e:=3) (BU _) rfl rfl rfl rfl (by rw[hN];decide) rfl D43 ?_
 intro b hb
 refine OW.done dC (As ?_)
 cases b with
 |true=>
   rw[hb rfl]
   repeat first|with_reducible refine AW.seq ?_|with_reducible refine AW.block ?_
   refine AX rfl ?_
   try first|refine AW.skip ?_|refine AW.exit ?_
   repeat first|with_reducible refine Ba ?_|with_reducible refine BZ ?_|with_reducible refine KF dC ?_|with_reducible refine CH ?_|with_reducible refine As ?_
   repeat first|with_reducible refine AW.seq ?_|with_reducible refine AW.block ?_
   refine Fj Bh hN hk (noc) [] [2] rfl dK (fun K hK=>?_)
   simp only[go_sem,seval]
   refine hK _ _ ?_
   clear hK K
   repeat first|with_reducible refine CH ?_|with_reducible refine As ?_
   refine AW.ret ⟨.inl rfl,_,_,[],[],rfl,sP,⟨by simp[Al],by simp[Al],sP⟩,sP,by first|(simp[Az,lk,lkh,I,str,B,U8,U64,U32,I];done)|(simp[Az,lk,lkh,I,str,B,U8,U64,U32,I];omega)|simp[Az,lk,lkh,I,str,B,U8,U64,U32,I],by first|(simp[Am,Ai,Ak,lkh,I];done)|(simp[Am,Ai,Ak,lkh,I,str,I];done)|simp[Am,Ai,Ak,lkh,I,str,I]⟩
 |false=>
   clear hb
   repeat first|with_reducible refine AW.seq ?_|with_reducible refine AW.block ?_
   refine Ay rfl ?_
   try first|refine AW.skip ?_|refine AW.exit ?_
   repeat first|with_reducible refine Ba ?_|with_reducible refine BZ ?_|with_reducible refine KF dC ?_|with_reducible refine CH ?_|with_reducible refine As ?_
   repeat first|with_reducible refine AW.seq ?_|with_reducible refine AW.block ?_
   refine Fj Bh hN hk (noc) [] [2] rfl dK (fun K hK=>?_)
   simp only[go_sem,seval]
   first|with_reducible refine hK _ _ ?_|refine⟨by(repeat' (with_reducible refine And.intro ?_ ?_))<;>first|with_reducible exact True.intro|omega|exact B2 _|with_reducible assumption|decide|(simp;done)|(simp;omega),hK _ _ ?_⟩
   clear hK K
   repeat first|with_reducible refine CH ?_|with_reducible refine As ?_
   refine AW.ret ⟨.inl rfl,_,_,[],[0],rfl,sP,⟨by simp[Al],by simp[Al],sP⟩,sP,by first|(simp[Az,lk,lkh,I,str,B,U8,U64,U32,I];done)|(simp[Az,lk,lkh,I,str,B,U8,U64,U32,I];omega)|simp[Az,lk,lkh,I,str,B,U8,U64,U32,I],by first|(simp[Am,Ai,Ak,lkh,I];done)|(simp[Am,Ai,Ak,lkh,I,str,I];done)|simp[Am,Ai,Ak,lkh,I,str,I]⟩
def vB(v i:Nat):Nat:=if v / 128^i<128 then v / 128^i else v / 128^i%128+128
theorem We(v:Nat):vB v 0=if v<128 then v else v%128+128:=by simp[vB]
theorem vB_s(v i:Nat):vB v (i+1)=vB (v / 128) i:=by
 have e:v / 128^(i+1)=v / 128 / 128^i:=by rw[Nat.div_div_eq_div_mul,Nat.pow_succ,Nat.mul_comm]
 simp only[vB,e]
theorem AeT(v i:Nat):vB v i%128=v / 128^i%128:=by
 unfold vB
 split
 · rfl
 · omega
theorem Yy(v i:Nat):vB v i<128↔v / 128^i<128:=by
 unfold vB
 split<;>omega
theorem QS{v i:Nat}(h:128^(i+1)≤v):128≤v∧128^i≤v / 128:=by
 have h1:128^(i+1)=128^i*128:=Nat.pow_succ ..
 have h2:1≤128^i:=Nat.pow_pos dC
 refine⟨oM,?_⟩
 rw[Nat.le_div_iff_mul_le dC];omega
theorem Nk: ∀ (f v i:Nat),v<128^(f+1)→(i=0∨128^i≤v)→ ∃ c:UInt8,(BL f v)[i]? =some c∧c.toNat=vB v i
 |0,v,i,h,hi=>by
   rcases hi with rfl|hi
   · exact⟨UInt8.ofNat v,rfl,by rw[We,if_pos oM,ofNat_toNat _ oM]⟩
   · cases i with
     |zero=>exact⟨UInt8.ofNat v,rfl,by rw[We,if_pos oM,ofNat_toNat _ oM]⟩
     |succ i=>have:=QS hi;omega
 |f+1,v,i,h,hi=>by
   rw[BL]
   cases i with
   |zero=>
     by_cases hv:v<128
     · rw[if_pos hv];exact⟨_,rfl,by rw[We,if_pos hv,ofNat_toNat _ oM]⟩
     · rw[if_neg hv];exact⟨_,rfl,by rw[We,if_neg hv,ofNat_toNat _ oM]⟩
   |succ i=>
     obtain⟨h1,h2⟩:=QS (hi.resolve_left oM)
     rw[if_neg oM,vB_s]
     simp only[List.getElem?_cons_succ]
     refine Nk f (v / 128) i ?_ (.inr h2)
     rw[Nat.div_lt_iff_lt_mul dC]
     rwa [Nat.pow_succ]at h
theorem OV: ∀ (f v i:Nat),v<128^(f+1)→(i=0∨128^i≤v)→v / 128^i<128→(BL f v).length=i+1
 |0,v,i,h,hi,hl=>by
   cases i with
   |zero=>rfl
   |succ i=>have:=QS (hi.resolve_left oM);omega
 |f+1,v,i,h,hi,hl=>by
   rw[BL]
   cases i with
   |zero=>rw[if_pos (by simpa using hl)];rfl
   |succ i=>
     obtain⟨h1,h2⟩:=QS (hi.resolve_left oM)
     rw[if_neg oM,List.length_cons,OV f (v / 128) i (by rw[Nat.div_lt_iff_lt_mul dC];rwa [Nat.pow_succ]at h) (.inr h2) (by rwa [Nat.div_div_eq_div_mul,Nat.mul_comm,← Nat.pow_succ])]
theorem OP(v i:Nat)(R b:List UInt8)(hb:b=Ap v++R)(hv:v<2^64)(hi:i=0∨128^i≤v):
   ∃ c:UInt8,b[i]? =some c∧c.toNat%128=v / 128^i%128∧(c.toNat<128→v%128^(i+1)=v∧b.drop (i+1)=R∧i+1≤b.length)∧(¬ c.toNat<128→128^(i+1)≤v):=by
 have hv2:v<128^(10+1):=Nat.lt_of_lt_of_le hv dC
 obtain⟨c,h1,h2⟩:=Nk 10 v i hv2 hi
 have hlt:i<(Ap v).length:=by
   rcases Nat.lt_or_ge i (Ap v).length with h|h
   · exact h
   · rw[show BL 10 v=Ap v from rfl,List.getElem?_eq_none h]at h1;cases h1
 refine⟨c,by rw[hb,List.getElem?_append_left hlt];exact h1,by rw[h2,AeT],fun hc=>?_,fun hc=>?_⟩
 · rw[h2,Yy]at hc
   have hl:(Ap v).length=i+1:=OV 10 v i hv2 hi hc
   refine⟨?_,by rw[hb,← hl,List.drop_left],by rw[hb,List.length_append];omega⟩
   refine Nat.mod_eq_of_lt ?_
   rw[Nat.pow_succ,Nat.mul_comm,← Nat.div_lt_iff_lt_mul (Nat.pow_pos dC)]
   exact hc
 · rw[h2,Yy]at hc
   have h128:0<128^i:=Nat.pow_pos dC
   have:128≤v / 128^i:=by omega
   rw[Nat.le_div_iff_mul_le h128]at this
   rw[Nat.pow_succ];omega
theorem QX{i k v:Nat}(h:128^i≤v)(hv:v<128^k):i<k:=(Nat.pow_lt_pow_iff_right dC).1 (Nat.lt_of_le_of_lt h hv)
theorem p128(i:Nat):128^i=2^(7*i):=by rw[Nat.pow_mul]
theorem vAcc(v i:Nat):(v%128^i) ||| ((v / 128^i%128)*2^(7*i))=v%128^(i+1):=by
 have h:v%128^i<2^(7*i):=by rw[← p128];exact Nat.mod_lt _ (Nat.pow_pos dC)
 rw[Nat.or_comm,Nat.mul_comm,← Nat.two_pow_add_eq_or_of_lt h,← p128,Nat.pow_succ,Nat.mod_mul,Nat.add_comm]
theorem Zp(a b:Nat)(ha:a<2^63)(hb:b<2^63):AP .or .i64 (a:Int) (b:Int)=((a ||| b:Nat):Int):=by
 simp only[AP]
 have e:IntKind.i64.bits=64:=rfl
 rw[BitVec.toNat_or,BitVec.ofInt_natCast,BitVec.ofInt_natCast,BitVec.toNat_ofNat,BitVec.toNat_ofNat,e,Nat.mod_eq_of_lt oM,Nat.mod_eq_of_lt oM]
 have:=Nat.or_lt_two_pow ha hb
 exact Ar oM
theorem Lg(c:UInt8):AP .and .u8 (c.toNat:Int) 127=((c.toNat%128:Nat):Int):=by
 have h2: ∀ x:Fin 256,AP .and .u8 ((x.val:Nat):Int) 127=((x.val%128:Nat):Int):=by decide+kernel
 exact h2 ⟨c.toNat,c.toNat_lt⟩
theorem vM{v:Nat}(i:Nat)(h:v<2^62):v%128^(i+1)<2^62:=Nat.lt_of_le_of_lt (Nat.mod_le _ _) h
theorem PV(v i:Nat)(c:UInt8)(hv:v<2^62)(hi:i≤9)(h1:c.toNat%128=v / 128^i%128):
   AP .or .i64 ((v%128^i:Nat):Int) (IntKind.i64.wrap (((c.toNat%128:Nat):Int)*2^min (7*(i:Int)).toNat 64))=((v%128^(i+1):Nat):Int):=by
 have e0:min (7*(i:Int)).toNat 64=7*i:=by omega
 have e1:(((c.toNat%128:Nat):Int)*2^(7*i))=((c.toNat%128*2^(7*i):Nat):Int):=by push_cast;rfl
 have e2:=vAcc v i
 rw[← h1]at e2
 have e3:c.toNat%128*2^(7*i)≤v%128^(i+1):=by rw[← e2];exact Nat.right_le_or
 have e4:=vM i hv
 rw[e0,e1,Ar oM,Zp _ _ (by have:=Nat.mod_le v (128^i);omega) oM,e2]
attribute [go_sem] List.take_length List.drop_drop bne_self_eq_false beq_self_eq_true
end Go.Proofs.YtpkhodjlnodagaaGreatDoor
namespace Go.Proofs.YtpkhodjlnodagaaGreatDoor
open Go.Av
set_option maxHeartbeats 4000000
set_option maxRecDepth 10000
attribute [local irreducible] XH XO Ae Ad AU
abbrev cuE(T:Nat)(b:List UInt8)(bad:Bool):Ent:=⟨T,2,[[.sl 1 (Ab b),B bad]]⟩
theorem OG(v:Nat)(R b:List UInt8)(hb:b=Ap v++R)(hv:v<16384)(hl:b.length≤2^40):Ae Tryz.prog 175 [.sl 1 (Ab b)] (fun r=>r= .tup [I v,.sl 1 (Ab R),B true]):=by
 refine Ax 38 Tryz.func175 ?_
 refine Aa 0 [0] ?_
 refine Aa 1 [0,5] ?_
 refine Aa 2 [0,5,6] ?_
 refine A8 0 (fun i:Nat=>⟨[(0,.sl 1 (Ab b)),(5,I (v%128^i:Nat)),(6,I i)],[]⟩) (fun i=>i≤1∧(i=0∨128^i≤v)) (fun i=>2-i) 0 (AO (And.intro @Nat.mod_one (And.intro cuE.eq_1 B.eq_1)) [] []) ?_ (h0:=by simp);rintro i hI0 Y0 hY0;skip
 refine XW.at 3 ?_;obtain⟨m1,m2⟩:=hI0;obtain⟨c,hc,h1,h2,h3⟩:=OP v i R b hb oM m2;have hbl:=(List.getElem?_eq_some_iff.1 hc).1
 refine Ah 3 ?_
 refine Ac 5 ?_
 refine Cn 11 (fun g11=>?_) (fun g11=>?_)
 any_goals(exfalso;omega)
 refine Ac 3 ?_
 refine XO.done [0,5,6,14] ?_
 refine AC 14 (fun c14=>?_) (fun c14=>?_)
 any_goals(exfalso;omega)
 refine XW.at 5 ?_;have hx:=hc;have hx2:=Lg c;have hcl:=c.toNat_lt
 refine Ah 5 ?_
 refine A2 11 ?_
 have hx:=PV v i c oM oM h1
 refine Aw 1 ?_
 refine XO.done [0,5,6] ?_
 refine XW.at 6 ?_;have hx:=hc
 refine BJ 6 [0,5,6,32] ?_
 refine AC 32 (fun c32=>?_) (fun c32=>?_)
 refine A4 7 [2,3,4] ?_
 refine Aq ?_;((have h9:=h2 oM;obtain⟨e1,e2,e3⟩:=h9;refine Bo ?_;simp[Az,I,B,e1,e2,show((i:Int)+1).toNat=i+1 by omega]))
 refine AQ 4 [0,5,6] ?_
 refine XH.le ?_;(exact hY0 (i+1) (⟨by have:=QX (k:=2) (h3 oM) oM;omega,.inr (h3 oM)⟩) (by first|omega|(simp;done)|(simp;omega)) _ _ (E7 [] []))
theorem Wb{b:List UInt8}{i:Nat}{c:UInt8}(h:b[i]? =some c):((b.drop i).take 1)[0]? =some c:=by
 rw[List.getElem?_take];simpa using h
theorem Ae9(v i:Nat)(c:UInt8)(hv:v<2^64)(hi:i≤9)(h1:c.toNat%128=v / 128^i%128):
   AP .or .u64 ((v%128^i:Nat):Int) (IntKind.u64.wrap (((c.toNat%128:Nat):Int)*2^min (7*(i:Int)).toNat 64))=((v%128^(i+1):Nat):Int):=by
 have e0:min (7*(i:Int)).toNat 64=7*i:=by omega
 have e1:(((c.toNat%128:Nat):Int)*2^(7*i))=((c.toNat%128*2^(7*i):Nat):Int):=by push_cast;rfl
 have e2:=vAcc v i
 rw[← h1]at e2
 have e3:c.toNat%128*2^(7*i)≤v%128^(i+1):=by rw[← e2];exact Nat.right_le_or
 have e4:=Nat.mod_le v (128^(i+1))
 rw[e0,e1,Fp oM,orU _ _ (by have:=Nat.mod_le v (128^i);omega) oM,e2]
theorem PQ(T:Nat)(b:List UInt8)(n:Nat)(hn:n≤b.length)(hl:b.length≤2^40):AU Tryz.prog 115 2 [I n] (cuE T b false) (fun r e=>r= .sl 1 (Ab (b.take n))∧e=cuE T (b.drop n) false):=by
 all_goals refine Eb 39 (fn:=Tryz.f115) Tryz.func115 rfl rfl rfl sP rfl ?_
 refine Aa 0 [0,1] ?_
 refine Ah 1 ?_
 refine Ac 3 ?_
 refine BQ 8 ?_
 refine Ac 8 ?_
 refine XO.done [0,1,16] ?_
 refine AC 16 (fun c16=>?_) (fun c16=>?_)
 exfalso;omega
 refine A4 4 [0,1,5] ?_
 refine A4 5 [5] ?_
 refine Aa 6 [4] ?_
 refine Aq ?_;((refine G4 ?_;simp[Az,cuE,B]))
theorem Kv(T:Nat)(x R b:List UInt8)(hb:b=AE x++R)(hx0:x.length<2^31)(hl:b.length≤2^40):AU Tryz.prog 63 2 [] (cuE T b false) (fun r e=>r= .sl 1 (Ab x)∧e=cuE T R false):=by
 have hb2:b=Ap x.length++(x++R):=by rw[hb,AE,List.append_assoc]
 all_goals refine Eb 36 (fn:=Tryz.f63) Tryz.func63 rfl rfl rfl sP rfl ?_
 refine Aa 0 [0] ?_
 refine Aa 1 [0,3] ?_
 refine Aa 2 [0,3,6] ?_
 refine A8 1 (fun i:Nat=>⟨[(0,.ptr 0 2 0 0),(3,I (x.length%128^i:Nat)),(6,I i)],[(0,some (cuE T (b.drop i) false))]⟩) (fun i=>i≤4∧(i=0∨128^i≤x.length)) (fun i=>5-i) 0 (AO (And.intro @Nat.mod_one (And.intro cuE.eq_1 B.eq_1)) [some 0] []) ?_ (h0:=by simp);rintro i hI0 Y0 hY0;skip
 refine XW.at 3 ?_;obtain⟨m1,m2⟩:=hI0;obtain⟨c,hc,h1,h2,h3⟩:=OP x.length i _ b hb2 oM m2;have hbl:=(List.getElem?_eq_some_iff.1 hc).1;have hc1:=Wb hc;have hcl:=c.toNat_lt
 refine Aa 3 [0,3,6,7] ?_
 refine AC 7 (fun c7=>?_) (fun c7=>?_)
 any_goals(exfalso;omega)
 refine Aa 4 [0,3,4,6] ?_
 refine Ah 5 ?_
 refine Ac 1 ?_
 refine BW 0 (PQ T (b.drop i) 1 (by rw[List.length_drop];omega) (by rw[List.length_drop];omega)) ?_;rintro _ _ ⟨rfl,rfl⟩
 refine Ac 1 ?_
 refine XO.done [0,3,4,5,6] ?_
 refine Aa 6 [0,3,4,5,6,14] ?_
 refine A3 14 ?_
 refine XW.at 8 ?_;have hx:=hc1;have hx2:=Lg c
 refine Ah 8 ?_
 refine A2 10 ?_
 have hx:=PV x.length i c oM oM h1
 refine Aw 1 ?_
 refine XO.done [0,3,5,6] ?_
 refine XW.at 9 ?_;have hx:=hc1
 refine BJ 9 [0,3,6,28] ?_
 refine AC 28 (fun c28=>?_) (fun c28=>?_)
 refine XW.at 10 ?_;have h9:=h2 oM;obtain⟨e1,e2,e3⟩:=h9;have hx:=e2;have hx2:=e1
 refine Ah 10 ?_
 refine Aw 2 ?_
 refine BW 0 (PQ T (x++R) x.length sP (by rw[← e2,List.length_drop];omega)) ?_;rintro _ _ ⟨rfl,rfl⟩
 refine Aw 1 ?_
 refine XO.done [2] ?_
 refine Aq ?_;((refine G4 ?_;simp[Az,cuE,B]))
 refine AQ 11 [0,3,6] ?_
 refine XH.le ?_;(exact hY0 (i+1) (⟨by have:=QX (k:=5) (h3 oM) oM;omega,.inr (h3 oM)⟩) (by first|omega|(simp;done)|(simp;omega)) _ _ (AO (And.intro cuE.eq_1 B.eq_1) [some 0] []))
theorem RF(T:Nat)(v most:Nat)(R b:List UInt8)(hb:b=Ap v++R)(hv:v≤most)(hm:most<2^28)(hl:b.length≤2^40):AU Tryz.prog 171 2 [I most] (cuE T b false) (fun r e=>r=I v∧e=cuE T R false):=by
 all_goals refine Eb 50 (fn:=Tryz.f171) Tryz.func171 rfl rfl rfl sP rfl ?_
 refine Aa 0 [0,1] ?_
 refine Aa 1 [0,1,5] ?_
 refine Aa 2 [0,1,5,11,12,13] ?_
 refine A8 1 (fun i:Nat=>⟨[(0,.ptr 0 2 0 0),(1,I most),(5,I (v%128^i:Nat)),(11,.sl 1 (Ab b)),(12,I b.length),(13,I i)],[(0,some (cuE T b false))]⟩) (fun i=>i≤3∧(i=0∨128^i≤v)) (fun i=>4-i) 0 (AO (And.intro @Nat.mod_one (And.intro cuE.eq_1 B.eq_1)) [some 0] []) ?_ (h0:=by simp);rintro i hI0 Y0 hY0;skip
 refine XW.at 3 ?_;obtain⟨m1,m2⟩:=hI0;obtain⟨c,hc,h1,h2,h3⟩:=OP v i R b hb oM m2;have hbl:=(List.getElem?_eq_some_iff.1 hc).1;have hml:=Nat.mod_le v (128^(i+1))
 refine Aa 3 [0,1,5,11,12,13,14] ?_
 refine AC 14 (fun c14=>?_) (fun c14=>?_)
 any_goals(exfalso;omega)
 refine XW.at 4 ?_;have hx:=hc
 refine BJ 4 [0,1,5,6,7,11,12,13] ?_
 refine XW.at 5 ?_;have hx2:=Lg c;have hcl:=c.toNat_lt
 refine Ah 5 ?_
 refine A2 8 ?_
 have hx:=PV v i c oM oM h1
 refine Aw 1 ?_
 refine XO.done [0,1,5,6,7,11,12,13] ?_
 refine Ah 6 ?_
 refine Ac 4 ?_
 refine Cn 29 (fun g29=>?_) (fun g29=>?_)
 exfalso;omega
 refine Ac 3 ?_
 refine XO.done [0,1,5,6,7,11,12,13,32] ?_
 refine AC 32 (fun c32=>?_) (fun c32=>?_)
 exfalso;omega
 refine Aa 7 [0,1,5,6,11,12,13,34] ?_
 refine AC 34 (fun c34=>?_) (fun c34=>?_)
 refine A4 8 [5] ?_
 refine Aa 9 [4] ?_
 refine Aq ?_;((have h9:=h2 oM;obtain⟨e1,e2,e3⟩:=h9;refine G4 ?_;simp[Az,I,cuE,B,e1,e2,show((i:Int)+1).toNat=i+1 by omega]))
 refine AQ 10 [0,1,5,11,12,13] ?_
 refine XH.le ?_;(exact hY0 (i+1) (⟨by have:=QX (k:=4) (h3 oM) oM;omega,.inr (h3 oM)⟩) (by first|omega|(simp;done)|(simp;omega)) _ _ (AO (And.intro cuE.eq_1 B.eq_1) [some 0] []))
theorem Ur(T:Nat)(c:UInt8)(R:List UInt8)(hl:R.length≤2^40):AU Tryz.prog 248 2 [] (cuE T (c::R) false) (fun r e=>r=U8 c∧e=cuE T R false):=by
 all_goals refine Eb 28 (fn:=Tryz.f248) Tryz.func248 rfl rfl rfl sP rfl ?_
 refine Aa 0 [0] ?_
 refine Aa 1 [0,9] ?_
 refine A3 9 ?_
 refine XW.at 4 ?_;have hx:(c::R)[0]? =some c:=rfl
 refine BJ 4 [0,3] ?_
 refine A4 5 [3] ?_
 refine Aa 6 [2] ?_
 refine Aq ?_;((refine G4 ?_;simp[Az,cuE,B,U8]))
theorem Om(T:Nat)(v:Nat)(R b:List UInt8)(hb:b=Ap v++R)(hv:v<2^64)(hl:b.length≤2^40):AU Tryz.prog 221 2 [] (cuE T b false) (fun r e=>r=U64 v∧e=cuE T R false):=by
 all_goals refine Eb 26 (fn:=Tryz.f221) Tryz.func221 rfl rfl rfl sP rfl ?_
 refine Aa 0 [0] ?_
 refine Aa 1 [0,3] ?_
 refine Aa 2 [0,3,6] ?_
 refine A8 1 (fun i:Nat=>⟨[(0,.ptr 0 2 0 0),(3,U64 (v%128^i:Nat)),(6,I i)],[(0,some (cuE T (b.drop i) false))]⟩) (fun i=>i≤9∧(i=0∨128^i≤v)) (fun i=>10-i) 0 (AO (And.intro @Nat.mod_one (And.intro cuE.eq_1 B.eq_1)) [some 0] []) ?_ (h0:=by simp);rintro i hI0 Y0 hY0;skip
 refine XW.at 3 ?_;obtain⟨m1,m2⟩:=hI0;obtain⟨c,hc,h1,h2,h3⟩:=OP v i R b hb oM m2;have hbl:=(List.getElem?_eq_some_iff.1 hc).1;have hcd:b.drop i=c::b.drop (i+1):=List.drop_eq_getElem_cons hbl ▸ (by rw[(List.getElem?_eq_some_iff.1 hc).2])
 refine Aa 3 [0,3,6,7] ?_
 refine AC 7 (fun c7=>?_) (fun c7=>?_)
 any_goals(exfalso;omega)
 refine Aa 4 [0,3,4,6] ?_
 refine XW.at 5 ?_;have hx:=hcd
 refine Ah 5 ?_
 refine Aw 1 ?_
 refine BW 0 (Ur T c (b.drop (i+1)) (by rw[List.length_drop];omega)) ?_;rintro _ _ ⟨rfl,rfl⟩
 refine Aw 1 ?_
 refine XO.done [0,3,4,5,6] ?_
 refine XW.at 6 ?_;have hx2:=Lg c;have hcl:=c.toNat_lt
 refine Ah 6 ?_
 refine A2 8 ?_
 have hx:=Ae9 v i c oM oM h1
 refine Aw 1 ?_
 refine XO.done [0,3,5,6] ?_
 refine Aa 7 [0,3,6,20] ?_
 refine AC 20 (fun c20=>?_) (fun c20=>?_)
 refine Aa 8 [2] ?_
 refine Aq ?_;((have h9:=h2 oM;obtain⟨e1,e2,e3⟩:=h9;refine G4 ?_;simp[Az,U64,cuE,B,e1,e2]))
 refine AQ 9 [0,3,6] ?_
 refine XH.le ?_;(exact hY0 (i+1) (⟨by have:=QX (k:=10) (h3 oM) oM;omega,.inr (h3 oM)⟩) (by first|omega|(simp;done)|(simp;omega)) _ _ (AO (And.intro cuE.eq_1 B.eq_1) [some 0] []))
theorem AcG(l:List UInt8)(i:Nat)(x:UInt8)(h:l[i]? =some x):Ej (l.take (i+1))=Ej (l.take i)*256+x.toNat:=by
 rw[List.take_add_one,h];exact Pc _ _
theorem Aaf(l:List UInt8)(i:Nat)(h:i≤7):Ej (l.take i)<2^56:=by
 have h1:=SP (l.take i)
 have h2:256^(l.take i).length≤256^7:=Nat.pow_le_pow_right dC (by rw[List.length_take];omega)
 exact Nat.lt_of_lt_of_le h1 h2
theorem shl8(a:Nat)(h:a<2^56):IntKind.u64.wrap ((a:Int)*2^min 8 64)=(a:Int)*256:=by
 rw[show(2:Int)^min 8 64=256 from rfl];exact Fp oM
def enC(x:S):List AV:=[I x.length,U32 (Dq x)]
def enE(l:List S):List (List AV):=l.map enC
theorem UV(l:List S):(enE l).length=l.length:=by simp[enE]
theorem AaC(l:List S)(i:Nat):(enE l)[i]? =(l[i]?).map enC:=by simp[enE]
@[simp] theorem enE_id(k:Nat)(l:List S):AB k (enE l)=true:=by
 simp only[AB,enE,List.all_map,List.all_eq_true]
 intro x _
 rfl
theorem AaA(l:List S)(i:Nat):(enE l).take i=enE (l.take i):=by simp[enE]
theorem Adj(L:List Nat)(l:List S):BF L (enE l)=enE l:=by
 simp only[BF,enE,List.map_map]
 apply List.map_congr_left
 intro x _
 rfl
theorem Aao(l:List S)(x:S):enE l++[[.val (.int .i64 (x.length:Nat)),.val (.int .u32 (Dq x:Nat))]]=enE (l++[x]):=by simp[enE,enC,I,str]
@[simp] theorem Ajh:enE []=[]:=rfl
attribute [go_sem] UV AaC AaA Adj Aao enC
theorem Kw(T w v:Nat)(b:List UInt8)(hw:w≤8)(hv:v<256^w)(hb:b.take w=Bs v w)(hl:b.length≤2^40):AU Tryz.prog 189 2 [I w] (cuE T b false) (fun r e=>r=U64 v∧e=cuE T (b.drop w) false):=by
 have hgv:=Sa v w hv
 have hbl:w≤b.length:=by have:=congrArg List.length hb;rw[List.length_take,Ck]at this;omega
 rw[← hb]at hgv
 all_goals refine Eb 23 (fn:=Tryz.f189) Tryz.func189 rfl rfl rfl sP rfl ?_
 refine Aa 0 [0,1] ?_
 refine Aa 1 [0,1,5] ?_
 refine Ah 2 ?_
 refine Ac 2 ?_
 refine BW 0 (PQ T b w hbl hl) ?_;rintro _ _ ⟨rfl,rfl⟩
 refine Ac 2 ?_
 refine XO.done [5,10,11,12] ?_
 refine A8 1 (fun s:Nat×Nat=>⟨[(5,U64 s.2),(10,.sl 1 (Ab (b.take w))),(11,I w),(12,I s.1)],[(0,some (cuE T (b.drop w) false))]⟩) (fun s=>s.1≤w∧s.2=Ej ((b.take w).take s.1)) (fun s=>w-s.1) (0,0) (AO (And.intro cuE.eq_1 (And.intro hbl B.eq_1)) [some 0] []) ?_ (h0:=⟨sP,by simp[Ej]⟩);rintro⟨i,n⟩ hI0 Y0 hY0;skip
 refine XW.at 3 ?_;obtain⟨m1,m2⟩:=hI0;simp only at m1 m2;have htl:(b.take w).length=w:=(by rw[List.length_take];omega)
 refine Aa 3 [5,10,11,12,13] ?_
 refine AC 13 (fun c13=>?_) (fun c13=>?_)
 refine XW.at 4 ?_;obtain⟨x,hx,_⟩:=Bm (b.take w) i oM
 refine BJ 4 [5,7,10,11,12] ?_
 refine XW.at 5 ?_;have hxx:=AcG (b.take w) i x hx;have h56:=Aaf (b.take w) i oM;have hxl:=x.toNat_lt;subst m2;have hx:=shl8 _ h56;have hx2:=AbO (Ej ((b.take w).take i)) x.toNat h56 oM
 refine A4 5 [5,10,11,12] ?_
 refine AQ 6 [5,10,11,12] ?_
 refine XH.le ?_;(exact hY0 (i+1,Ej ((b.take w).take i)*256+x.toNat) (⟨by simp only;omega,hxx.symm⟩) (by first|omega|(simp;done)|(simp;omega)) _ _ (AO (And.intro cuE.eq_1 B.eq_1) [some 0] []))
 refine XW.at 7 ?_;obtain rfl:i=w:=oM
 refine Aa 7 [4] ?_
 refine Aq ?_;((refine G4 ?_;rw[m2,List.take_of_length_le oM,hgv];simp[Az,cuE,B,U64]))
theorem Aci(c:Nat)(hc:c<2^32):AP .and .u32 3988292384 (IntKind.u32.wrap (0- ((c%2:Nat):Int)))=(((if c%2=1 then 3988292384 else 0):Nat):Int):=by
 rcases Nat.mod_two_eq_zero_or_one c with h|h<;>rw[h]<;>decide
theorem Ahb(c:Nat):KK c=(c / 2) ^^^ (if c%2=1 then 3988292384 else 0):=by
 unfold KK
 split
 · rfl
 · rw[Nat.xor_zero]
theorem W0(l:List UInt8)(hl:l.length≤2^40):Ae Tryz.prog 166 [.sl 1 (Ab l)] (fun r=>r=U32 (Dq l)):=by
 refine Ax 29 Tryz.func166 ?_
 refine Aa 0 [0] ?_
 refine Aa 1 [0,3] ?_
 refine Aa 2 [3,6,7,8] ?_
 refine A8 0 (fun s:Nat×Nat=>⟨[(3,U32 s.2),(6,.sl 1 (Ab l)),(7,I l.length),(8,I s.1)],[]⟩) (fun s=>s.1≤l.length∧s.2=Gn (l.take s.1)) (fun s=>l.length-s.1) (0,4294967295) (E7 [] []) ?_ (h0:=⟨sP,by simp[Gn]⟩);rintro⟨i,c⟩ hI0 Y0 hY0;simp only at hI0
 refine XW.at 3 ?_;obtain⟨m1,rfl⟩:=hI0;have hlt:=TQ (l.take i)
 refine Aa 3 [3,6,7,8,9] ?_
 refine AC 9 (fun c9=>?_) (fun c9=>?_)
 refine XW.at 4 ?_;obtain⟨x,hx2,_⟩:=Bm l i oM;have hb:=x.toNat_lt;have hx:=hx2;have hs:=Wy l i x hx2;have hc2:=Nat.xor_lt_two_pow hlt (show x.toNat<2^32 by omega)
 refine BJ 4 [3,5,6,7,8] ?_
 refine XW.at 5 ?_;have hx2:=PI (n:=(x.toNat:Int)) oM;have hx:=LF (Gn (l.take i)) x.toNat hlt oM
 refine A4 5 [3,6,7,8] ?_
 refine Aa 6 [3,6,7,8,16] ?_
 refine A8 0 (fun s:Nat×Nat=>⟨[(3,U32 s.2),(6,.sl 1 (Ab l)),(7,I l.length),(8,I i),(16,I s.1)],[]⟩) (fun s=>s.1≤8∧s.2=Kh (Gn (l.take i) ^^^ x.toNat) s.1) (fun s=>8-s.1) (0,Gn (l.take i) ^^^ x.toNat) (E7 [] []) ?_ (h0:=⟨sP,rfl⟩);rintro⟨j,c⟩ hI1 Y1 hY1;simp only at hI1
 refine XW.at 7 ?_;obtain⟨n1,rfl⟩:=hI1;have h3:=MI hc2 j;generalize hcc:Kh (Gn (List.take i l) ^^^ x.toNat) j=c3 at*
 refine Aa 7 [3,6,7,8,16,17] ?_
 refine AC 17 (fun c17=>?_) (fun c17=>?_)
 refine XW.at 8 ?_;have hx:(c3:Int).fdiv (2^min 1 32)=((c3 / 2:Nat):Int):=fdM c3 1 32 dC;have hx2:=UG c3 h3
 refine Ah 8 ?_
 refine A2 5 ?_
 have hx:=Aci c3 h3
 refine A2 1 ?_
 have hx:=LF (c3 / 2) (if c3%2=1 then 3988292384 else 0) oM (by split<;>decide)
 refine Aw 2 ?_
 refine XO.done [3,6,7,8,16] ?_
 refine AQ 9 [3,6,7,8,16] ?_
 refine XH.le ?_;(exact hY1 (j+1,(c3 / 2) ^^^ (if c3%2=1 then 3988292384 else 0)) (⟨by simp only;omega,by simp only;rw[Kh,hcc,Ahb]⟩) (by first|omega|(simp;done)|(simp;omega)) _ _ (E7 [] []))
 refine AQ 10 [3,6,7,8] ?_
 refine XH.le ?_;(exact hY0 (i+1,c3) (⟨by simp only;omega,by simp only;rw[hs,PC,← hcc,show j=8 by omega]⟩) (by first|omega|(simp;done)|(simp;omega)) _ _ (E7 [] []))
 refine XW.at 11 ?_;obtain rfl:i=l.length:=oM;rw[List.take_length]at*;have hx:=AbW _ hlt
 refine BJ 11 [2] ?_
 refine Aq ?_;(exact Bi rfl)
theorem Ku{bs:List UInt8}{p w:Nat}{x:List UInt8}(h:(bs.take (p+w)).drop p=x):(bs.drop p).take w=x:=by rw[← h,List.drop_take];congr 1;omega
theorem RY{bs:List UInt8}{q:Nat}(p w:Nat){x:List UInt8}(h:(bs.take q).drop p=x)(hq:q=p+w):(bs.drop p).take w=x:=by subst hq;exact Ku h
theorem Ahw(ss:List S)(j:Nat)(x:S)(h:ss[j]? =some x):ss.take (j+1)=ss.take j++[x]:=by rw[List.take_add_one,h];rfl
theorem S9{bs:List UInt8}{c a z:Nat}{ss:List S}(V:SegV bs c a z ss):Ae Tryz.prog 132 [.sl 1 (Ab bs)] (fun r=>r= .tup [.agg [I c,I a,I z],.sl 2 (enE ss),I 0]):=by
 have hn:=V.b.n
 have hl:=V.len
 have hT:=V.b.total
 have bc:=V.b.c
 have ba:=V.b.a
 have bz:=V.b.z
 have hmg:=V.magic
 have f1:=Ku (p:=4) (w:=4) V.count
 have f2:=Ku (p:=8) (w:=8) V.first
 have f3:=Ku (p:=16) (w:=8) V.last
 have f4:=Ku (p:=120) (w:=4) V.hcrc
 refine Ax 63 Tryz.func132 ?_
 refine Aa 0 [0,2] ?_
 refine Aa 1 [0,2,10] ?_
 refine AC 10 (fun c10=>?_) (fun c10=>?_)
 exfalso;omega
 refine XW.at 3 ?_;have hx:=hmg
 refine A4 3 [0,2,15] ?_
 refine A3 15 ?_
 refine A4 5 [0,2,5] ?_
 refine Ah 6 ?_
 refine BW 1 (Kw 120 4 c (bs.drop 4) oM oM f1 (by rw[List.length_drop];omega)) ?_;rintro _ _ ⟨rfl,rfl⟩
 refine Gz 1 ?_
 refine BW 1 (Kw 120 8 a (bs.drop 8) oM oM f2 (by rw[List.length_drop];omega)) ?_;rintro _ _ ⟨rfl,rfl⟩
 refine Gz 1 ?_
 refine BW 1 (Kw 120 8 z (bs.drop 16) oM oM f3 (by rw[List.length_drop];omega)) ?_;rintro _ _ ⟨rfl,rfl⟩
 refine Gz 4 ?_
 refine XO.done [0,2,5,6] ?_
 refine Aa 7 [0,2,5,6,7] ?_
 refine Aa 8 [0,2,5,6,7,8] ?_
 refine Aa 9 [0,2,5,6,7,8,31] ?_
 refine A8 4 (fun j:Nat=>⟨[(0,.sl 1 (Ab bs)),(2,.ptr 0 3 0 0),(5,.ptr 1 2 0 0),(6,.ptr 2 3 0 0),(7,.osl 3 j 2),(8,I (124+CY ss j:Nat)),(31,I j)],[(0,some ⟨38,3,[[I 0,I 0,I 0]]⟩),(1,some (cuE 120 (bs.drop (24+8*j)) false)),(2,some ⟨38,3,[[I c,I a,I z]]⟩),(3,some ⟨217,2,enE (ss.take j)⟩)]⟩) (fun j=>j≤12) (fun j=>12-j) 0 (AO (And.intro cuE.eq_1 (And.intro CY.eq_1 B.eq_1)) [some 0,some 1,some 2,none] []) ?_;rintro j hI0 Y0 hY0;skip
 refine XW.at 10 ?_;have hcl:=H4 (bs.take 120)
 refine Aa 10 [0,2,5,6,7,8,31,32] ?_
 refine AC 32 (fun c32=>?_) (fun c32=>?_)
 refine XW.at 11 ?_;have hj:j<ss.length:=oM;obtain⟨x,hxj,hxm⟩:=Bm ss j hj;have hxe:ss[j]=x:=(List.getElem?_eq_some_iff.1 hxj).2;have hx32:=V.b.each x hxm;have hxc:=H4 x;have g1:=V.lenAt (j+1) (by simpa using hj) oM;have g2:=V.crcAt (j+1) (by simpa using hj) oM;simp only[Nat.add_sub_cancel,hxe]at g1 g2;have g1:=RY (16+8*(j+1)) 4 g1 oM;have g2:=RY (20+8*(j+1)) 4 g2 oM;rw[show 16+8*(j+1)=24+8*j by omega]at g1;rw[show 20+8*(j+1)=24+8*j+4 by omega]at g2;have hj8:24+8*(j+1)=24+8*j+4+4:=oM;have ho:=Jw ss j hj;rw[hxe]at ho;have htk:=Ahw ss j x hxj;have ho2:=HY ss (j+1)
 refine Ah 11 ?_
 refine BW 1 (Kw 120 4 x.length (bs.drop (24+8*j)) oM oM g1 (by rw[List.length_drop];omega)) ?_;rintro _ _ ⟨rfl,rfl⟩
 refine A2 1 ?_
 refine BW 1 (Kw 120 4 (Dq x) (bs.drop (24+8*j+4)) oM oM g2 (by rw[List.length_drop];omega)) ?_;rintro _ _ ⟨rfl,rfl⟩
 refine A2 4 ?_
 refine XO.done [0,2,5,6,7,8,9,31] ?_
 refine AQ 12 [0,2,5,6,7,8,9,31] ?_
 refine Aa 13 [0,2,5,6,7,8,31] ?_
 refine AQ 14 [0,2,5,6,7,8,31] ?_
 refine XH.le ?_;(exact eY hY0 (j+1) (AO (And.intro cuE.eq_1 (And.intro ho (And.intro hj8 (And.intro htk B.eq_1)))) [some 0,some 1,some 2,some 3] []))
 refine XW.at 15 ?_;obtain rfl:j=12:=oM;have ho12:124+CY ss 12=bs.length:=(by rw[hl];unfold CY;rw[List.take_of_length_le oM])
 refine Ah 15 ?_
 refine BW 1 (Kw 120 4 (Dq (bs.take 120)) (bs.drop 120) oM (by have:=H4 (bs.take 120);omega) f4 (by rw[List.length_drop];omega)) ?_;rintro _ _ ⟨rfl,rfl⟩
 refine A2 3 ?_
 refine AG (W0 _ sO) ?_;rintro _ rfl
 refine Ac 2 ?_
 refine XO.done [0,2,6,7,8,47] ?_
 refine A3 47 ?_
 refine XW.at 17 ?_;have hx:=ho12
 refine BJ 17 [2,6,7,55] ?_
 refine A3 55 ?_
 refine Aa 19 [2,3,4] ?_
 refine Aq ?_;(exact Agq (es:=enE (ss.take 12)) (by rw[show ss.take 12=ss from List.take_of_length_le oM];rfl) (hm:=by rw[UV,List.length_take];omega))
theorem qm1(q:Nat):((q+1:Nat):Int)-1=(q:Int):=by omega
theorem O6{bs:List UInt8}{c a z:Nat}{ss:List S}(V:SegV bs c a z ss)(q:Nat)(x:S)(hq:ss[q]? =some x):Ae Tryz.prog 111 [.sl 1 (Ab bs),I (q+1:Nat)] (fun r=>r= .tup [.sl 1 (Ab x),I 0]):=by
 have hn:=V.b.n
 have hl:=V.len
 have hT:=V.b.total
 have hq1:=(List.getElem?_eq_some_iff.1 hq).1
 have hqe:=(List.getElem?_eq_some_iff.1 hq).2
 have hs:=V.sec q hq1
 rw[hqe]at hs
 have ho1:=Jw ss q hq1
 have ho2:=HY ss (q+1)
 rw[hqe]at ho1
 refine Ax 64 Tryz.func111 ?_
 refine Aa 0 [0,1] ?_
 refine Ah 1 ?_
 refine Ac 3 ?_
 refine BQ 15 ?_
 refine Ac 3 ?_
 refine XO.done [0,1,18] ?_
 refine AC 18 (fun c18=>?_) (fun c18=>?_)
 exfalso;omega
 refine Ah 3 ?_
 refine Ac 1 ?_
 refine AG (S9 V) ?_;rintro _ rfl
 refine Ac 8 ?_
 refine XO.done [0,1,7,8] ?_
 refine Aa 4 [0,1,7,8,26] ?_
 refine A3 26 ?_
 refine Aa 6 [0,1,7,9] ?_
 refine XW.at 7 ?_;have hx:=qm1 q
 refine A4 7 [0,1,7,9,31,32,33] ?_
 refine A8 0 (fun j:Nat=>⟨[(0,.sl 1 (Ab bs)),(1,I (q+1:Nat)),(7,.sl 2 (enE ss)),(9,I (124+CY ss j:Nat)),(31,.sl 2 (enE (ss.take q))),(32,I q),(33,I j)],[]⟩) (fun j=>j≤q) (fun j=>q-j) 0 (AO CY.eq_1 [] []) ?_;rintro j hI0 Y0 hY0;skip
 refine Aa 8 [0,1,7,9,31,32,33,34] ?_
 refine AC 34 (fun c34=>?_) (fun c34=>?_)
 refine XW.at 9 ?_;have hj:j<ss.length:=oM;obtain⟨y,hxj,hxm⟩:=Bm ss j hj;have hxe:ss[j]=y:=(List.getElem?_eq_some_iff.1 hxj).2;have hx:(ss.take q)[j]? =some y:=(by rw[List.getElem?_take,if_pos oM];exact hxj);have ho:=Jw ss j hj;rw[hxe]at ho;have ho3:=HY ss (j+1)
 refine BJ 9 [0,1,7,9,11,31,32,33] ?_
 refine AQ 10 [0,1,7,9,31,32,33] ?_
 refine AQ 11 [0,1,7,9,31,32,33] ?_
 refine XH.le ?_;(exact eY hY0 (j+1) (AO ho [] []))
 refine XW.at 12 ?_;obtain rfl:j=q:=oM;have hx:=qm1 j;have hx2:=hq
 refine A4 12 [1,7,12] ?_
 refine XW.at 13 ?_;have hx:(((124+CY ss j:Nat):Int)+(x.length:Int)).toNat=124+CY ss j+x.length:=oM;have hx2:=hs
 refine Ah 13 ?_
 refine Aw 1 ?_
 refine AG (W0 _ oM) ?_;rintro _ rfl
 have hx:=qm1 j;have hx2:=hq
 refine A2 7 ?_
 refine XO.done [12,61] ?_
 refine A3 61 ?_
 refine Ah 15 ?_
 refine Ac 1 ?_
 refine AG (Ep (Abd _ oM)) ?_;rintro _ rfl
 refine Ac 2 ?_
 refine XO.done [4,5] ?_
 refine Aq ?_;(exact Bi rfl)
theorem W6{bs:List UInt8}{c a z:Nat}{ss:List S}(V:SegV bs c a z ss):Ae Tryz.prog 77 [.sl 1 (Ab bs)] (fun r=>r= .tup [.agg [I c,I a,I z],I 0]):=by
 refine Ax 15 Tryz.func77 ?_
 refine Aa 0 [0,2] ?_
 refine Ah 1 ?_
 refine Ac 1 ?_
 refine AG (S9 V) ?_;rintro _ rfl
 refine Ac 8 ?_
 refine XO.done [2,4,6] ?_
 refine Aa 2 [2,3] ?_
 refine Aq ?_;(exact Bi rfl)
def GN{α:Type}(p:α→Bool)(l:List α):Int:=match l.findIdx? p with
 |some i=>i
 |none=> -1
theorem Mj{α:Type}{p:α→Bool}{l:List α}(h: ∀ x∈l,p x=false):GN p l= -1:=by
 have:l.findIdx? p=none:=List.findIdx?_eq_none_iff.2 h
 simp only[GN,this]
theorem Ml{α:Type}{p:α→Bool}{l:List α}{i:Nat}{x:α}(h: ∀ y∈l.take i,p y=false)(hx:l[i]? =some x)(hp:p x=true):GN p l=i:=by
 have hi:=(List.getElem?_eq_some_iff.1 hx).1
 have he:=(List.getElem?_eq_some_iff.1 hx).2
 have:l.findIdx? p=some i:=by
   refine List.findIdx?_eq_some_iff_getElem.2 ⟨hi,by rw[he];exact hp,fun j hj=>?_⟩
   have:=h (l[j]'oM) (by rw[List.mem_take_iff_getElem];exact⟨j,oM,rfl⟩)
   simpa using this
 simp only[GN,this]
theorem Jt{α:Type}(p:α→Bool)(l:List α):decide (GN p l≥0)=l.any p:=by
 unfold GN
 cases h:l.findIdx? p with
 |none=>
   have:=List.findIdx?_eq_none_iff.1 h
   simp only
   symm
   rw[show decide ((-1:Int)≥0)=false from rfl,List.any_eq_false]
   intro x hx;simp[this x hx]
 |some i=>
   obtain⟨hi,hp,_⟩:=List.findIdx?_eq_some_iff_getElem.1 h
   simp only
   symm
   rw[show decide ((i:Int)≥0)=true from decide_eq_true oM,List.any_eq_true]
   exact⟨_,List.getElem_mem hi,hp⟩
theorem F4{α:Type}{p:α→Bool}{l:List α}{i:Nat}{x:α}(h: ∀ y∈l.take i,p y=false)(hx:l[i]? =some x)(hp:p x=false): ∀ y∈l.take (i+1),p y=false:=by
 rw[List.take_add_one,hx]
 intro y hy
 rcases List.mem_append.1 hy with h1|h1
 · exact h y h1
 · simp at h1;subst h1;exact hp
theorem AfW(g:Nat)(c:List AV)(p:Int→Bool)(l:List Int)(hl:l.length≤2^40)(h: ∀ x∈l,Ae Tryz.prog g [I x,.rp c] (fun r=>r=B (p x))):Ae Tryz.prog 181 [.sl 1 (An l),.fn g 0 [.rp c]] (fun r=>r=I (GN p l)):=by
 refine Ax 19 Tryz.func181 ?_
 refine Aa 0 [0,1] ?_
 refine Aa 1 [0,1,7,8] ?_
 refine A8 0 (fun i:Nat=>⟨[(0,.sl 1 (An l)),(1,.fn g 0 [.rp c]),(7,I l.length),(8,I i)],[]⟩) (fun i=>i≤l.length∧ ∀ y∈l.take i,p y=false) (fun i=>l.length-i) 0 (AO (And.intro @Pe fnV.eq_1) [] []) ?_ (h0:=by simp);rintro i hI0 Y0 hY0;skip
 refine XW.at 2 ?_;obtain⟨m1,m2⟩:=hI0
 refine Aa 2 [0,1,7,8,9] ?_
 refine AC 9 (fun c9=>?_) (fun c9=>?_)
 refine Aa 3 [0,1,5,7,8] ?_
 refine XW.at 4 ?_;obtain⟨x,hx,hxm⟩:=Bm l i oM
 refine Ah 4 ?_
 refine Aw 5 ?_
 refine Le (h x hxm) ?_;rintro _ rfl
 refine XO.done [0,1,5,7,8,16] ?_
 refine Bx 16 (fun c16=>?_) (fun c16=>?_)
 refine XW.at 5 ?_;have hfin:=Ml m2 hx c16
 refine BJ 5 [4] ?_
 refine Aq ?_;((refine Bo ?_;rw[hfin];rfl))
 refine AQ 6 [0,1,7,8] ?_
 refine XH.le ?_;(exact hY0 (i+1) (⟨oM,F4 m2 hx c16⟩) (by first|omega|(simp;done)|(simp;omega)) _ _ (AO fnV.eq_1 [] []))
 refine XW.at 7 ?_;obtain rfl:i=l.length:=oM;rw[List.take_length]at m2;have hfin:=Mj m2
 refine Aa 7 [4] ?_
 refine Aq ?_;((refine Bo ?_;rw[hfin];rfl))
theorem YW(g:Nat)(c:List AV)(p:Int→Bool)(l:List Int)(hl:l.length≤2^40)(h: ∀ x∈l,Ae Tryz.prog g [I x,.rp c] (fun r=>r=B (p x))):Ae Tryz.prog 118 [.sl 1 (An l),.fn g 0 [.rp c]] (fun r=>r=B (l.any p)):=by
 refine Ax 9 Tryz.func118 ?_
 refine Aa 0 [0,1] ?_
 refine Ah 1 ?_
 refine Ac 2 ?_
 refine AG (AfW g c p l hl h) ?_;rintro _ rfl
 refine Ac 2 ?_
 refine XO.done [4] ?_
 refine Aq ?_;((refine Bo ?_;rw[← Jt];rfl))
theorem W4(g:Nat)(c:List AV)(p:S→Bool)(l:List S)(hl:l.length≤2^40)(h: ∀ x∈l,Ae Tryz.prog g [str x,.rp c] (fun r=>r=B (p x))):Ae Tryz.prog 192 [.sl 1 (Au l),.fn g 0 [.rp c]] (fun r=>r=I (GN p l)):=by
 refine Ax 19 Tryz.func192 ?_
 refine Aa 0 [0,1] ?_
 refine Aa 1 [0,1,7,8] ?_
 refine A8 0 (fun i:Nat=>⟨[(0,.sl 1 (Au l)),(1,.fn g 0 [.rp c]),(7,I l.length),(8,I i)],[]⟩) (fun i=>i≤l.length∧ ∀ y∈l.take i,p y=false) (fun i=>l.length-i) 0 (AO (And.intro @Pe fnV.eq_1) [] []) ?_ (h0:=by simp);rintro i hI0 Y0 hY0;skip
 refine XW.at 2 ?_;obtain⟨m1,m2⟩:=hI0
 refine Aa 2 [0,1,7,8,9] ?_
 refine AC 9 (fun c9=>?_) (fun c9=>?_)
 refine Aa 3 [0,1,5,7,8] ?_
 refine XW.at 4 ?_;obtain⟨x,hx,hxm⟩:=Bm l i oM
 refine Ah 4 ?_
 refine Aw 5 ?_
 refine Le (h x hxm) ?_;rintro _ rfl
 refine XO.done [0,1,5,7,8,16] ?_
 refine Bx 16 (fun c16=>?_) (fun c16=>?_)
 refine XW.at 5 ?_;have hfin:=Ml m2 hx c16
 refine BJ 5 [4] ?_
 refine Aq ?_;((refine Bo ?_;rw[hfin];rfl))
 refine AQ 6 [0,1,7,8] ?_
 refine XH.le ?_;(exact hY0 (i+1) (⟨oM,F4 m2 hx c16⟩) (by first|omega|(simp;done)|(simp;omega)) _ _ (AO fnV.eq_1 [] []))
 refine XW.at 7 ?_;obtain rfl:i=l.length:=oM;rw[List.take_length]at m2;have hfin:=Mj m2
 refine Aa 7 [4] ?_
 refine Aq ?_;((refine Bo ?_;rw[hfin];rfl))
theorem contS1(g:Nat)(c:List AV)(p:S→Bool)(l:List S)(hl:l.length≤2^40)(h: ∀ x∈l,Ae Tryz.prog g [str x,.rp c] (fun r=>r=B (p x))):Ae Tryz.prog 243 [.sl 1 (Au l),.fn g 0 [.rp c]] (fun r=>r=B (l.any p)):=by
 refine Ax 9 Tryz.func243 ?_
 refine Aa 0 [0,1] ?_
 refine Ah 1 ?_
 refine Ac 2 ?_
 refine AG (W4 g c p l hl h) ?_;rintro _ rfl
 refine Ac 2 ?_
 refine XO.done [4] ?_
 refine Aq ?_;((refine Bo ?_;rw[← Jt];rfl))
theorem Afz(g:Nat)(p:S→Bool)(l:List S)(hl:l.length≤2^40)(h: ∀ x∈l,Ae Tryz.prog g [str x] (fun r=>r=B (p x))):Ae Tryz.prog 192 [.sl 1 (Au l),fnV g] (fun r=>r=I (GN p l)):=by
 refine Ax 19 Tryz.func192 ?_
 refine Aa 0 [0,1] ?_
 refine Aa 1 [0,1,7,8] ?_
 refine A8 0 (fun i:Nat=>⟨[(0,.sl 1 (Au l)),(1,fnV g),(7,I l.length),(8,I i)],[]⟩) (fun i=>i≤l.length∧ ∀ y∈l.take i,p y=false) (fun i=>l.length-i) 0 (AO (And.intro @Pe fnV.eq_1) [] []) ?_ (h0:=by simp);rintro i hI0 Y0 hY0;skip
 refine XW.at 2 ?_;obtain⟨m1,m2⟩:=hI0
 refine Aa 2 [0,1,7,8,9] ?_
 refine AC 9 (fun c9=>?_) (fun c9=>?_)
 refine Aa 3 [0,1,5,7,8] ?_
 refine XW.at 4 ?_;obtain⟨x,hx,hxm⟩:=Bm l i oM
 refine Ah 4 ?_
 refine Aw 5 ?_
 refine Le (h x hxm) ?_;rintro _ rfl
 refine XO.done [0,1,5,7,8,16] ?_
 refine Bx 16 (fun c16=>?_) (fun c16=>?_)
 refine XW.at 5 ?_;have hfin:=Ml m2 hx c16
 refine BJ 5 [4] ?_
 refine Aq ?_;((refine Bo ?_;rw[hfin];rfl))
 refine AQ 6 [0,1,7,8] ?_
 refine XH.le ?_;(exact hY0 (i+1) (⟨oM,F4 m2 hx c16⟩) (by first|omega|(simp;done)|(simp;omega)) _ _ (AO fnV.eq_1 [] []))
 refine XW.at 7 ?_;obtain rfl:i=l.length:=oM;rw[List.take_length]at m2;have hfin:=Mj m2
 refine Aa 7 [4] ?_
 refine Aq ?_;((refine Bo ?_;rw[hfin];rfl))
theorem AeZ(g:Nat)(p:S→Bool)(l:List S)(hl:l.length≤2^40)(h: ∀ x∈l,Ae Tryz.prog g [str x] (fun r=>r=B (p x))):Ae Tryz.prog 243 [.sl 1 (Au l),fnV g] (fun r=>r=B (l.any p)):=by
 refine Ax 9 Tryz.func243 ?_
 refine Aa 0 [0,1] ?_
 refine Ah 1 ?_
 refine Ac 2 ?_
 refine AG (Afz g p l hl h) ?_;rintro _ rfl
 refine Ac 2 ?_
 refine XO.done [4] ?_
 refine Aq ?_;((refine Bo ?_;rw[← Jt];rfl))
theorem Ada(b x:Int):Ae Tryz.prog 119 [I x,.rp [I b]] (fun r=>r=B (decide (x<0)||decide (x≥b))):=by
 refine Ax 11 Tryz.func119 ?_
 refine Aa 0 [0,1] ?_
 refine Ah 1 ?_
 refine Ac 3 ?_
 refine Cn 6 (fun g6=>?_) (fun g6=>?_)
 any_goals(refine Ac 5 ?_;refine XO.done [3] ?_;refine Aq ?_;((refine Bo ?_;simp only[Az,B];(simp[g6];done))))
end Go.Proofs.YtpkhodjlnodagaaGreatDoor
namespace Go.Proofs.YtpkhodjlnodagaaGreatDoor
open Go.Av
theorem OD: ∀ (f v:Nat),v<128^(f+1)→BL (f+1) v=BL f v
 |0,v,h=>by
   show(if v<128 then [UInt8.ofNat v]else _)=[UInt8.ofNat v]
   rw[if_pos (by simpa using h)]
 |f+1,v,h=>by
   rw[BL]
   conv=>rhs;rw[BL]
   by_cases hv:v<128
   · rw[if_pos hv,if_pos hv]
   · rw[if_neg hv,if_neg hv,OD f (v / 128) (by rw[Nat.div_lt_iff_lt_mul dC];rwa [Nat.pow_succ]at h)]
theorem Y6{v:Nat}(h:v<128):Ap v=[UInt8.ofNat v]:=by unfold Ap;rw[BL,if_pos h]
theorem Za{v:Nat}(h: ¬ v<128)(hv:v<2^64):Ap v=UInt8.ofNat (v%128+128)::Ap (v / 128):=by
 unfold Ap
 rw[BL,if_neg h,← OD 9 (v / 128) oM]
theorem MZ(n:Nat)(h:n<2^63):AP .and .i64 (n:Int) 127=((n%128:Nat):Int):=by
 simp only[AP]
 have e:IntKind.i64.bits=64:=rfl
 rw[show(127:Int)=((127:Nat):Int)from rfl,BitVec.toNat_and,BitVec.ofInt_natCast,BitVec.ofInt_natCast,BitVec.toNat_ofNat,BitVec.toNat_ofNat,e,Nat.mod_eq_of_lt oM,Nat.mod_eq_of_lt dC]
 rw[show(127:Nat)=2^7-1 from rfl,Nat.and_two_pow_sub_one_eq_mod]
 exact Ar oM
theorem Iy(n:Nat):AP .or .i64 ((n%128:Nat):Int) 128=((n%128+128:Nat):Int):=by
 have h:=Nat.two_pow_add_eq_or_of_lt (i:=7) (b:=n%128) oM 1
 rw[show(128:Int)=((128:Nat):Int)from rfl,Zp _ _ oM dC,Nat.or_comm]
 rw[show 2^7*1=128 from rfl]at h
 rw[← h,Nat.add_comm]
theorem sh7(n:Nat):(n:Int).fdiv (2^min 7 64)=((n / 128:Nat):Int):=fdM n 7 64 dC
theorem u8w(n:Nat)(h:n<256):IntKind.u8.wrap (n:Int)=(((UInt8.ofNat n).toNat:Nat):Int):=by
 rw[ofNat_toNat n h,IW,Nat.mod_eq_of_lt h]
def D4(g:Nat)(xs:List AV)(b b':List UInt8):Prop:=Ad Tryz.prog g (.osl 0 b.length 1::xs) [some ⟨5,1,Ab b⟩] (.osl 1 b'.length 1) [none,some ⟨5,1,Ab b'⟩]
def LL(g:Nat)(xs:List AV)(b':List UInt8):Prop:=Ad Tryz.prog g (.val (.slice none 0 0)::xs) [] (.osl 0 b'.length 1) [some ⟨5,1,Ab b'⟩]
section
variable {n k : Nat} {ops : Array Oper} {s0 s : AS} {G : Prop} {rem : List Oper} {ts : List Av.Touch}
theorem Fw(i:Nat){g:Nat}{xs:List AV}{b b':List UInt8}{o:Oper}(q:D4 g xs b b')(h:XO Tryz.prog n ops s0 G (k+1) rem ⟨BV o.dst (.osl (n+8*k) b'.length 1) s.env,[(n+8*k,some ⟨5,1,Ab b'⟩),(i,none)]++s.hp⟩ ((k,[i],[i,n+8*k])::ts))(hcal:FB o=some g:=by rfl)(hgd:BM ops (lk s.env) o=some true:=by rfl)
   (ha:BX o (lk s.env)= .osl i b.length 1::xs:=by rfl) (h1:lkh s.hp i=some ⟨5,1,Ab b⟩:=by rfl) (qa:AF 0 xs=true:=by rfl):XO Tryz.prog n ops s0 G k (o::rem) s ts:=by
 have e0:Bu [i] (n+8*k) 0=i:=rfl
 have e1:Bu [i] (n+8*k) 1=n+8*k:=rfl
 have hb: ∀ l:List UInt8,Cy (Bu [i] (n+8*k)) ⟨5,1,Ab l⟩=⟨5,1,Ab l⟩:=fun l=>Cr _ (A5 0 l)
 refine VL [i] (xa:= .osl 0 b.length 1::xs) (hs:=[⟨5,1,Ab b⟩]) q hcal hgd ?_ sP ⟨?_,A5 _ _,trivial⟩ sP sP ?_ sP ?_
 · rw[ha]
   simp only[BK,ren,e0]
   rw[CJ _ _ qa]
   exact Cq _ _
 · rw[h1,hb]
 · simp only[AF,AN,Bool.and_eq_true]
   exact⟨sP,EK _ _ qa⟩
 · have hw:DK (Bu [i] (n+8*k)) 0 [none,some ⟨5,1,Ab b'⟩]=[(i,none),(n+8*k,some ⟨5,1,Ab b'⟩)]:=by
     simp only[DK,Option.map_some,Option.map_none,hb,e0,Nat.zero_add,e1]
   rw[hw]
   simp only[ren,e1]
   exact h
theorem AbV{g:Nat}{xs:List AV}{b':List UInt8}{o:Oper}(q:LL g xs b')(h:XO Tryz.prog n ops s0 G (k+1) rem ⟨BV o.dst (.osl (n+8*k) b'.length 1) s.env,(n+8*k,some ⟨5,1,Ab b'⟩)::s.hp⟩ ((k,[],[n+8*k])::ts))(hcal:FB o=some g:=by rfl)(hgd:BM ops (lk s.env) o=some true:=by rfl)
   (ha:BX o (lk s.env)= .val (.slice none 0 0)::xs:=by rfl) (qa:AF 0 xs=true:=by rfl):XO Tryz.prog n ops s0 G k (o::rem) s ts:=by
 refine HO q h (by simp[ren,Bu]) (A5 0 b') hcal hgd ha ?_
 simp only[AF,AN,Bool.true_and]
 exact qa
end
end Go.Proofs.YtpkhodjlnodagaaGreatDoor
namespace Go.Proofs.YtpkhodjlnodagaaGreatDoor
open Go.Av
set_option maxHeartbeats 4000000
set_option maxRecDepth 10000
attribute [local irreducible] XH XO Ae Ad AU
theorem L7{b out:List UInt8}{v w:Nat}(h:out++Ap w=b++Ap v)(hw: ¬ w<128)(h64:w<2^64):(out++[UInt8.ofNat (w%128+128)])++Ap (w / 128)=b++Ap v:=by
 rw[← h,Za hw h64];simp
theorem LH{b out:List UInt8}{v w:Nat}(h:out++Ap w=b++Ap v):out.length≤b.length+11:=by
 have:=congrArg List.length h
 have h2:=Bf v
 simp only[List.length_append]at this;omega
theorem Mp{b out:List UInt8}{v w:Nat}(h:out++Ap w=b++Ap v)(hw:w<128):out++[UInt8.ofNat w]=b++Ap v:=by
 rw[← h,Y6 hw]
theorem Em(out:S)(c:UInt8):Ab out++[[.val (.int .u8 c.toNat)]]=Ab (out++[c]):=by simp[Ab,FE]
theorem PO(b:List UInt8)(v:Nat)(hv:v<2^62)(hb:b.length≤2^45):D4 212 [I v] b (b++Ap v):=by
 unfold D4
 refine BD 21 1 Tryz.func212 ?_
 refine Aa 0 [0,1] ?_
 refine A8 2 (fun s:List UInt8×Nat=>⟨[(0,.osl 1 s.1.length 1),(1,I s.2)],[(0,none),(1,some ⟨5,1,Ab s.1⟩)]⟩) (fun s=>s.1++Ap s.2=b++Ap v∧s.2≤v) (fun s=>s.2) (b,v) (AO (And.intro @A5 @FV) [some 0,some 0] []) ?_ (h0:=⟨rfl,Nat.le_refl _⟩);rintro⟨out,w⟩ hI0 Y0 hY0;skip
 refine XW.at 1 ?_;obtain⟨m1,m2⟩:=hI0;simp only at m1 m2;have ml:=LH m1
 refine Aa 1 [0,1,6] ?_
 refine AC 6 (fun c6=>?_) (fun c6=>?_)
 refine XW.at 3 ?_;have hx:=MZ w oM;have hw128:w%128+128<256:=oM
 refine Ah 3 ?_
 refine A2 3 ?_
 have hx:=Iy w
 refine A2 1 ?_
 have hx:=Iy w;have hx2:=u8w _ hw128
 refine A2 4 ?_
 refine XO.done [0,1] ?_
 refine XW.at 2 ?_;have hx:=sh7 w
 refine A4 2 [0,1] ?_
 refine XH.le ?_;(exact hY0 (out++[UInt8.ofNat (w%128+128)],w / 128) (⟨L7 m1 oM oM,by simp only;omega⟩) (by simp only;omega) _ _ (AO (And.intro @Em @A5) [some 0,some 1] []))
 refine XW.at 4 ?_;have hx:=u8w w oM;have hf:=Mp m1 oM
 refine A4 4 [4] ?_
 refine Aq ?_;((refine XB.ret [some 0,some 1] [] (hids:=⟨by simp[Al],by simp[Al],rfl⟩) (hwk:=?_) (hwh:=?_);(next=>simp[Az,lk,lkh,wk,wkL,wkE,I,← hf]);(next=>simp[Am,Ai,Ak,lkh,Em,A5,← hf])))
theorem Abk(v:Nat)(hv:v<2^62):LL 212 [I v] (Ap v):=by
 unfold LL
 have hb:([]:List UInt8).length≤2^45:=by simp
 refine BD 21 0 Tryz.func212 ?_
 refine Aa 0 [0,1] ?_
 refine A8 1 (fun s:List UInt8×Nat=>⟨[(0,.osl 0 s.1.length 1),(1,I s.2)],[(0,some ⟨5,1,Ab s.1⟩)]⟩) (fun s=>s.1++Ap s.2=[]++Ap v∧s.2≤v) (fun s=>s.2) ([],v) (AO (And.intro @A5 @FV) [none] []) ?_ (h0:=⟨rfl,Nat.le_refl _⟩);rintro⟨out,w⟩ hI0 Y0 hY0;skip
 refine XW.at 1 ?_;obtain⟨m1,m2⟩:=hI0;simp only at m1 m2;have ml:=LH m1
 refine Aa 1 [0,1,6] ?_
 refine AC 6 (fun c6=>?_) (fun c6=>?_)
 refine XW.at 3 ?_;have hx:=MZ w oM;have hw128:w%128+128<256:=oM
 refine Ah 3 ?_
 refine A2 3 ?_
 have hx:=Iy w
 refine A2 1 ?_
 have hx:=Iy w;have hx2:=u8w _ hw128
 refine A2 4 ?_
 refine XO.done [0,1] ?_
 refine XW.at 2 ?_;have hx:=sh7 w
 refine A4 2 [0,1] ?_
 refine XH.le ?_;(exact hY0 (out++[UInt8.ofNat (w%128+128)],w / 128) (⟨L7 m1 oM oM,by simp only;omega⟩) (by simp only;omega) _ _ (AO (And.intro @Em @A5) [some 0] []))
 refine XW.at 4 ?_;have hx:=u8w w oM;have hf:=Mp m1 oM
 refine A4 4 [4] ?_
 refine Aq ?_;((rw[List.nil_append]at hf;refine XB.ret [some 0] [] (hids:=⟨by simp[Al],by simp[Al],rfl⟩) (hwk:=?_) (hwh:=?_);(next=>simp[Az,lk,lkh,wk,wkL,wkE,I,← hf]);(next=>simp[Am,Ai,Ak,lkh,Em,A5,← hf])))
theorem PF(b:List UInt8)(v:Nat)(hv:v<2^62)(hb:b.length≤2^45):D4 215 [I v] b (b++Ap v):=by
 unfold D4
 refine BD 21 1 Tryz.func215 ?_
 refine Aa 0 [0,1] ?_
 refine A8 2 (fun s:List UInt8×Nat=>⟨[(0,.osl 1 s.1.length 1),(1,I s.2)],[(0,none),(1,some ⟨5,1,Ab s.1⟩)]⟩) (fun s=>s.1++Ap s.2=b++Ap v∧s.2≤v) (fun s=>s.2) (b,v) (AO (And.intro @A5 @FV) [some 0,some 0] []) ?_ (h0:=⟨rfl,Nat.le_refl _⟩);rintro⟨out,w⟩ hI0 Y0 hY0;skip
 refine XW.at 1 ?_;obtain⟨m1,m2⟩:=hI0;simp only at m1 m2;have ml:=LH m1
 refine Aa 1 [0,1,6] ?_
 refine AC 6 (fun c6=>?_) (fun c6=>?_)
 refine XW.at 3 ?_;have hx:=MZ w oM;have hw128:w%128+128<256:=oM
 refine Ah 3 ?_
 refine A2 3 ?_
 have hx:=Iy w
 refine A2 1 ?_
 have hx:=Iy w;have hx2:=u8w _ hw128
 refine A2 4 ?_
 refine XO.done [0,1] ?_
 refine XW.at 2 ?_;have hx:=sh7 w
 refine A4 2 [0,1] ?_
 refine XH.le ?_;(exact hY0 (out++[UInt8.ofNat (w%128+128)],w / 128) (⟨L7 m1 oM oM,by simp only;omega⟩) (by simp only;omega) _ _ (AO (And.intro @Em @A5) [some 0,some 1] []))
 refine XW.at 4 ?_;have hx:=u8w w oM;have hf:=Mp m1 oM
 refine A4 4 [4] ?_
 refine Aq ?_;((refine XB.ret [some 0,some 1] [] (hids:=⟨by simp[Al],by simp[Al],rfl⟩) (hwk:=?_) (hwh:=?_);(next=>simp[Az,lk,lkh,wk,wkL,wkE,I,← hf]);(next=>simp[Am,Ai,Ak,lkh,Em,A5,← hf])))
theorem ZY(v:Nat)(hv:v<2^62):LL 215 [I v] (Ap v):=by
 unfold LL
 have hb:([]:List UInt8).length≤2^45:=by simp
 refine BD 21 0 Tryz.func215 ?_
 refine Aa 0 [0,1] ?_
 refine A8 1 (fun s:List UInt8×Nat=>⟨[(0,.osl 0 s.1.length 1),(1,I s.2)],[(0,some ⟨5,1,Ab s.1⟩)]⟩) (fun s=>s.1++Ap s.2=[]++Ap v∧s.2≤v) (fun s=>s.2) ([],v) (AO (And.intro @A5 @FV) [none] []) ?_ (h0:=⟨rfl,Nat.le_refl _⟩);rintro⟨out,w⟩ hI0 Y0 hY0;skip
 refine XW.at 1 ?_;obtain⟨m1,m2⟩:=hI0;simp only at m1 m2;have ml:=LH m1
 refine Aa 1 [0,1,6] ?_
 refine AC 6 (fun c6=>?_) (fun c6=>?_)
 refine XW.at 3 ?_;have hx:=MZ w oM;have hw128:w%128+128<256:=oM
 refine Ah 3 ?_
 refine A2 3 ?_
 have hx:=Iy w
 refine A2 1 ?_
 have hx:=Iy w;have hx2:=u8w _ hw128
 refine A2 4 ?_
 refine XO.done [0,1] ?_
 refine XW.at 2 ?_;have hx:=sh7 w
 refine A4 2 [0,1] ?_
 refine XH.le ?_;(exact hY0 (out++[UInt8.ofNat (w%128+128)],w / 128) (⟨L7 m1 oM oM,by simp only;omega⟩) (by simp only;omega) _ _ (AO (And.intro @Em @A5) [some 0] []))
 refine XW.at 4 ?_;have hx:=u8w w oM;have hf:=Mp m1 oM
 refine A4 4 [4] ?_
 refine Aq ?_;((rw[List.nil_append]at hf;refine XB.ret [some 0] [] (hids:=⟨by simp[Al],by simp[Al],rfl⟩) (hwk:=?_) (hwh:=?_);(next=>simp[Az,lk,lkh,wk,wkL,wkE,I,← hf]);(next=>simp[Am,Ai,Ak,lkh,Em,A5,← hf])))
def CP(a b:S)(n:Nat):Prop:=(∀ j,j<n→ ∃ x,a[j]? =some x∧b[j]? =some x)∧ ¬ ∃ x,a[n]? =some x∧b[n]? =some x
theorem CP.sym{a b:S}{n:Nat}(h:CP a b n):CP b a n:=⟨fun j hj=>by obtain⟨x,h1,h2⟩:=h.1 j hj;exact⟨x,h2,h1⟩,fun⟨x,h1,h2⟩=>h.2 ⟨x,h2,h1⟩⟩
theorem CP.uniq{a b:S}{n m:Nat}(h:CP a b n)(k:CP a b m):n=m:=by
 rcases Nat.lt_trichotomy n m with h1|h1|h1
 · exact absurd (k.1 n h1) h.2
 · exact h1
 · exact absurd (h.1 m h1) k.2
theorem Sb(a b:S): ∀ f i,a.length-i≤f→(∀ j,j<i→ ∃ x,a[j]? =some x∧b[j]? =some x)→CP a b (FK a b f i)
 |0,i,hf,h=>⟨h,fun⟨x,h1,_⟩=>by
   have:=(List.getElem?_eq_some_iff.1 h1).1
   simp only[FK]at this;omega⟩
 |f+1,i,hf,h=>by
   rw[FK]
   split
   · rename_i x y hx hy
     split
     · next he=>
       subst he
       refine Sb a b f (i+1) oM (fun j hj=>?_)
       rcases Nat.lt_or_ge j i with h1|h1
       · exact h j h1
       · obtain rfl:j=i:=by omega
         exact⟨x,hx,hy⟩
     · next he=>exact⟨h,fun⟨z,h1,h2⟩=>he (by rw[hx]at h1;rw[hy]at h2;cases h1;cases h2;rfl)⟩
   · next hn=>exact⟨h,fun⟨z,h1,h2⟩=>hn z z h1 h2⟩
theorem Mw(a b:S):CP a b (Cu a b):=Sb a b _ 0 oM (fun j hj=>by omega)
theorem WT(a b:S):Cu a b=Cu b a:=(Mw a b).uniq (Mw b a).sym
theorem Ach{a b:S}{n:Nat}(h:CP a b n):Cu a b=n:=(Mw a b).uniq h
theorem cp_s{a b:S}{i:Nat}{x:UInt8}(h: ∀ j,j<i→ ∃ x,a[j]? =some x∧b[j]? =some x)(h1:a[i]? =some x)(h2:b[i]? =some x): ∀ j,j<i+1→ ∃ x,a[j]? =some x∧b[j]? =some x:=by
 intro j hj
 rcases Nat.lt_or_ge j i with h0|h0
 · exact h j h0
 · obtain rfl:j=i:=by omega
   exact⟨x,h1,h2⟩
theorem Af4{x y:UInt8}:((x.toNat:Int)=(y.toNat:Int))↔x=y:=⟨fun h=>UInt8.toNat_inj.1 oM,fun h=>by rw[h]⟩
theorem AfI{d:List S}(hp:d.Pairwise ltS){i:Nat}{x y:S}(h1:d[i]? =some x)(h2:d[i+1]? =some y):Op.bytesLess x y=true:=by
 obtain⟨a1,rfl⟩:=List.getElem?_eq_some_iff.1 h1
 obtain⟨a2,rfl⟩:=List.getElem?_eq_some_iff.1 h2
 exact List.pairwise_iff_getElem.1 hp i (i+1) a1 a2 oM
theorem Abw(i:Nat):((i:Int)).tmod 16=((i%16:Nat):Int):=by rw[Int.tmod_eq_emod_of_nonneg oM];omega
theorem AgH{a b:Nat}:(((a:Int) !=(b:Int)))=decide (a≠b):=by
 by_cases h:a=b
 · subst h;simp
 · simp[h];omega
theorem Xk{d:List S}{i:Nat}{x:S}(h:d[i]? =some x)(hi:i%16=0):E6 d i=Ap x.length++x:=by
 have e:d.getD i []=x:=Bz h
 unfold E6
 rw[if_pos hi,e]
 simp[Ew,hi]
theorem WK{d:List S}{i:Nat}{x y:S}(h:d[i]? =some x)(h2:d[i-1]? =some y)(hi: ¬ i%16=0):E6 d i=Ap (Cu y x)++Ap (x.length-Cu y x)++x.drop (Cu y x):=by
 have e:d.getD i []=x:=Bz h
 have e2:d.getD (i-1) []=y:=Bz h2
 unfold E6
 rw[if_neg hi,e]
 simp only[Ew,if_neg hi,e,e2]
 rw[WT x y]
theorem Lb(d:List S)(hc:Bb d=0)(i:Nat)(h:i≤d.length):(A0 d i).length≤70000000:=by
 obtain⟨h1,h2⟩:=Es d hc
 have:=Ff d h1 i h
 omega
theorem Oh{d:List S}(hc:Bb d=0){x:S}(hx:x∈d):x.length≤2048:=by
 have h:=(Es d hc).1
 unfold EG at h
 rw[List.any_eq_false]at h
 have:=h x hx
 simp at this;omega
theorem YK(a b:S)(ha:a.length≤2^40)(hb:b.length≤2^40):Ae Tryz.prog 213 [str a,str b] (fun r=>r=I (Cu a b)):=by
 refine Ax 28 Tryz.func213 ?_
 refine Aa 0 [0,1] ?_
 refine Aa 1 [0,1,5] ?_
 refine A8 0 (fun i:Nat=>⟨[(0,str a),(1,str b),(5,I i)],[]⟩) (fun i=>i≤a.length∧i≤b.length∧ ∀ j,j<i→ ∃ x,a[j]? =some x∧b[j]? =some x) (fun i=>a.length-i) 0 (E7 [] []) ?_ (h0:=⟨sP,sP,fun j hj=>by omega⟩);rintro i hI0 Y0 hY0;skip
 refine XW.at 2 ?_;obtain⟨m1,m2,m3⟩:=hI0;rcases VW a i with ⟨x,hxa,hla⟩|hla<;>rcases VW b i with ⟨y,hxb,hlb⟩|hlb
 any_goals(refine Ah 2 ?_;refine Aw 5 ?_;(first|refine GK 10 ?_|refine BQ 10 ?_|refine Cn 10 (fun g10=>?_) (fun g10=>?_)|refine XO.split 10 (fun g10=>?_) (fun g10=>?_)))
 any_goals(exfalso;omega)
 any_goals(refine Aw 6 ?_;(first|refine GK 16 ?_|refine BQ 16 ?_|refine Cn 16 (fun g16=>?_) (fun g16=>?_)|refine XO.split 16 (fun g16=>?_) (fun g16=>?_)))
 any_goals(exfalso;omega)
 have hx:=hxa;have hx2:=hxb
 any_goals(refine Aw 8 ?_;refine XO.done [0,1,5,24] ?_;(first|refine CF 24 ?_|refine A3 24 ?_|refine AC 24 (fun c24=>?_) (fun c24=>?_)|refine Bx 24 (fun c24=>?_) (fun c24=>?_)))
 refine XW.at 3 ?_;obtain rfl:x=y:=Af4.1 (by first|exact c24|(simpa using c24))
 refine AQ 3 [0,1,5] ?_
 refine XH.le ?_;first|(exact hY0 (i+1) (⟨oM,oM,cp_s m3 hxa hxb⟩) (by first|omega|(simp;done)|(simp;omega)) _ _ (E7 [] []))
 any_goals(refine XW.at 4 ?_;have hcp:CP a b i:=⟨m3,fun⟨z,h1,h2⟩=>by first|(rw[List.getElem?_eq_none oM]at h1;cases h1;done)|(rw[List.getElem?_eq_none oM]at h2;cases h2;done)|(rw[hxa]at h1;rw[hxb]at h2;cases h1;cases h2;simp at c24)⟩;have hfin:=Ach hcp;refine BJ 4 [4] ?_;(refine Aq ?_;first|((refine Bo ?_;rw[hfin];rfl))|fail))
theorem U7(x:S):Ae Tryz.prog 210 [str x] (fun r=>r=B (decide (2048<x.length))):=by
 refine Ax 6 Tryz.func210 ?_
 refine Aa 0 [0] ?_
 refine Aa 1 [2] ?_
 refine Aq ?_;first|((refine Bo ?_;simp only[Az,B];congr 2;simp;omega))|fail
theorem Zn(d:List S)(hc:Bb d=0)(hp:d.Pairwise ltS):Ae Tryz.prog 211 [.sl 1 (Au d)] (fun r=>r=I 0):=by
 have hll:=Es d hc
 have hcf:=AeZ 210 (fun x=>decide (2048<x.length)) d oM (fun x _=>U7 x)
 have hcl:d.any (fun x=>decide (2048<x.length))=false:=hll.1
 rw[hcl]at hcf
 refine Ax 27 Tryz.func211 ?_
 refine Aa 0 [0] ?_
 refine Aa 1 [0,4] ?_
 first|refine CF 4 ?_|refine A3 4 ?_|refine AC 4 (fun c4=>?_) (fun c4=>?_)|refine Bx 4 (fun c4=>?_) (fun c4=>?_)
 exfalso;omega
 refine Ah 3 ?_
 refine Ac 1 ?_
 refine AG (hcf) ?_;rintro _ rfl
 refine Ac 1 ?_
 refine XO.done [0,8] ?_
 first|refine CF 8 ?_|refine A3 8 ?_|refine AC 8 (fun c8=>?_) (fun c8=>?_)|refine Bx 8 (fun c8=>?_) (fun c8=>?_)
 refine Aa 5 [0,3] ?_
 refine A8 0 (fun i:Nat=>⟨[(0,.sl 1 (Au d)),(3,I i)],[]⟩) (fun i=>1≤i) (fun i=>d.length+1-i) 1 (E7 [] []) ?_;rintro i hI0 Y0 hY0;skip
 refine Aa 6 [0,3,14] ?_
 first|refine CF 14 ?_|refine A3 14 ?_|refine AC 14 (fun c14=>?_) (fun c14=>?_)|refine Bx 14 (fun c14=>?_) (fun c14=>?_)
 refine XW.at 8 ?_;obtain⟨x,hx,_⟩:=Bm d (i-1) oM;obtain⟨y,hx2,_⟩:=Bm d i oM;have ha:=AfI hp hx (show d[i-1+1]? =some y by rw[Nat.sub_add_cancel oM];exact hx2);have hi1:((i:Int)-1).toNat=i-1:=oM
 refine Ah 8 ?_
 refine A2 3 ?_
 have hx:=hi1;have hx2:=(by assumption:d[i-1]? =some x)
 refine Aw 4 ?_
 have hx:=(by assumption:d[i]? =some y)
 refine Aw 2 ?_
 have hx:=ha
 refine Aw 1 ?_
 refine XO.done [0,3,26] ?_
 first|refine CF 26 ?_|refine A3 26 ?_|refine AC 26 (fun c26=>?_) (fun c26=>?_)|refine Bx 26 (fun c26=>?_) (fun c26=>?_)
 refine AQ 7 [0,3] ?_
 refine XH.le ?_;first|(exact eY hY0 (i+1) (E7 [] []))
 refine Aa 10 [2] ?_
 refine Aq ?_;first|(exact Bi rfl)|fail
theorem Xi(d:List S)(hc:Bb d=0)(hp:d.Pairwise ltS):Ae Tryz.prog 172 [.sl 1 (Au d)] (fun r=>r= .tup [.sl 1 (Ab (AM d)),I 0]):=by
 have hll:=Es d hc
 refine Ax 48 Tryz.func172 ?_
 refine Aa 0 [0] ?_
 refine Ah 1 ?_
 refine Ac 1 ?_
 refine AG (Zn d hc hp) ?_;rintro _ rfl
 refine Ac 1 ?_
 refine XO.done [0,4] ?_
 refine Aa 2 [0,4,12] ?_
 first|refine CF 12 ?_|refine A3 12 ?_|refine AC 12 (fun c12=>?_) (fun c12=>?_)|refine Bx 12 (fun c12=>?_) (fun c12=>?_)
 refine Ah 4 ?_
 refine Ac 2 ?_
 refine AbV (Abk d.length oM) ?_
 refine Ac 1 ?_
 refine XO.done [0,5] ?_
 refine Aa 5 [0,5,17,18,19] ?_
 refine A8 1 (fun i:Nat=>⟨[(0,.sl 1 (Au d)),(5,.osl 0 (A0 d i).length 1),(17,.sl 1 (Au d)),(18,I d.length),(19,I i)],[(0,some ⟨5,1,Ab (A0 d i)⟩)]⟩) (fun i=>i≤d.length) (fun i=>d.length-i) 0 (AO (And.intro (And.intro A0.eq_1 A0.eq_2) @A5) [some 0] []) ?_;rintro i hI0 Y0 hY0;skip
 refine Aa 6 [0,5,17,18,19,20] ?_
 first|refine CF 20 ?_|refine A3 20 ?_|refine AC 20 (fun c20=>?_) (fun c20=>?_)|refine Bx 20 (fun c20=>?_) (fun c20=>?_)
 refine XW.at 7 ?_;obtain⟨x,hx,hxm⟩:=Bm d i oM;have hxl:=Oh hc hxm;have hel:=Lb d hc i oM;have hes:A0 d (i+1)=A0 d i++E6 d i:=rfl;have hxi:=hx
 refine BJ 7 [0,5,6,7,17,18,19] ?_
 refine XW.at 8 ?_;have hx:=Abw i;have hx2:=AgH (a:=i%16) (b:=0)
 refine A4 8 [0,5,6,7,17,18,19,26] ?_
 first|refine CF 26 ?_|refine A3 26 ?_|refine AC 26 (fun c26=>?_) (fun c26=>?_)|refine Bx 26 (fun c26=>?_) (fun c26=>?_)
 refine XW.at 9 ?_;have hi1:((i:Int)-1).toNat=i-1:=oM;obtain⟨y,hxy,hym⟩:=Bm d (i-1) oM;have hyl:=Oh hc hym;have hcl:=Sq y x;have hvl:=Bf (Cu y x);have h16: ¬ i%16=0:=(by intro h;rw[h]at c26;simp at c26);rw[WK hxi hxy h16,show x.length-Cu y x=(x.drop (Cu y x)).length by rw[List.length_drop]]at hes;have hvl3:=Bf (x.drop (Cu y x)).length;have hvl4:=Bf (x.length-Cu y x);have hdl:(x.drop (Cu y x)).length≤2048:=(by rw[List.length_drop];omega);have hx:=hi1;have hx2:=hxy
 refine Ah 9 ?_
 refine A2 6 ?_
 refine AG (YK y x oM oM) ?_;rintro _ rfl
 refine Aw 1 ?_
 refine XO.done [0,5,7,8,17,18,19] ?_
 refine XW.at 10 ?_;skip
 refine Ah 10 ?_
 refine Ac 2 ?_
 refine Fw 0 (PO (A0 d i) (Cu y x) oM oM) ?_
 refine Ac 1 ?_
 refine XO.done [0,5,7,8,17,18,19] ?_
 refine XW.at 11 ?_;have hlc:(A0 d i++Ap (Cu y x)).length≤70000011:=(by rw[List.length_append];omega)
 refine A4 11 [0,5,7,17,18,19] ?_
 any_goals(refine XW.at 12 ?_;(try(have h16:i%16=0:=(by simp at c26;omega);rw[Xk hxi h16]at hes));have hvl2:=Bf x.length;refine Ah 12 ?_;refine Aw 3 ?_;(first|(refine Fw 0 (PO (A0 d i) x.length oM oM) ?_)|(refine Fw 0 (PO (A0 d i++Ap (Cu y x)) (x.drop (Cu y x)).length oM oM) ?_));refine Aw 3 ?_;refine XO.done [0,5,17,18,19] ?_;refine AQ 13 [0,5,17,18,19] ?_;(refine XH.le ?_;first|(exact eY hY0 (i+1) (AO (And.intro hes (And.intro @A5 @List.append_assoc.{0})) [some 0] []))))
 refine XW.at 14 ?_;obtain rfl:i=d.length:=oM
 refine Aa 14 [2,3] ?_
 refine Aq ?_;first|(exact Hw rfl (hm:=by rw[CB];rfl))|fail
theorem TG(T:Nat)(x R b:List UInt8)(hb:b=Ap x.length++x++R)(hx0:x.length≤2048)(hl:b.length≤2^40):AU Tryz.prog 209 2 [] (cuE T b false) (fun r e=>r=str x∧e=cuE T R false):=by
 have hb2:b=Ap x.length++(x++R):=by rw[hb,List.append_assoc]
 have hrl:(x++R).length≤2^40:=by have:=congrArg List.length hb2;simp only[List.length_append]at this ⊢;omega
 have hxr:x.length≤(x++R).length:=by simp
 all_goals refine Eb 34 (fn:=Tryz.f209) Tryz.func209 rfl rfl rfl sP rfl ?_
 refine Aa 0 [0] ?_
 refine Ah 1 ?_
 refine Ac 1 ?_
 refine BW 0 (RF T x.length 2048 (x++R) b hb2 hx0 oM hl) ?_;rintro _ _ ⟨rfl,rfl⟩
 refine Ac 1 ?_
 refine XO.done [0,3] ?_
 refine Aa 2 [0,3,13] ?_
 refine AC 13 (fun c13=>?_) (fun c13=>?_)
 exfalso;omega
 refine A4 5 [0,3,4] ?_
 refine A4 6 [4] ?_
 refine Aa 7 [2] ?_
 refine Aq ?_;((refine G4 ?_;simp[Az,str,cuE,B]))
theorem Abj(b:List UInt8)(n:Nat):Ad Tryz.prog 170 [.ptr 0 2 0 0,I n] [some (cuE 221 b false)] (.fn 208 0 [.ptr 1 1 0 0,.ptr 2 1 0 0]) [some (cuE 221 b false),some ⟨3,1,[[I n]]⟩,some ⟨219,1,[[.ptr 0 2 0 0]]⟩]:=by
 refine BD 6 1 Tryz.func170 ?_
 refine Aa 0 [2,3] ?_
 refine Aa 1 [4] ?_
 refine Aq ?_;((refine XB.ret [some 0,some 1,some 2] [] (hids:=⟨by simp[Al],by simp[Al],rfl⟩) (hwk:=?_) (hwh:=?_);(next=>simp[Az,lk,lkh,wk,wkL,wkE,I]);(next=>simp[Am,Ai,Ak,lkh,wkE,wkL,wk,B,I])))
end Go.Proofs.YtpkhodjlnodagaaGreatDoor
