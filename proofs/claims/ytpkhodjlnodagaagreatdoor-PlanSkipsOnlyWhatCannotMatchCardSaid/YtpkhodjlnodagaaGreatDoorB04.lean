/- Part 4 of the proof of PlanSkipsOnlyWhatCannotMatch. -/
import Derived.Test.YtpkhodjlnodagaaGreatDoorB03
import Derived.LoopN
set_option linter.unusedSimpArgs false
set_option linter.unusedVariables false
set_option linter.unusedSectionVars false
namespace Go.Av
section
variable {P : Program} {C : Ctx} {Q : Exit → Nat → AS → Prop} {n : Nat} {s : AS}
def Aab(P:Program)(orc:Nat→Option Orc)(n:Nat)(ops:Array Oper)(keep:List Nat)(tok:List Touch→Prop)(K:Nat→AS→Prop)(s:AS):Prop:=
 match Bv P (Ao P) orc n ops ops.toList 0 s [] True with
 |some (s',ts,p)=>tok ts∧p∧K (n+8*ops.size) (trim keep s')
 |none=>False
theorem AW.rd(hm:P.follows .mixedOrders=true){N:Nat}(hN:C.N=N)(orc:Nat→Option Orc)(keep:List Nat){id:Nat}{ops:Array Oper}{y:Code}(hok:Ct N ops true=true)
   (h: ∀ (K:Nat→AS→Prop) (tok:List Touch→Prop),(∀ ts,BS (CA ops.toList []) ts=true→tok ts)→(∀ n s,AW P C y Q n s→K n s)→Aab P orc n ops keep tok K s):AW P C (.seq (.region id ops true) y) Q n s:=by
 refine AW.seq (Ags hm hN orc keep hok ?_)
 have:=h (fun n s=>AW P C y Q n s) (fun ts=>BS (CA ops.toList []) ts=true) (fun _ h=>h) (fun _ _ h=>h)
 unfold Aab at this
 unfold Vw
 split at this
 · rename_i s' ts p hrun;rw[hrun];exact⟨by simpa using this.1,this.2.1,this.2.2⟩
 · exact this.elim
theorem De{c:Operand}{x y:Code}{t:Bool}(hc:evA (lk s.env) c= .val (.bool t))(ht:t=true→AW P C x Q n s)(hf:t=false→AW P C y Q n s):AW P C (.cond c x y) Q n s:=by
 refine AW.cond hc ?_
 cases t
 · exact hf rfl
 · exact ht rfl
theorem AX{c:Operand}{x y:Code}(hc:evA (lk s.env) c= .val (.bool true))(h:AW P C x Q n s):AW P C (.cond c x y) Q n s:=AW.cond hc h
theorem Ay{c:Operand}{x y:Code}(hc:evA (lk s.env) c= .val (.bool false))(h:AW P C y Q n s):AW P C (.cond c x y) Q n s:=AW.cond hc h
def Wk(k:Nat)(s:AS)(n':Nat)(s':AS):Prop:= ∃ ids D,IdsOk ids D k s'.hp∧ids.length≤n'∧AK (lkh s.hp) ids D s.env s'.env∧Am (lkh s.hp) ids D s'.hp
theorem Dt.weak{a:Act}{w:World}{n':Nat}{s':AS}(hI:Dt C n s.st a w)(h:Wk C.k s n' s'):Dt C n' s'.st a w:=by
 obtain⟨ids,D,hi,hn,he,hh⟩:=h
 obtain⟨β,hS,hnn⟩:=hI
 obtain⟨hO,hrep,hgood⟩:=JK (hp':=lkh s'.hp) rfl hS.good hi (KA hh)
 refine⟨CX β ids,⟨hgood,fun t=>hrep _ _ _ (NT he t) (hS.env t),hS.size,EN.frm (Lo hO) hS.defers,?_,hS.keepX,So hi hS.ext⟩,fun j hj=>?_⟩
 · exact hS.frm.trans ⟨rfl,rfl,rfl,Nat.le_refl _,fun _ _ _=>rfl,fun b hb=> .inl (hO b hb),fun _ _ h=>h⟩
 · simp only[CX]
   rw[List.getElem?_eq_none oM]
theorem IR{c:Code}{k:Nat}(hk:C.k=k)(n':Nat)(s':AS)(hw:Wk k s n' s')(h:AW P C c Q n' s'):AW P C c Q n s:=fun a w hI=>h a w (hI.weak (hk ▸ hw))
theorem Bw{c:Code}{α:Type}{k:Nat}(hk:C.k=k)(n0:Nat)(S:α→AS)(I:α→Prop)(μ:α→Nat)(a0:α)(h0:I a0)(hw:Wk k s n0 (S a0))
   (hr: ∀ a,I a→AW P C c (DZ (fun _ s'=> ∃ a',I a'∧μ a'<μ a∧Wk k s' n0 (S a')) Q) n0 (S a)):AW P C (.loop c) Q n s:=by
 subst hk
 refine IR rfl n0 (S a0) hw ?_
 refine AW.loop (fun m n s=>n=n0∧ ∃ a,I a∧μ a=m∧s=S a) (m:=μ a0) ⟨rfl,a0,h0,rfl,rfl⟩ ?_
 rintro m n s ⟨rfl,a,hI,rfl,rfl⟩
 intro act w hInv
 refine wpIn_mono (hr a hI act w hInv) ?_
 rintro e a' w' ⟨n',s',hq,hI'⟩
 cases e with
 |normal=>
   obtain⟨b,hb,hlt,hwk⟩:=hq
   exact⟨n,S b,⟨_,hlt,rfl,b,hb,rfl,rfl⟩,hI'.weak hwk⟩
 |exit id=>exact⟨n',s',hq,hI'⟩
 |goto l=>exact⟨n',s',hq,hI'⟩
 |ret=>exact⟨n',s',hq,hI'⟩
 |panic c=>exact⟨n',s',hq,hI'⟩
 |outgrown=>exact⟨n',s',hq,hI'⟩
theorem WW{g:FuncId}{fn:Func}{c:Code}{as:List AV}{hs hs':List (Option Ent)}{r:AV}(N k:Nat)(hf:P.funcs[g]? =some fn)(hb:fn.body=some c)(hname:(fn.name== "runtime.NumGoroutine")=false)(hN:fn.ntmps=N)(has:as.length≤N)(hk:hs.length=k)
   {rv:List ResultVar} (hrv:fn.results=rv.toArray) (h: ∀ C:Ctx,C.N=N→C.k=k→C.y=none→AW P C c (Di (Ao P) rv r hs' k) k ⟨Ei 0 as,FN 0 hs⟩):Ad P g as hs r hs':=by
 subst hk
 exact Tj (BU P) hf hb hname hN has hrv h
theorem Ahm{g:FuncId}{fn:Func}{c:Code}{as:List AV}{hs hs':List (Option Ent)}{r:AV}(N k:Nat)(hf:P.funcs[g]? =some fn)(hb:fn.body=some c)(hname:(fn.name== "runtime.NumGoroutine")=false)(hN:fn.ntmps=N)(has:as.length≤N)(hk:hs.length=k)
   {rv:List ResultVar} (hrv:fn.results=rv.toArray) (h: ∀ C:Ctx,C.N=N→C.k=k→AW P C c (Di (Ao P) rv r hs' k) k ⟨Ei 0 as,FN 0 hs⟩):Ad P g as hs r hs':=by
 exact WW N k hf hb hname hN has hk hrv (fun C h1 h2 _=>h C h1 h2)
end
section
variable {P : Program} {C : Ctx} {Q : Exit → Nat → AS → Prop} {n : Nat} {s : AS} {K : Nat → AS → Prop}
theorem Ba{id:Nat}(h:Q (.exit id) n s):DZ K Q (.exit id) n s:=h
theorem BZ{id:Nat}(h:Q .normal n s):DL id Q (.exit id) n s:=by simp only[DL,if_true];exact h
theorem KF{id id':Nat}(hne:id'≠id)(h:Q (.exit id') n s):DL id Q (.exit id') n s:=by simp only[DL,if_neg hne];exact h
theorem As(h:K n s):DZ K Q .normal n s:=h
theorem CH{id:Nat}(h:Q .normal n s):DL id Q .normal n s:=h
end
theorem CB(l:List UInt8):(Ab l).length=l.length:=by simp[Ab]
theorem Ty(l:List UInt8)(i:Nat):(Ab l)[i]? =(l[i]?).map FE:=by simp[Ab]
theorem Ii(l:List UInt8)(b:UInt8):Ab l++[FE b]=Ab (l++[b]):=by simp[Ab]
theorem VZ(l m:List UInt8):Ab l++Ab m=Ab (l++m):=by simp[Ab]
@[simp] theorem A5(k:Nat)(l:List UInt8):AB k (Ab l)=true:=by
 simp only[AB,Ab,List.all_map,List.all_eq_true]
 intro x _
 rfl
@[simp] theorem Ms(l:List UInt8):(Ab l).all (fun c=>c.all CC)=true:=by
 simp only[Ab,List.all_map,List.all_eq_true]
 intro x _
 rfl
@[simp] theorem AiU(a b:UInt8):((a.toNat:Int)=(b.toNat:Int))↔a=b:=by
 rw[Int.ofNat_inj,UInt8.toNat_inj]
theorem Ar{n:Int}(h: -9223372036854775808≤n∧n<9223372036854775808):IntKind.i64.wrap n=n:=by
 have e1:((2:Int)^IntKind.i64.bits)=18446744073709551616:=by decide
 have e2:((2:Int)^(IntKind.i64.bits-1))=9223372036854775808:=by decide
 have e3:IntKind.i64.signed=true:=rfl
 unfold IntKind.wrap
 simp only[e1,e2,e3,Bool.true_and,ge_iff_le,decide_eq_true_eq]
 split<;>omega
attribute [go_sem] Ex eqV Aab Bv BM CG Bj FH NS Ps MM evA out lk lkh BV DG trim EB Mv VK OK LI IC VT Ra Aax aUn KV In CC splice JU Ic Jn IM N2 IU N9 Dn LX Ig Hn SR Wr Wl DC FF HQ Ei FN Wg str TI.isAgg Dw
theorem beqT(b:Bool):(b==true)=b:=by cases b<;>rfl
theorem beqF(b:Bool):(b==false)=!b:=by cases b<;>rfl
attribute [go_sem] undef beqT beqF FE CB Int.natCast_nonneg Int.toNat_natCast Ty Aby beq_self_eq_true Bool.and_true Bool.true_and List.all_cons List.all_nil
attribute [go_sem] List.reverse_nil List.reverse_cons List.nil_append List.cons_append List.mem_cons List.not_mem_nil List.size_toArray List.length_cons List.length_nil true_and and_true or_false false_or and_self Option.map_some Option.map_none Option.bind_some Option.bind_none List.getElem?_toArray List.getElem?_cons_zero List.getElem?_cons_succ List.map_cons List.map_nil List.take_zero List.take_succ_cons List.drop_zero List.drop_succ_cons List.set_cons_zero List.set_cons_succ
def DK(ρ:Nat→Nat):Nat→List (Option Ent)→List (Nat×Option Ent)
 |_,[]=>[]
 |i,e::r=>(ρ i,e.map (Cy ρ))::DK ρ (i+1) r
def Fo(hp:Hp)(bor:List Nat):List AV→List AV→Prop
 | [],[]=>True
 |c::cs,a::as=>IS hp bor c a∧Fo hp bor cs as
 |_,_=>False
def Md(hp:Hp)(ρ:Nat→Nat)(k:Nat):List Nat→List Ent→Prop
 | [],[]=>True
 |i::is,e::es=>hp i=some (Cy ρ e)∧AB k e.es=true∧Md hp ρ k is es
 |_,_=>False
def DY(hp:Hp)(ids:List Nat):List Nat→Prop
 | []=>True
 |i::r=>i∉ids∧(∀ e,hp i=some e→AB 0 e.es=true)∧DY hp ids r
def N0(bor:List Nat)(r:AV)(hs':List (Option Ent)):Prop:=
 match bor with
 | []=>True
 |_=>ER r=true∧ ∀ e,some e∈hs'→EC e.es=true
def Ae1(P:Program)(g:FuncId)(args:List AV)(hp:Hp)(ρ:Nat→Nat)(o:Orc):Prop:=
 Ad P g o.as (o.hs.map some) o.r o.hs'∧Fo hp o.bor args (BK ρ o.as)∧o.ids.Nodup∧Md hp ρ o.ids.length o.ids o.hs∧o.hs.length≤o.hs'.length∧o.hs'.length≤o.hs.length+8∧
   N0 o.bor o.r o.hs'∧DY hp o.ids o.bor∧AF o.ids.length o.as=true
theorem UU(ρ:Nat→Nat): ∀ (hs:List (Option Ent)) (i:Nat),DK ρ i hs=(List.range' i hs.length).map fun j=>(ρ j,((hs[j-i]?).join).map (Cy ρ))
 | [],i=>by simp[DK]
 |e::r,i=>by
   simp only[DK,List.length_cons,List.range'_succ,List.map_cons,Nat.sub_self,List.getElem?_cons_zero,Option.join_some]
   congr 1
   rw[UU ρ r (i+1)]
   apply List.map_congr_left
   intro j hj
   simp only[List.mem_range'_1]at hj
   rw[show j-i=(j- (i+1))+1 by omega]
   simp
theorem Ot{hp:Hp}{bor:List Nat}: ∀ {cs as:List AV},Fo hp bor cs as→cs.length=as.length∧ ∀ (j:Nat) (c a:AV),cs[j]? =some c→as[j]? =some a→IS hp bor c a
 | [],[],_=>⟨rfl,fun j c a h=>by simp at h⟩
 |c::cs,a::as,h=>by
   obtain⟨h1,h2⟩:=Ot h.2
   refine⟨by simp[h1],fun j c' a' hc ha=>?_⟩
   cases j with
   |zero=>simp at hc ha;subst hc ha;exact h.1
   |succ j=>exact h2 j c' a' (by simpa using hc) (by simpa using ha)
 | [],_::_,h=>h.elim
 |_::_,[],h=>h.elim
theorem OM{hp:Hp}{ρ:Nat→Nat}{k:Nat}: ∀ {is:List Nat} {es:List Ent},Md hp ρ k is es→is.length=es.length∧(∀ i,i<is.length→hp (is.getD i 0)=(es[i]?).map (Cy ρ))∧ ∀ e∈es,AB k e.es=true
 | [],[],_=>⟨rfl,fun i h=>by simp at h,fun e h=>by simp at h⟩
 |i::is,e::es,h=>by
   obtain⟨h1,h2,h3⟩:=h
   obtain⟨g1,g2,g3⟩:=OM h3
   refine⟨by simp[g1],fun j hj=>?_,fun e' he'=>?_⟩
   · cases j with
     |zero=>simpa using h1
     |succ j=>simpa using g2 j (by simpa using hj)
   · rcases List.mem_cons.1 he' with rfl|he'
     · exact h2
     · exact g3 e' he'
 | [],_::_,h=>h.elim
 |_::_,[],h=>h.elim
theorem Rc{ρ:Nat→Nat}: ∀ {as:List AV} {j:Nat} {a:AV},as[j]? =some a→(BK ρ as)[j]? =some (ren ρ a)
 | [],j,a,h=>by simp at h
 |c::cs,0,a,h=>by simp at h;subst h;simp[BK]
 |c::cs,j+1,a,h=>by simp only[BK];simpa using Rc (ρ:=ρ) (by simpa using h)
theorem P0{hp:Hp}{ids:List Nat}: ∀ {bor:List Nat},DY hp ids bor→ ∀ i∈bor,i∉ids∧ ∀ e,hp i=some e→AB 0 e.es=true
 | [],_,i,h=>by simp at h
 |j::r,h,i,hi=>by
   rcases List.mem_cons.1 hi with rfl|hi
   · exact⟨h.1,h.2.1⟩
   · exact P0 h.2.2 i hi
theorem DS{P:Program}{g:FuncId}{args:List AV}{hp:Hp}{nb:Nat}{o:Orc}(h:Ae1 P g args hp (o.ρ nb) o):(Bd P g args hp nb o).ob:=by
 obtain⟨h1,h2,h3,h4,h5,h6,h7,h8,h9⟩:=h
 obtain⟨g1,g2,g3⟩:=OM h4
 obtain⟨v1,v2⟩:=Ot h2
 refine⟨h1,h3,g1,g2,h5,h6,by rw[v1,Ib],fun j c a hc ha=>v2 j c _ hc (Rc ha),fun hb=>?_,P0 h8,h9,g3⟩
 unfold N0 at h7
 split at h7
 · rename_i hbe;exact absurd hbe hb
 · exact h7
section
variable {P : Program} {g : FuncId} {args : List AV} {hp : Hp} {nb : Nat} {o : Orc}
@[go_sem] theorem Ho:(Bd P g args hp nb o).v=ren (o.ρ nb) o.r:=rfl
@[go_sem] theorem HW:(Bd P g args hp nb o).hw=DK (o.ρ nb) 0 o.hs':=by
 simp only[Bd];rw[UU,List.range_eq_range'];rfl
@[go_sem] theorem Jl:(Bd P g args hp nb o).hr=o.ids++o.bor:=rfl
attribute [go_sem] ren BK Cy DK List.append_nil
mutual
theorem KS(ρ:Nat→Nat): ∀ a,AN 0 a=true→ren ρ a=a
 | .any,_=>rfl
 | .val u,_=>rfl
 | .agg cs,h=>by simp only[ren];rw[CJ ρ cs (by simpa [AN] using h)]
 | .tup cs,h=>by simp only[ren];rw[CJ ρ cs (by simpa [AN] using h)]
 | .fn f k cs,h=>by simp only[ren];rw[CJ ρ cs (by simpa [AN] using h)]
 | .sl sz es,_=>rfl
 | .rp cs,_=>rfl
 | .osl i n sz,h=>by simp[AN]at h
 | .ptr i sz k off,h=>by simp[AN]at h
 | .osv i lo n sz,h=>by simp[AN]at h
theorem CJ(ρ:Nat→Nat): ∀ a,AF 0 a=true→BK ρ a=a
 | [],_=>rfl
 |c::cs,h=>by
   simp only[AF,Bool.and_eq_true]at h
   simp only[BK,KS ρ c h.1,CJ ρ cs h.2]
end
theorem DT(ρ:Nat→Nat){es:List (List AV)}(h:AB 0 es=true):es.map (BK ρ)=es:=by
 simp only[AB,List.all_eq_true]at h
 exact(List.map_congr_left (fun c hc=>CJ ρ c (h c hc))).trans (List.map_id es)
theorem Cq(bor:List Nat): ∀ as,Fo hp bor as as
 | []=>trivial
 |a::as=>⟨.inl (.inl rfl),Cq bor as⟩
theorem BR{as:List AV}{r:AV}{hs':List (Option Ent)}(h:Ad P g as [] r hs')(hid:AF 0 as=true)(hl:hs'.length≤8):(Bd P g as hp nb {as:=as,r:=r,hs':=hs'}).ob:=
 DS ⟨h,by rw[CJ _ _ hid];exact Cq _ _,sP,trivial,sP,by simpa using hl,trivial,trivial,by simpa using hid⟩
theorem DJ{as:List AV}{r:AV}{hs':List (Option Ent)}{i:Nat}{e:Ent}(h:Ad P g as [some e] r hs')(he:hp i=some e)(hid:AB 0 e.es=true)(hid1:AB 1 e.es=true)(ha:AF 1 as=true)(hl:1≤hs'.length)(hl8:hs'.length≤9)
   (hargs:args=BK ((⟨[i],[e],as,r,hs',[],none⟩:Orc).ρ nb) as):(Bd P g args hp nb {ids:=[i],hs:=[e],as:=as,r:=r,hs':=hs'}).ob:=by
 refine DS ⟨h,by rw[hargs];exact Cq _ _,sP,⟨?_,hid1,trivial⟩,hl,by simpa using hl8,trivial,trivial,ha⟩
 rw[he,Cy,DT _ hid]
end
def pc(xs:List AV)(r:AV)(hs':List (Option Ent)):Option Orc:=some ⟨[],[],xs,r,hs',[],none⟩
def oc(i:Nat)(e:Ent)(xs:List AV)(r:AV)(hs':List (Option Ent)):Option Orc:=some ⟨[i],[e],xs,r,hs',[],none⟩
def onc(k:Nat)(o:Option Orc)(rest:Nat→Option Orc):Nat→Option Orc:=fun i=>if i=k then o else rest i
def noc:Nat→Option Orc:=fun _=>none
attribute [go_sem] pc oc onc noc
def IN:List Nat→Nat→Option Nat
 | [],_=>none
 |x::r,i=>if x=i then some 0 else(IN r i).map (· +1)
mutual
def Hi(L:List Nat):AV→AV
 | .any=> .any
 | .val v=> .val v
 | .agg cs=> .agg (GJ L cs)
 | .tup cs=> .tup (GJ L cs)
 | .fn f k cs=> .fn f k (GJ L cs)
 | .sl sz es=> .sl sz es
 | .rp cs=> .rp cs
 | .osl i n sz=>match IN L i with
   |some j=> .osl j n sz
   |none=> .any
 | .ptr i sz k off=>match IN L i with
   |some j=> .ptr j sz k off
   |none=> .any
 | .osv i lo n sz=>match IN L i with
   |some j=> .osv j lo n sz
   |none=> .any
def GJ(L:List Nat):List AV→List AV
 | []=>[]
 |c::cs=>Hi L c::GJ L cs
end
def BF(L:List Nat)(es:List (List AV)):List (List AV):=es.map (GJ L)
def GY(l:List Nat):List Nat→List Nat
 | []=>l
 |x::r=>if x∈l then GY l r else GY (l++[x]) r
def Jv(hp:List (Nat×Option Ent)):List (Nat×AV)→List Nat→List Nat
 | [],acc=>acc
 |(_,a)::r,acc=>Jv hp r (GY acc (LI hp a))
def PM(L:List Nat):List (Nat×AV)→List (Nat×AV)
 | []=>[]
 |(t,a)::r=>(t,Hi L a)::PM L r
def Pu(L:List Nat):Option Ent→Option Ent
 |some e=>some ⟨e.ty,e.sz,BF L e.es⟩
 |none=>none
def hpC(hp:List (Nat×Option Ent))(L:List Nat):Nat→List Nat→List (Nat×Option Ent)
 |_,[]=>[]
 |p,j::r=>(p,Pu L (lkh hp j))::hpC hp L (p+1) r
def E4(ks keep:List Nat)(s:AS):List Nat:=Jv s.hp (EB s.env keep) ks
def G8(ks keep:List Nat)(s:AS):AS:=⟨PM (E4 ks keep s) (EB s.env keep),hpC s.hp (E4 ks keep s) 0 (E4 ks keep s)⟩
theorem JS: ∀ {L:List Nat} {i j:Nat},IN L i=some j→L[j]? =some i
 | [],i,j,h=>by simp[IN]at h
 |x::r,i,j,h=>by
   simp only[IN]at h
   split at h
   · rename_i he;simp at h;subst h;simp[he]
   · cases hx:IN r i with
     |none=>rw[hx]at h;simp at h
     |some j'=>rw[hx]at h;simp at h;subst h;simpa using JS hx
mutual
theorem Vc{hp:Hp}{L:List Nat}: ∀ a,wk hp (L.map some) [] a (Hi L a)
 | .any=>by simp[Hi,wk]
 | .val v=>by simp[Hi,wk]
 | .agg cs=>by simp only[Hi,wk];exact⟨cs,rfl,Jo cs⟩
 | .tup cs=>by simp only[Hi,wk];exact⟨cs,rfl,Jo cs⟩
 | .fn f k cs=>by simp only[Hi,wk];exact⟨cs,rfl,Jo cs⟩
 | .sl sz es=>by simp[Hi,wk]
 | .rp cs=>by simp[Hi,wk]
 | .osl i n sz=>by
   simp only[Hi]
   split
   · rename_i j hj;simp only[wk];exact .inl ⟨i,by simp[JS hj],rfl⟩
   · simp[wk]
 | .ptr i sz k off=>by
   simp only[Hi]
   split
   · rename_i j hj;simp only[wk];exact⟨i,by simp[JS hj],rfl⟩
   · simp[wk]
 | .osv i lo n sz=>by
   simp only[Hi]
   split
   · rename_i j hj;simp only[wk];exact⟨i,by simp[JS hj],rfl⟩
   · simp[wk]
theorem Jo{hp:Hp}{L:List Nat}: ∀ a,wkL hp (L.map some) [] a (GJ L a)
 | []=>by simp[GJ,wkL]
 |c::cs=>by simp only[GJ,wkL];exact⟨c,cs,rfl,Vc c,Jo cs⟩
end
theorem Q6{hp:Hp}{L:List Nat}: ∀ es,wkE hp (L.map some) [] es (BF L es)
 | []=>by simp[BF,wkE]
 |c::cs=>by
   have:=Q6 (hp:=hp) (L:=L) cs
   simp only[BF,List.map_cons,wkE]at this ⊢
   exact⟨c,cs,rfl,Jo c,this⟩
theorem I0{hp:Hp}{L:List Nat}{env:List (Nat×AV)}: ∀ (l:List (Nat×AV)),(∀ t a,(t,a)∈l→a=lk env t)→AK hp (L.map some) [] env (PM L l)
 | [],_=>trivial
 |(t,a)::r,h=>by
   refine⟨?_,I0 r (fun t a hm=>h t a (by simp[hm]))⟩
   rw[← h t a sP]
   exact Vc a
theorem JZ{env:List (Nat×AV)}: ∀ {l:List Nat} {t:Nat} {a:AV},(t,a)∈EB env l→a=lk env t
 | [],t,a,h=>by simp[EB]at h
 |u::r,t,a,h=>by
   simp only[EB,List.mem_cons,Prod.mk.injEq]at h
   rcases h with ⟨rfl,rfl⟩|h
   · rfl
   · exact JZ h
theorem OF{hp:List (Nat×Option Ent)}{L:List Nat}: ∀ (r:List Nat) (p:Nat),(∀ q,r[q]? =L[p+q]?)→Am (lkh hp) (L.map some) [] (hpC hp L p r)
 | [],_,_=>trivial
 |j::r,p,h=>by
   have h0:L[p]? =some j:=by simpa using (h 0).symm
   have hr:=OF (hp:=hp) (L:=L) r (p+1) (fun q=>by have:=h (q+1);rw[show p+1+q=p+(q+1) by omega,← this];simp)
   simp only[hpC]
   cases he:lkh hp j with
   |none=>exact hr
   |some e=>exact⟨.inl ⟨j,e,by simp[h0],he,rfl,rfl,.inr (Q6 e.es)⟩,hr⟩
theorem Ve{hp:List (Nat×Option Ent)}{L:List Nat}: ∀ (r:List Nat) (p:Nat),(∀ q,r[q]? =L[p+q]?)→ ∀ j∈Al (L.map some) (hpC hp L p r),j∈r
 | [],_,_,j,hj=>by simp[hpC,Al]at hj
 |i::r,p,h,j,hj=>by
   have h0:L[p]? =some i:=by simpa using (h 0).symm
   have hr:=Ve (hp:=hp) (L:=L) r (p+1) (fun q=>by have:=h (q+1);rw[show p+1+q=p+(q+1) by omega,← this];simp)
   simp only[hpC]at hj
   cases he:lkh hp i with
   |none=>rw[he]at hj;simp only[Pu,Al]at hj;exact List.mem_cons_of_mem _ (hr j hj)
   |some e=>
     rw[he]at hj
     simp only[Pu,Al,List.getElem?_map,h0,Option.map_some,List.mem_cons]at hj
     rcases hj with rfl|hj
     · simp
     · exact List.mem_cons_of_mem _ (hr j hj)
theorem N7{hp:List (Nat×Option Ent)}{L:List Nat}: ∀ (r:List Nat) (p:Nat),(∀ q,r[q]? =L[p+q]?)→r.Nodup→(Al (L.map some) (hpC hp L p r)).Nodup
 | [],_,_,_=>by simp[hpC,Al]
 |i::r,p,h,hnd=>by
   have h0:L[p]? =some i:=by simpa using (h 0).symm
   have h': ∀ q,r[q]? =L[p+1+q]? :=fun q=>by have:=h (q+1);rw[show p+1+q=p+(q+1) by omega,← this];simp
   have hr:=N7 (hp:=hp) (L:=L) r (p+1) h' (List.nodup_cons.1 hnd).2
   simp only[hpC]
   cases he:lkh hp i with
   |none=>simpa only[Pu,Al] using hr
   |some e=>
     simp only[Pu,Al,List.getElem?_map,h0,Option.map_some]
     exact List.nodup_cons.2 ⟨fun hm=>(List.nodup_cons.1 hnd).1 (Ve r (p+1) h' i hm),hr⟩
theorem Iw: ∀ (xs l:List Nat),l.Nodup→(GY l xs).Nodup∧ ∃ r,GY l xs=l++r
 | [],l,h=>⟨h,[],by simp[GY]⟩
 |x::xs,l,h=>by
   simp only[GY]
   split
   · exact Iw xs l h
   · rename_i hx
     obtain⟨h1,r,h2⟩:=Iw xs (l++[x]) (by
       rw[List.nodup_append]
       refine⟨h,sP,?_⟩
       intro a ha b hb
       simp at hb
       subst hb
       exact fun e=>hx (e ▸ ha))
     exact⟨h1,x::r,by rw[h2];simp⟩
theorem P6{hp:List (Nat×Option Ent)}: ∀ (env:List (Nat×AV)) (l:List Nat),l.Nodup→(Jv hp env l).Nodup∧ ∃ r,Jv hp env l=l++r
 | [],l,h=>⟨h,[],by simp[Jv]⟩
 |(t,a)::env,l,h=>by
   simp only[Jv]
   obtain⟨h1,r,h2⟩:=Iw (LI hp a) l h
   obtain⟨h3,r',h4⟩:=P6 env _ h1
   exact⟨h3,r++r',by rw[h4,h2];simp⟩
section
variable {P : Program} {C : Ctx} {Q : Exit → Nat → AS → Prop} {n : Nat} {s : AS}
theorem HV{k:Nat}{ks keep:List Nat}(hks:ks=List.range k):Wk k s (E4 ks keep s).length (G8 ks keep s):=by
 obtain⟨hnd,r,hr⟩:=P6 (hp:=s.hp) (EB s.env keep) ks (by rw[hks];exact List.nodup_range)
 refine⟨(E4 ks keep s).map some,[],⟨N7 _ 0 sP hnd,sP,?_⟩,sP,I0 _ (fun t a h=>JZ h),OF _ 0 sP⟩
 have:E4 ks keep s=List.range k++r:=by rw[← hks];exact hr
 rw[this,List.map_append,List.take_left' sP]
def Ha(P:Program)(orc:Nat→Option Orc)(ks:List Nat)(n:Nat)(ops:Array Oper)(keep:List Nat)(K:Nat→AS→Prop)(s:AS):Prop:=
 match Bv P (Ao P) orc n ops ops.toList 0 s [] True with
 |some (s',_,p)=>p∧K (E4 ks keep s').length (G8 ks keep s')
 |none=>False
def G0(P:Program)(orc:Nat→Option Orc)(ks:List Nat)(n:Nat)(ops:Array Oper)(keep:List Nat)(tok:List Touch→Prop)(K:Nat→AS→Prop)(s:AS):Prop:=
 match Bv P (Ao P) orc n ops ops.toList 0 s [] True with
 |some (s',ts,p)=>tok ts∧p∧K (E4 ks keep s').length (G8 ks keep s')
 |none=>False
theorem Fj(hm:P.follows .mixedOrders=true){N k:Nat}(hN:C.N=N)(hk:C.k=k)(orc:Nat→Option Orc)(ks keep:List Nat)(hks:ks=List.range k){id:Nat}{ops:Array Oper}(hok:Ct N ops false=true)
   (h: ∀ K:Nat→AS→Prop,(∀ n s,Q .normal n s→K n s)→Ha P orc ks n ops keep K s):AW P C (.region id ops false) Q n s:=by
 have hh:=h (fun n s=>Q .normal n s) (fun _ _ h=>h)
 unfold Ha at hh
 split at hh
 · rename_i s' ts p hrun
   intro a w hI
   refine E3 (BU P) hm hrun hh.1 (hN ▸ hok) (fun h=>by simp at h) hI ?_
   intro a' w' hI'
   exact⟨_,_,hh.2,hI'.weak (hk ▸ HV (hk ▸ hks))⟩
 · exact hh.elim
theorem Jx(hm:P.follows .mixedOrders=true){N k:Nat}(hN:C.N=N)(hk:C.k=k)(orc:Nat→Option Orc)(ks keep:List Nat)(hks:ks=List.range k){id:Nat}{ops:Array Oper}(hok:Ct N ops true=true)
   (h: ∀ (K:Nat→AS→Prop) (tok:List Touch→Prop),(∀ ts,BS (CA ops.toList []) ts=true→tok ts)→(∀ n s,Q .normal n s→K n s)→G0 P orc ks n ops keep tok K s):AW P C (.region id ops true) Q n s:=by
 have hh:=h (fun n s=>Q .normal n s) (fun ts=>BS (CA ops.toList []) ts=true) (fun _ h=>h) (fun _ _ h=>h)
 unfold G0 at hh
 split at hh
 · rename_i s' ts p hrun
   intro a w hI
   refine E3 (BU P) hm hrun hh.2.1 (hN ▸ hok) (fun _=>hh.1) hI ?_
   intro a' w' hI'
   exact⟨_,_,hh.2.2,hI'.weak (hk ▸ HV (hk ▸ hks))⟩
 · exact hh.elim
end
def bc(bor:List Nat)(xs:List AV)(r:AV)(hs':List (Option Ent)):Option Orc:=some ⟨[],[],xs,r,hs',bor,none⟩
attribute [go_sem] bc
theorem Fh{P:Program}{g:FuncId}{args xs:List AV}{hp:Hp}{nb:Nat}{r:AV}{hs':List (Option Ent)}{bor:List Nat}(h:Ad P g xs [] r hs')(hid:AF 0 xs=true)(hl:hs'.length≤8)(hv:Fo hp bor args xs)
   (hr:ER r=true) (hh: ∀ e,some e∈hs'→EC e.es=true) (hb:DY hp [] bor):(Bd P g args hp nb ⟨[],[],xs,r,hs',bor,none⟩).ob:=
 DS ⟨h,by rw[CJ _ _ hid];exact hv,sP,trivial,sP,by simpa using hl,by unfold N0;split<;>first|trivial|exact⟨hr,hh⟩,hb,by simpa using hid⟩
theorem GL{hp:Hp}{bor:List Nat}{i n sz:Nat}{e:Ent}{es:List (List AV)}(hi:i∈bor)(he:hp i=some e)(hes:e.es=es)(hn:es.length=n)(hsz:e.sz=sz):IS hp bor (.osl i n sz) (.sl sz es):=
 .inl (.inr (.inl ⟨i,n,sz,e,rfl,hi,he,by rw[hes];exact hn,hsz,by rw[hes]⟩))
theorem AbY{hp:Hp}{bor:List Nat}{sz:Nat}:IS hp bor (.val (.slice none 0 0)) (.sl sz []):= .inl (.inr (.inr ⟨rfl,sz,rfl⟩))
theorem J0{hp:Hp}{bor:List Nat}{a:AV}:IS hp bor a a:= .inl (.inl rfl)
@[simp] theorem Ah1(l:List UInt8):EC (Ab l)=true:=by
 simp only[EC,Ab,List.all_map,List.all_eq_true]
 intro x _
 rfl
theorem M8(L:List Nat)(l:List UInt8):BF L (Ab l)=Ab l:=by
 simp only[BF,Ab,List.map_map]
 apply List.map_congr_left
 intro x _
 rfl
theorem WA(L:List Nat)(a b:List (List AV)):BF L (a++b)=BF L a++BF L b:=by simp[BF]
theorem Wp(L:List Nat)(c:List AV)(b:List (List AV)):BF L (c::b)=GJ L c::BF L b:=rfl
theorem YB(L:List Nat):BF L []=[]:=rfl
theorem ρ_eq(o:Orc)(nb i:Nat):o.ρ nb i=match o.ids[i]? with
   |some j=>j
   |none=>nb+(i-o.ids.length):=by
 unfold Orc.ρ
 by_cases h:i<o.ids.length
 · rw[if_pos h,List.getElem?_eq_getElem h,HS h]
 · rw[if_neg h,List.getElem?_eq_none oM]
theorem Tw(ρ:Nat→Nat)(l:List UInt8):(Ab l).map (BK ρ)=Ab l:=DT ρ (A5 0 l)
attribute [go_sem] ρ_eq Tw List.getElem?_nil
attribute [go_sem] Ha G0 E4 G8 Jv GY PM hpC Pu Hi GJ IN M8 WA Wp YB
variable {P : Program} {C : Ctx} {Q : Exit → Nat → AS → Prop} {n : Nat} {s : AS}
theorem AW.join{c y:Code}{k:Nat}(hk:C.k=k)(n':Nat)(s':AS)(h:AW P C c (DZ (fun _ t=>Wk k t n' s') Q) n s)(hy:AW P C y Q n' s'):AW P C c (DZ (AW P C y Q) Q) n s:=
 AW.mono h (by intro e n s hq;cases e<;>first|exact IR hk n' s' hq hy|exact hq)
abbrev Res:=AV×List (Option Ent)
class Yl where
 y:Option YL
instance (priority:=low) ylNone:Yl:=⟨none⟩
def EX [Y:Yl](N k:Nat)(R:Res→Prop)(A:Res→Ctx→Prop):Prop:= ∃ x,R x∧ ∀ C:Ctx,C.N=N→C.k=k→C.y=Y.y→A x C
section
variable [Yl] {P : Program} {N k : Nat} {R : Res → Prop} {A B : Res → Ctx → Prop}
theorem EX.step(h: ∀ x C,C.N=N→C.k=k→B x C→A x C)(hb:EX N k R B):EX N k R A:=by
 obtain⟨x,h1,h2⟩:=hb
 exact⟨x,h1,fun C hN hk hy=>h x C hN hk (h2 C hN hk hy)⟩
theorem AaM [Y:Yl]{N k:Nat}{R:Res→Prop}{A B:Res→Ctx→Prop}(h: ∀ x C,C.N=N→C.k=k→C.y=Y.y→B x C→A x C)(hb:EX N k R B):EX N k R A:=by
 obtain⟨x,h1,h2⟩:=hb
 exact⟨x,h1,fun C hN hk hy=>h x C hN hk hy (h2 C hN hk hy)⟩
theorem Wd{c:Code}{Q:Res→Ctx→Exit→Nat→AS→Prop}{n:Nat}{s:AS}(n':Nat)(s':AS)(hw:Wk k s n' s')(h:EX N k R fun x C=>AW P C c (Q x C) n' s'):EX N k R fun x C=>AW P C c (Q x C) n s:=
 EX.step (fun x C hN hk h=>IR hk n' s' hw h) h
def AWn(P:Program)(C:Ctx)(c:Code)(Q:Exit→Nat→AS→Prop)(m n:Nat)(s:AS):Prop:=
 ∀ a w,Dt C n s.st a w→Code.roundsIn C.F 0 P c (fun e a' w'=> ∃ n' s',Q e n' s'∧Dt C n' s'.st a' w') m a w
theorem Qh{F:Fence}{c:Code}{Q:Exit→Act→World→Prop}: ∀ (m:Nat) (a:Act) (w:World),Code.roundsIn F 0 P c Q m a w→Code.roundsIn F 0 P c Q (m+1) a w
 |0,_,_,h=>h.elim
 |m+1,a,w,h=>by
   refine wpIn_mono h ?_
   intro e a' w' hq
   cases e
   case normal=>exact Qh m a' w' hq
   all_goals exact hq
theorem AWn.up{C:Ctx}{c:Code}{Q:Exit→Nat→AS→Prop}{m n:Nat}{s:AS}(h:AWn P C c Q m n s): ∀ {m'},m≤m'→AWn P C c Q m' n s:=by
 intro m' hm
 induction hm with
 |refl=>exact h
 |step _ ih=>exact fun a w hI=>Qh _ a w (ih a w hI)
theorem ZC{C:Ctx}{c:Code}{Q:Exit→Nat→AS→Prop}{m n:Nat}{s:AS}(h:AW P C c (DZ (AWn P C c Q m) Q) n s):AWn P C c Q (m+1) n s:=by
 intro a w hI
 refine wpIn_mono (h a w hI) ?_
 rintro e a' w' ⟨n',s',hq,hI'⟩
 cases e
 case normal=>exact hq a' w' hI'
 all_goals exact⟨n',s',hq,hI'⟩
theorem AWn.weak{C:Ctx}{c:Code}{Q:Exit→Nat→AS→Prop}{m n:Nat}{s:AS}{n':Nat}{s':AS}(hk:C.k=k)(hw:Wk k s n' s')(h:AWn P C c Q m n' s'):AWn P C c Q m n s:=
 fun a w hI=>h a w (hI.weak (hk ▸ hw))
theorem EX.loop{c:Code}{Q:Res→Ctx→Exit→Nat→AS→Prop}{n:Nat}{s:AS}{α:Type}(n0:Nat)(S:α→AS)(I:α→Prop)(μ:α→Nat)(a0:α)(h0:I a0)(hw:Wk k s n0 (S a0))
   (hr: ∀ a,I a→ ∀ Y:Res→Ctx→Nat→AS→Prop,(∀ a',I a'→μ a'<μ a→ ∀ n s,Wk k s n0 (S a')→EX N k R fun x C=>Y x C n s)→
     EX N k R fun x C=>AW P C c (DZ (Y x C) (Q x C)) n0 (S a)):EX N k R fun x C=>AW P C (.loop c) (Q x C) n s:=by
 have key: ∀ m a,μ a=m→I a→EX N k R fun x C=>AWn P C c (Q x C) (m+1) n0 (S a):=by
   intro m
   induction m using Nat.strongRecOn with
   |_ m ih=>
     intro a hm hI
     refine EX.step (fun x C hN hk h=>ZC h) (hr a hI (fun x C=>AWn P C c (Q x C) m) ?_)
     intro a' hI' hlt n s hw
     exact EX.step (fun x C hN hk h=>AWn.weak hk hw (AWn.up h oM)) (ih (μ a') oM a' rfl hI')
 exact EX.step (fun x C hN hk h=>fun a w hI=>wpIn_loop_rounds _ (AWn.weak hk hw h a w hI)) (key _ a0 rfl h0)
def GX(P:Program)(g:FuncId)(as:List AV)(hs:List (Option Ent))(R:Res→Prop):Prop:= ∃ x:Res,R x∧Ad P g as hs x.1 x.2
omit [Yl] in
theorem GV{g:FuncId}{fn:Func}{c:Code}{as:List AV}{hs:List (Option Ent)}(N k:Nat)(hf:P.funcs[g]? =some fn)(hb:fn.body=some c)(hname:(fn.name== "runtime.NumGoroutine")=false)(hN:fn.ntmps=N)(has:as.length≤N)(hk:hs.length=k)
   {rv:List ResultVar} (hrv:fn.results=rv.toArray) (h: @EX ylNone N k R fun x C=>AW P C c (Di (Ao P) rv x.1 x.2 k) k ⟨Ei 0 as,FN 0 hs⟩):GX P g as hs R:=by
 obtain⟨x,h1,h2⟩:=h
 exact⟨x,h1,WW N k hf hb hname hN has hk hrv h2⟩
theorem EX.ret{Q:Res→Ctx→Exit→Nat→AS→Prop}{n:Nat}{s:AS}(r:AV)(hs':List (Option Ent))(hR:R (r,hs'))(h: ∀ C:Ctx,C.N=N→C.k=k→AW P C .ret (Q (r,hs') C) n s):EX N k R fun x C=>AW P C .ret (Q x C) n s:=
 ⟨(r,hs'),hR,fun C hN hk _=>h C hN hk⟩
end
theorem Fp{n:Int}(h:0≤n∧n<18446744073709551616):IntKind.u64.wrap n=n:=by
 show Int.emod _ _=_
 exact Int.emod_eq_of_lt h.1 h.2
theorem PI{n:Int}(h:0≤n∧n<4294967296):IntKind.u32.wrap n=n:=by
 show Int.emod _ _=_
 exact Int.emod_eq_of_lt h.1 h.2
theorem AfX{n:Int}(h:0≤n∧n<256):IntKind.u8.wrap n=n:=by
 show Int.emod _ _=_
 exact Int.emod_eq_of_lt h.1 h.2
theorem Ze{a b:Int}(h:a<b):decide (a<b)=true:=by simp[h]
theorem GP{a b:Int}(h:b≤a):decide (a<b)=false:=by simp;omega
theorem Pl{a b:Int}(h:a≤b):decide (a≤b)=true:=by simp[h]
theorem Wj{a b:Int}(h:b<a):decide (a≤b)=false:=by simp;omega
theorem Zm{a b:Int}(h:a>b):decide (a>b)=true:=by simp;omega
theorem EV{a b:Int}(h:a≤b):decide (a>b)=false:=by simp;omega
theorem dGeT{a b:Int}(h:a≥b):decide (a≥b)=true:=by simp;omega
theorem Vv{a b:Int}(h:a<b):decide (a≥b)=false:=by simp;omega
theorem iEqT{a b:Int}(h:a=b):(a==b)=true:=by simp[h]
theorem iEqF{a b:Int}(h:a≠b):(a==b)=false:=by simp[h]
theorem iNeT{a b:Int}(h:a≠b):(a !=b)=true:=by simp[bne,h]
theorem ND{a b:Int}(h:a=b):(a !=b)=false:=by simp[h]
attribute [go_sem] Nat.lt_add_one Nat.zero_lt_succ ne_eq not_false_eq_true decide_true decide_false Bool.not_true Bool.not_false Bool.false_eq_true
theorem au:(∀ n:Int,(-9223372036854775808≤n∧n<9223372036854775808)→IntKind.i64.wrap n=n)∧(∀ n:Int,(0≤n∧n<18446744073709551616)→IntKind.u64.wrap n=n)∧
   (∀ n:Int,(0≤n∧n<4294967296)→IntKind.u32.wrap n=n)∧(∀ n:Int,(0≤n∧n<256)→IntKind.u8.wrap n=n)∧
   (∀ a b:Int,a<b→decide (a<b)=true)∧(∀ a b:Int,b≤a→decide (a<b)=false)∧(∀ a b:Int,a≤b→decide (a≤b)=true)∧(∀ a b:Int,b<a→decide (a≤b)=false)∧
   (∀ a b:Int,a>b→decide (a>b)=true)∧(∀ a b:Int,a≤b→decide (a>b)=false)∧(∀ a b:Int,a≥b→decide (a≥b)=true)∧(∀ a b:Int,a<b→decide (a≥b)=false)∧
   (∀ a b:Int,a=b→(a==b)=true)∧(∀ a b:Int,a≠b→(a==b)=false)∧(∀ a b:Int,a≠b→(a !=b)=true)∧(∀ a b:Int,a=b→(a !=b)=false):=
 ⟨fun _ h=>Ar h,fun _ h=>Fp h,fun _ h=>PI h,fun _ h=>AfX h,fun _ _ h=>Ze h,fun _ _ h=>GP h,fun _ _ h=>Pl h,fun _ _ h=>Wj h,fun _ _ h=>Zm h,fun _ _ h=>EV h,
   fun _ _ h=>dGeT h,fun _ _ h=>Vv h,fun _ _ h=>iEqT h,fun _ _ h=>iEqF h,fun _ _ h=>iNeT h,fun _ _ h=>ND h⟩
def pcq{P:Program}{g:FuncId}{as:List AV}{r:AV}{hs':List (Option Ent)}(_:Ad P g as [] r hs'):Option Orc:=some ⟨[],[],as,r,hs',[],none⟩
def ocq(i:Nat){P:Program}{g:FuncId}{as:List AV}{e:Ent}{r:AV}{hs':List (Option Ent)}(_:Ad P g as [some e] r hs'):Option Orc:=some ⟨[i],[e],as,r,hs',[],none⟩
def bcq(bor:List Nat){P:Program}{g:FuncId}{as:List AV}{r:AV}{hs':List (Option Ent)}(_:Ad P g as [] r hs'):Option Orc:=some ⟨[],[],as,r,hs',bor,none⟩
attribute [go_sem] pcq ocq bcq
@[simp] theorem Ahz(k:Nat)(c:List AV)(r:List (List AV)):AB k (c::r)=(AF k c&&AB k r):=rfl
@[simp] theorem Ah0(k:Nat):AB k []=true:=rfl
@[simp] theorem Ah3(k:Nat)(a b:List (List AV)):AB k (a++b)=(AB k a&&AB k b):=by simp[AB]
theorem OR{hp:Hp}{bor:List Nat}{i n sz:Nat}{e:Ent}{es:List (List AV)}(hi:i∈bor)(he:hp i=some e)(hes:e.es=es)(hn:es.length=n)(hsz:e.sz=sz):JL hp bor (.osl i n sz) (.sl sz es):=
 .inr (.inl ⟨i,n,sz,e,rfl,hi,he,by rw[hes];exact hn,hsz,by rw[hes]⟩)
theorem Wz{hp:Hp}{bor:List Nat}{sz:Nat}:JL hp bor (.val (.slice none 0 0)) (.sl sz []):= .inr (.inr ⟨rfl,sz,rfl⟩)
theorem Ox{hp:Hp}{bor:List Nat}{a:AV}:JL hp bor a a:= .inl rfl
theorem MO{hp:Hp}{bor:List Nat}{cs as:List AV}(h:IT hp bor cs as):IS hp bor (.agg cs) (.agg as):= .inr ⟨cs,as,rfl,rfl,h⟩
theorem dq(p:Prop)[Decidable p]:(p∧decide p=true)∨(¬ p∧decide p=false):=by by_cases h:p<;>simp[h]
theorem dqE{α:Type}[BEq α][LawfulBEq α][DecidableEq α](a b:α):(a=b∧(a==b)=true∧(a !=b)=false)∨(a≠b∧(a==b)=false∧(a !=b)=true):=by by_cases h:a=b<;>simp[h]
theorem dqB(b:Bool):b=true∨b=false:=by cases b<;>simp
theorem Aa8{P:Program}{g:FuncId}{args:List AV}{hp:Hp}{nb:Nat}{as as':List AV}{r:AV}{hs':List (Option Ent)}{i:Nat}{e:Ent}{bor:List Nat}(h:Ad P g as [some e] r hs')(he:hp i=some e)(hid:AB 0 e.es=true)(hid1:AB 1 e.es=true)(ha:AF 1 as=true)(hl:1≤hs'.length)(hl8:hs'.length≤9)
   (hr:BK ((⟨[i],[e],as,r,hs',bor,none⟩:Orc).ρ nb) as=as') (hv:Fo hp bor args as') (hn:ER r=true) (hh: ∀ e,some e∈hs'→EC e.es=true) (hb:DY hp [i] bor):(Bd P g args hp nb ⟨[i],[e],as,r,hs',bor,none⟩).ob:=by
 refine DS ⟨h,by rw[hr];exact hv,sP,⟨?_,hid1,trivial⟩,hl,by simpa using hl8,by unfold N0;split<;>first|trivial|exact⟨hn,hh⟩,hb,ha⟩
 rw[he,Cy,DT _ hid]
def NU(i:Nat)(bor:List Nat){P:Program}{g:FuncId}{as:List AV}{e:Ent}{r:AV}{hs':List (Option Ent)}(_:Ad P g as [some e] r hs'):Option Orc:=some ⟨[i],[e],as,r,hs',bor,none⟩
attribute [go_sem] NU
theorem obG{P:Program}(g:FuncId){args:List AV}{hp:Hp}{nb:Nat}{o:Orc}(h:(Bd P g args hp nb o).ob):(Bd P g args hp nb o).ob:=h
section
variable {P : Program} {C : Ctx} {Q : Exit → Nat → AS → Prop} {K : Nat → AS → Prop} {n : Nat} {s : AS}
theorem s1{x y:Code}(h:AW P C x (DZ (AW P C y Q) Q) n s):AW P C (.seq x y) Q n s:=AW.seq h
theorem s2{id:Nat}{c:Code}(h:AW P C c (DL id Q) n s):AW P C (.block id c) Q n s:=AW.block h
theorem s3{id:Nat}(h:Q .normal n s):DL id Q .normal n s:=h
theorem s4(h:K n s):DZ K Q .normal n s:=h
theorem s5{id:Nat}(h:Q (.exit id) n s):DZ K Q (.exit id) n s:=h
theorem s6{id:Nat}(h:Q .normal n s):DL id Q (.exit id) n s:=BZ h
theorem s7{id id':Nat}(h:Q (.exit id') n s)(hne:id'≠id:=by decide):DL id Q (.exit id') n s:=KF hne h
theorem s8(h:Q .normal n s):AW P C .skip Q n s:=AW.skip h
theorem s9{id:Nat}(h:Q (.exit id) n s):AW P C (.exit id) Q n s:=AW.exit h
theorem rg(hm:P.follows .mixedOrders=true){N k:Nat}(hN:C.N=N)(hk:C.k=k)(orc:Nat→Option Orc)(ks keep:List Nat){id:Nat}{ops:Array Oper}
   (h: ∀ K:Nat→AS→Prop,(∀ n s,Q .normal n s→K n s)→Ha P orc ks n ops keep K s) (hks:ks=List.range k:=by rfl) (hok:Ct N ops false=true:=by decide+kernel):AW P C (.region id ops false) Q n s:=Fj hm hN hk orc ks keep hks hok h
theorem rgd(hm:P.follows .mixedOrders=true){N k:Nat}(hN:C.N=N)(hk:C.k=k)(orc:Nat→Option Orc)(ks keep:List Nat){id:Nat}{ops:Array Oper}
   (h: ∀ (K:Nat→AS→Prop) (tok:List Touch→Prop),(∀ ts,BS (CA ops.toList []) ts=true→tok ts)→(∀ n s,Q .normal n s→K n s)→G0 P orc ks n ops keep tok K s) (hks:ks=List.range k:=by rfl) (hok:Ct N ops true=true:=by decide+kernel):AW P C (.region id ops true) Q n s:=Jx hm hN hk orc ks keep hks hok h
theorem CL{k n':Nat}{s':AS}(ids:List (Option Nat))(D:List Nat)(he:AK (lkh s.hp) ids D s.env s'.env)(hh:Am (lkh s.hp) ids D s'.hp)(hi:IdsOk ids D k s'.hp:=by exact⟨by simp[Al],by simp[Al],by first|(simp;done)|rfl⟩)(hl:ids.length≤n':=by simp):Wk k s n' s':=⟨ids,D,hi,hl,he,hh⟩
theorem BY{T:Tab}{rv:List ResultVar}{r:AV}{hs':List (Option Ent)}{k:Nat}{l:List AV}{p:Prop}(ids:List (Option Nat))(D:List Nat)(h1:AY T s rv=some (l,p))(hr:wk (lkh s.hp) ids D (Az l) r)(hh:Am (lkh s.hp) ids D (hs'.zipIdx.map fun x=>(x.2,x.1)))
   (h2:p:=by simp) (hi:IdsOk ids D k (hs'.zipIdx.map fun x=>(x.2,x.1)):=by exact⟨by simp[Al],by simp[Al],sP⟩) (hl:ids.length=hs'.length:=by simp):Di T rv r hs' k .ret 0 s:=⟨.inl rfl,l,p,ids,D,h1,h2,hi,hl,hr,hh⟩
theorem lpF{c:Code}{α:Type}{k:Nat}(hk:C.k=k)(n0:Nat)(S:α→AS)(I:α→Prop)(μ:α→Nat)(a0:α)(hw:Wk k s n0 (S a0))
   (hr: ∀ a,I a→AW P C c (DZ (fun _ s'=> ∃ a',I a'∧μ a'<μ a∧Wk k s' n0 (S a')) Q) n0 (S a))
   (h0:I a0:=by first|assumption|omega|(simp;done)|((repeat' apply And.intro)<;>first|assumption|omega|(simp;done)|(simp;omega))):AW P C (.loop c) Q n s:=Bw hk n0 S I μ a0 h0 hw hr
end
theorem lpX{P:Program}{N k:Nat}{R:Res→Prop}{c:Code}{Q:Res→Ctx→Exit→Nat→AS→Prop}{n:Nat}{s:AS}{α:Type}(n0:Nat)(S:α→AS)(I:α→Prop)(μ:α→Nat)(a0:α)(hw:Wk k s n0 (S a0))
   (hr: ∀ a,I a→ ∀ Y:Res→Ctx→Nat→AS→Prop,(∀ a',I a'→μ a'<μ a→ ∀ n s,Wk k s n0 (S a')→EX N k R fun x C=>Y x C n s)→
     EX N k R fun x C=>AW P C c (DZ (Y x C) (Q x C)) n0 (S a))
   (h0:I a0:=by first|assumption|omega|(simp;done)|((repeat' apply And.intro)<;>first|assumption|omega|(simp;done)|(simp;omega))):EX N k R fun x C=>AW P C (.loop c) (Q x C) n s:=EX.loop n0 S I μ a0 h0 hw hr
theorem eE{α:Type}{I J W:α→Prop}(a:α)(w:W a)(hI:I a:=by first|assumption|omega|(simp;done)|((repeat' apply And.intro)<;>first|assumption|omega|(simp;done)|(simp;omega)))(hJ:J a:=by first|omega|(simp;done)|(simp;omega)): ∃ a,I a∧J a∧W a:=⟨a,hI,hJ,w⟩
theorem eY{α:Type}{I J:α→Prop}{W:α→Nat→AS→Prop}{G:Nat→AS→Prop}(hY: ∀ a,I a→J a→ ∀ n s,W a n s→G n s)(a:α){n:Nat}{s:AS}(w:W a n s)(hI:I a:=by first|assumption|omega|(simp;done)|((repeat' apply And.intro)<;>first|assumption|omega|(simp;done)|(simp;omega)))(hJ:J a:=by first|omega|(simp;done)|(simp;omega)):G n s:=hY a hI hJ n s w
section
variable {P : Program} {g : FuncId} {args : List AV} {hp : Hp} {nb : Nat}
theorem FA{as:List AV}{r:AV}{hs':List (Option Ent)}(h:Ad P g as [] r hs')(hid:AF 0 as=true:=by rfl)(hl:hs'.length≤8:=by first|rfl|decide|simp):(Bd P g as hp nb {as:=as,r:=r,hs':=hs'}).ob:=BR h hid hl
theorem IJ{as:List AV}{r:AV}{hs':List (Option Ent)}{i:Nat}{e:Ent}(h:Ad P g as [some e] r hs')(he:hp i=some e:=by rfl)(hid:AB 0 e.es=true:=by first|rfl|decide|simp)(hid1:AB 1 e.es=true:=by first|rfl|decide|simp)(ha:AF 1 as=true:=by rfl)(hl:1≤hs'.length:=by simp)(hl8:hs'.length≤9:=by simp)
   (hargs:args=BK ((⟨[i],[e],as,r,hs',[],none⟩:Orc).ρ nb) as:=by rfl):(Bd P g args hp nb {ids:=[i],hs:=[e],as:=as,r:=r,hs':=hs'}).ob:=DJ h he hid hid1 ha hl hl8 hargs
theorem ID{xs:List AV}{r:AV}{hs':List (Option Ent)}{bor:List Nat}(h:Ad P g xs [] r hs')(hid:AF 0 xs=true:=by rfl)(hl:hs'.length≤8:=by simp)
   (hv:Fo hp bor args xs:=by repeat first|exact trivial|refine⟨by first|exact J0|exact AbY|exact GL sP rfl rfl (by simp[go_sem]) rfl|(refine MO ?_;repeat first|exact trivial|refine⟨by first|exact Ox|exact Wz|exact OR sP rfl rfl (by simp[go_sem]) rfl,?_⟩),?_⟩)
   (hr:ER r=true:=by rfl) (hh: ∀ e,some e∈hs'→EC e.es=true:=by simp) (hb:DY hp [] bor:=by simp[DY,AF,AN]):(Bd P g args hp nb ⟨[],[],xs,r,hs',bor,none⟩).ob:=Fh h hid hl hv hr hh hb
theorem IG{as as':List AV}{r:AV}{hs':List (Option Ent)}{i:Nat}{e:Ent}{bor:List Nat}(h:Ad P g as [some e] r hs')(he:hp i=some e:=by rfl)(hid:AB 0 e.es=true:=by simp)(hid1:AB 1 e.es=true:=by simp)(ha:AF 1 as=true:=by rfl)(hl:1≤hs'.length:=by simp)(hl8:hs'.length≤9:=by simp)
   (hr:BK ((⟨[i],[e],as,r,hs',bor,none⟩:Orc).ρ nb) as=as':=by rfl)
   (hv:Fo hp bor args as':=by repeat first|exact trivial|refine⟨by first|exact J0|exact AbY|exact GL sP rfl rfl (by simp[go_sem]) rfl|(refine MO ?_;repeat first|exact trivial|refine⟨by first|exact Ox|exact Wz|exact OR sP rfl rfl (by simp[go_sem]) rfl,?_⟩),?_⟩)
   (hn:ER r=true:=by rfl) (hh: ∀ e,some e∈hs'→EC e.es=true:=by simp) (hb:DY hp [i] bor:=by simp[DY,AF,AN]):(Bd P g args hp nb ⟨[i],[e],as,r,hs',bor,none⟩).ob:=Aa8 h he hid hid1 ha hl hl8 hr hv hn hh hb
end
class NeC(a b:Nat):Prop where
 ne:a≠b
instance:NeC 0 1:=⟨dC⟩
instance:NeC 0 2:=⟨dC⟩
instance:NeC 0 3:=⟨dC⟩
instance:NeC 0 4:=⟨dC⟩
instance:NeC 0 5:=⟨dC⟩
instance:NeC 0 6:=⟨dC⟩
instance:NeC 0 7:=⟨dC⟩
instance:NeC 1 0:=⟨dC⟩
instance:NeC 1 2:=⟨dC⟩
instance:NeC 1 3:=⟨dC⟩
instance:NeC 1 4:=⟨dC⟩
instance:NeC 1 5:=⟨dC⟩
instance:NeC 1 6:=⟨dC⟩
instance:NeC 1 7:=⟨dC⟩
instance:NeC 2 0:=⟨dC⟩
instance:NeC 2 1:=⟨dC⟩
instance:NeC 2 3:=⟨dC⟩
instance:NeC 2 4:=⟨dC⟩
instance:NeC 2 5:=⟨dC⟩
instance:NeC 2 6:=⟨dC⟩
instance:NeC 2 7:=⟨dC⟩
instance:NeC 3 0:=⟨dC⟩
instance:NeC 3 1:=⟨dC⟩
instance:NeC 3 2:=⟨dC⟩
instance:NeC 3 4:=⟨dC⟩
instance:NeC 3 5:=⟨dC⟩
instance:NeC 3 6:=⟨dC⟩
instance:NeC 3 7:=⟨dC⟩
instance:NeC 4 0:=⟨dC⟩
instance:NeC 4 1:=⟨dC⟩
instance:NeC 4 2:=⟨dC⟩
instance:NeC 4 3:=⟨dC⟩
instance:NeC 4 5:=⟨dC⟩
instance:NeC 4 6:=⟨dC⟩
instance:NeC 4 7:=⟨dC⟩
instance:NeC 5 0:=⟨dC⟩
instance:NeC 5 1:=⟨dC⟩
instance:NeC 5 2:=⟨dC⟩
instance:NeC 5 3:=⟨dC⟩
instance:NeC 5 4:=⟨dC⟩
instance:NeC 5 6:=⟨dC⟩
instance:NeC 5 7:=⟨dC⟩
instance:NeC 6 0:=⟨dC⟩
instance:NeC 6 1:=⟨dC⟩
instance:NeC 6 2:=⟨dC⟩
instance:NeC 6 3:=⟨dC⟩
instance:NeC 6 4:=⟨dC⟩
instance:NeC 6 5:=⟨dC⟩
instance:NeC 6 7:=⟨dC⟩
instance:NeC 7 0:=⟨dC⟩
instance:NeC 7 1:=⟨dC⟩
instance:NeC 7 2:=⟨dC⟩
instance:NeC 7 3:=⟨dC⟩
instance:NeC 7 4:=⟨dC⟩
instance:NeC 7 5:=⟨dC⟩
instance:NeC 7 6:=⟨dC⟩
class Nx(G:Prop)(G':outParam Prop):Prop where
 h:G'→G
theorem nx{G G':Prop}[i:Nx G G'](h:G'):G:=i.h h
section
variable {P : Program} {C : Ctx} {Q : Exit → Nat → AS → Prop} {K : Nat → AS → Prop} {n : Nat} {s : AS} {G : Prop}
instance {x y:Code} [i:Nx (AW P C x (DZ (AW P C y Q) Q) n s) G]:Nx (AW P C (.seq x y) Q n s) G:=⟨fun h=>s1 (i.h h)⟩
instance {id:Nat} {c:Code} [i:Nx (AW P C c (DL id Q) n s) G]:Nx (AW P C (.block id c) Q n s) G:=⟨fun h=>s2 (i.h h)⟩
instance {id:Nat} [i:Nx (Q .normal n s) G]:Nx (DL id Q .normal n s) G:=⟨fun h=>s3 (i.h h)⟩
instance [i:Nx (K n s) G]:Nx (DZ K Q .normal n s) G:=⟨fun h=>s4 (i.h h)⟩
instance [i:Nx (Q .normal n s) G]:Nx (AW P C .skip Q n s) G:=⟨fun h=>s8 (i.h h)⟩
instance {id:Nat} [i:Nx (Q (.exit id) n s) G]:Nx (AW P C (.exit id) Q n s) G:=⟨fun h=>s9 (i.h h)⟩
instance {id:Nat} [i:Nx (Q (.exit id) n s) G]:Nx (DZ K Q (.exit id) n s) G:=⟨fun h=>s5 (i.h h)⟩
instance {id:Nat} [i:Nx (Q .normal n s) G]:Nx (DL id Q (.exit id) n s) G:=⟨fun h=>s6 (i.h h)⟩
instance {id id':Nat} [h:NeC id' id] [i:Nx (Q (.exit id') n s) G]:Nx (DL id Q (.exit id') n s) G:=⟨fun hh=>KF h.ne (i.h hh)⟩
instance (priority:=low) {G:Prop}:Nx G G:=⟨fun h=>h⟩
end
attribute [go_sem] Nat.lt_add_one Nat.zero_lt_succ ne_eq not_false_eq_true decide_true decide_false Bool.not_true Bool.not_false Bool.false_eq_true
theorem cT{P:Program}{C:Ctx}{Q:Exit→Nat→AS→Prop}{n:Nat}{s:AS}{c:Operand}{x y:Code}(h:AW P C x Q n s)(hc:evA (lk s.env) c= .val (.bool true):=by rfl):AW P C (.cond c x y) Q n s:=AW.cond hc h
theorem cF{P:Program}{C:Ctx}{Q:Exit→Nat→AS→Prop}{n:Nat}{s:AS}{c:Operand}{x y:Code}(h:AW P C y Q n s)(hc:evA (lk s.env) c= .val (.bool false):=by rfl):AW P C (.cond c x y) Q n s:=AW.cond hc h
theorem obK{A B:Prop}(h:B)(ob:A:=by(try clear hqX);(repeat' (with_reducible refine And.intro ?_ ?_))<;>first|with_reducible exact True.intro|omega|exact B2 _|exact FA aS|exact IJ aS|exact ID aS|exact IG aS|with_reducible assumption|decide|(simp;done)|(simp;omega)):A∧B:=⟨ob,h⟩
end Go.Av
