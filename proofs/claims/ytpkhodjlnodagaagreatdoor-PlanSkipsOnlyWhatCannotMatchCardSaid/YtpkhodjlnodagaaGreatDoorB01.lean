/- Part 1 of the proof of PlanSkipsOnlyWhatCannotMatch. -/
import Derived.Orders
import Derived.Below
import Derived.Laws.Strings
set_option linter.unusedSimpArgs false
set_option linter.unusedVariables false
set_option linter.unusedSectionVars false
namespace Go.Av
theorem oM{p:Prop}(h:p:=by omega):p:=h
theorem sP{p:Prop}(h:p:=by simp):p:=h
theorem dK{p:Prop}(h:p:=by decide+kernel):p:=h
theorem dC{p:Prop}(h:p:=by decide):p:=h
theorem aS{p:Prop}(h:p:=by assumption):p:=h
theorem sO{p:Prop}(h:p:=by simp;omega):p:=h
def Jy:List Value:=[.int .i64 0,.int .i64 253402300799999]
def lwB(b:Nat):Prop:=b=0
def L5(w:World):Prop:= ∃ t fr,w.heap[0]? =some (.cells Jy.toArray t fr)
theorem OJ{w w':World}(h: ∀ b,lwB b→w'.heap[b]? =w.heap[b]?)(hw:L5 w):L5 w':=by
 obtain⟨t,fr,h1⟩:=hw
 exact⟨t,fr,by rw[h 0 rfl];exact h1⟩
theorem Uu{w:World}(hw:L5 w): ∀ b,lwB b→ ∃ c t fr,w.heap[b]? =some (.cells c t fr):=by
 rintro b rfl
 obtain⟨t,fr,h⟩:=hw
 exact⟨_,t,fr,h⟩
inductive AV where
 |any
 |val (v:Value)
 |agg (cs:List AV)
 |tup (cs:List AV)
 |sl (sz:Nat) (es:List (List AV))
 |rp (cs:List AV)
 |osl (id n sz:Nat)
 |ptr (id sz k off:Nat)
 |osv (id lo n sz:Nat)
 |fn (f:FuncId) (k:Nat) (cs:List AV)
 deriving Inhabited
structure Ent where
 ty:TypeId
 sz:Nat
 es:List (List AV)
abbrev Env:=Nat→AV
abbrev Hp:=Nat→Option Ent
abbrev Gm:=Nat→Option (Option Nat)
def β0:Gm:=fun _=>none
def Own(X:Nat→Prop)(β:Gm)(hp:Hp)(b:Nat):Prop:=X b∨ ∃ i e,hp i=some e∧β i=some (some b)
def Cl(w:World)(b off:Nat)(vs:List Value):Prop:= ∀ (j:Nat) (v:Value),vs[j]? =some v→w.cell? ⟨b,off+j,none⟩=some v
mutual
def Rep(w:World)(β:Gm)(O:Nat→Prop):AV→Value→Prop
 | .any,_=>True
 | .val u,v=>v=u
 | .agg cs,v=> ∃ vs:List Value,v= .agg vs.toArray∧AJ w β O cs vs
 | .tup cs,v=> ∃ vs:List Value,v= .tuple vs.toArray∧AJ w β O cs vs
 | .fn f k cs,v=> ∃ vs:List Value,v= .func (.func f) (vs.take k).toArray (vs.drop k).toArray∧AJ w β O cs vs
 | .sl sz es,v=>(v= .slice none 0 0∧es=[])∨ ∃ b off cap vs,v= .slice (some ⟨b,off,none⟩) es.length cap∧es.length≤cap∧b<w.heap.size∧ ¬ O b∧Cl w b off vs∧AI w β0 O sz es vs
 | .rp cs,v=> ∃ b off vs,v= .pointer (some ⟨b,off,none⟩)∧b<w.heap.size∧ ¬ O b∧Cl w b off vs∧AJ w β0 O cs vs
 | .osl i n sz,v=>(β i=some none∧v= .slice none 0 0∧n=0)∨ ∃ b cap T m,β i=some (some b)∧v= .slice (some ⟨b,0,none⟩) n cap∧n≤cap∧w.shape? b=some (T,m)∧cap*sz≤m
 | .ptr i sz k off,v=> ∃ b,β i=some (some b)∧v= .pointer (some ⟨b,k*sz+off,none⟩)
 | .osv i lo n sz,v=>(β i=some none∧v= .slice none 0 0∧n=0)∨ ∃ b off cap T m,β i=some (some b)∧v= .slice (some ⟨b,off,none⟩) n cap∧n≤cap∧(off=lo*sz∨(n=0∧cap=0∧off=0))∧w.shape? b=some (T,m)∧off+cap*sz≤m
def AJ(w:World)(β:Gm)(O:Nat→Prop):List AV→List Value→Prop
 | [],vs=>vs=[]
 |c::cs,vs=> ∃ v r,vs=v::r∧Rep w β O c v∧AJ w β O cs r
def AI(w:World)(β:Gm)(O:Nat→Prop)(sz:Nat):List (List AV)→List Value→Prop
 | [],vs=>vs=[]
 |c::cs,vs=> ∃ v r,vs=v++r∧c.length=sz∧AJ w β O c v∧AI w β O sz cs r
end
structure Stab(w w':World)(β β':Gm)(O O':Nat→Prop):Prop where
 size:w.heap.size≤w'.heap.size
 gm: ∀ i p,β i=some p→β' i=some p
 shape: ∀ b s,w.shape? b=some s→w'.shape? b=some s
 blk: ∀ b,b<w.heap.size→ ¬ O b→(w'.heap[b]? =w.heap[b]? ∨ ∀ o,w.cell? ⟨b,o,none⟩=none)∧ ¬ O' b
theorem Stab.z{w w':World}{β β':Gm}{O O':Nat→Prop}(h:Stab w w' β β' O O'):Stab w w' β0 β0 O O':=⟨h.size,fun _ _ h=>h,h.shape,h.blk⟩
theorem Stab.up(w:World)(β:Gm)(O:Nat→Prop):Stab w w β0 β O O:=⟨Nat.le_refl _,fun _ _ h=>by simp[β0]at h,fun _ _ h=>h,fun _ _ h=>⟨.inl rfl,h⟩⟩
theorem RI{w w':World}{b:Nat}(h:w'.heap[b]? =w.heap[b]?)(o:Nat)(s:Option Nat):w'.cell? ⟨b,o,s⟩=w.cell? ⟨b,o,s⟩:=by
 simp only[World.cell?,h]
theorem Cl.keep{w w':World}{b off:Nat}{vs:List Value}(h:Cl w b off vs)(hb:w'.heap[b]? =w.heap[b]?):Cl w' b off vs:=
 fun j v hv=>(RI hb _ _).trans (h j v hv)
theorem Cl.keep'{w w':World}{b off:Nat}{vs:List Value}(h:Cl w b off vs)(hb:w'.heap[b]? =w.heap[b]? ∨ ∀ o,w.cell? ⟨b,o,none⟩=none):Cl w' b off vs:=by
 rcases hb with hb|hb
 · exact h.keep hb
 · intro j v hv
   have:=h j v hv
   rw[hb]at this;cases this
mutual
theorem Rep.mono{w w':World}{β β':Gm}{O O':Nat→Prop}(h:Stab w w' β β' O O'): ∀ (a:AV) (v:Value),Rep w β O a v→Rep w' β' O' a v
 | .any,_,_=>by simp[Rep]
 | .val u,v,hr=>by simpa [Rep] using hr
 | .agg cs,v,hr=>by
   simp only[Rep]at hr ⊢
   obtain⟨vs,rfl,hl⟩:=hr
   exact⟨vs,rfl,AJ.mono h cs vs hl⟩
 | .tup cs,v,hr=>by
   simp only[Rep]at hr ⊢
   obtain⟨vs,rfl,hl⟩:=hr
   exact⟨vs,rfl,AJ.mono h cs vs hl⟩
 | .fn f k cs,v,hr=>by
   simp only[Rep]at hr ⊢
   obtain⟨vs,rfl,hl⟩:=hr
   exact⟨vs,rfl,AJ.mono h cs vs hl⟩
 | .sl sz es,v,hr=>by
   simp only[Rep]at hr ⊢
   rcases hr with hr|⟨b,off,cap,vs,h1,h2,h3,h4,h5,h6⟩
   · exact .inl hr
   · exact .inr ⟨b,off,cap,vs,h1,h2,Nat.lt_of_lt_of_le h3 h.size,(h.blk b h3 h4).2,h5.keep' (h.blk b h3 h4).1,AI.mono h.z sz es vs h6⟩
 | .rp cs,v,hr=>by
   simp only[Rep]at hr ⊢
   obtain⟨b,off,vs,h1,h3,h4,h5,h6⟩:=hr
   exact⟨b,off,vs,h1,Nat.lt_of_lt_of_le h3 h.size,(h.blk b h3 h4).2,h5.keep' (h.blk b h3 h4).1,AJ.mono h.z cs vs h6⟩
 | .osl i n sz,v,hr=>by
   simp only[Rep]at hr ⊢
   rcases hr with ⟨h1,h2⟩|⟨b,cap,T,m,h1,h2,h3,h4,h5⟩
   · exact .inl ⟨h.gm _ _ h1,h2⟩
   · exact .inr ⟨b,cap,T,m,h.gm _ _ h1,h2,h3,h.shape _ _ h4,h5⟩
 | .ptr i sz k off,v,hr=>by
   simp only[Rep]at hr ⊢
   obtain⟨b,h1,h2⟩:=hr
   exact⟨b,h.gm _ _ h1,h2⟩
 | .osv i lo n sz,v,hr=>by
   simp only[Rep]at hr ⊢
   rcases hr with ⟨h1,h2⟩|⟨b,off,cap,T,m,h1,h2,h3,h5,h4,h6⟩
   · exact .inl ⟨h.gm _ _ h1,h2⟩
   · exact .inr ⟨b,off,cap,T,m,h.gm _ _ h1,h2,h3,h5,h.shape _ _ h4,h6⟩
theorem AJ.mono{w w':World}{β β':Gm}{O O':Nat→Prop}(h:Stab w w' β β' O O'): ∀ (a:List AV) (v:List Value),AJ w β O a v→AJ w' β' O' a v
 | [],v,hr=>by simpa [AJ] using hr
 |c::cs,v,hr=>by
   simp only[AJ]at hr ⊢
   obtain⟨u,r,h1,h2,h3⟩:=hr
   exact⟨u,r,h1,Rep.mono h c u h2,AJ.mono h cs r h3⟩
theorem AI.mono{w w':World}{β β':Gm}{O O':Nat→Prop}(h:Stab w w' β β' O O')(sz:Nat): ∀ (a:List (List AV)) (v:List Value),AI w β O sz a v→AI w' β' O' sz a v
 | [],v,hr=>by simpa [AI] using hr
 |c::cs,v,hr=>by
   simp only[AI]at hr ⊢
   obtain⟨u,r,h1,h2,h3,h4⟩:=hr
   exact⟨u,r,h1,h2,AJ.mono h c u h3,AI.mono h sz cs r h4⟩
end
theorem Rep.up{w:World}{β:Gm}{O:Nat→Prop}{a:AV}{v:Value}(h:Rep w β0 O a v):Rep w β O a v:=Rep.mono (Stab.up w β O) a v h
theorem AJ.up{w:World}{β:Gm}{O:Nat→Prop}{a:List AV}{v:List Value}(h:AJ w β0 O a v):AJ w β O a v:=AJ.mono (Stab.up w β O) a v h
theorem AI.up{w:World}{β:Gm}{O:Nat→Prop}{sz:Nat}{a:List (List AV)}{v:List Value}(h:AI w β0 O sz a v):AI w β O sz a v:=AI.mono (Stab.up w β O) sz a v h
section lists
variable {w : World} {β : Gm} {O : Nat → Prop}
theorem AJ.length: ∀ {a:List AV} {v:List Value},AJ w β O a v→a.length=v.length
 | [],v,h=>by simp only[AJ]at h;simp[h]
 |c::cs,v,h=>by
   simp only[AJ]at h
   obtain⟨u,r,rfl,_,h3⟩:=h
   simp[AJ.length h3]
theorem AJ.append: ∀ {a a':List AV} {v v':List Value},AJ w β O a v→AJ w β O a' v'→AJ w β O (a++a') (v++v')
 | [],a',v,v',h,h'=>by simp only[AJ]at h;subst h;simpa using h'
 |c::cs,a',v,v',h,h'=>by
   simp only[AJ]at h
   obtain⟨u,r,rfl,h2,h3⟩:=h
   simp only[List.cons_append,AJ]
   exact⟨u,r++v',rfl,h2,h3.append h'⟩
theorem AJ.split: ∀ {a a':List AV} {v:List Value},AJ w β O (a++a') v→ ∃ v1 v2,v=v1++v2∧AJ w β O a v1∧AJ w β O a' v2
 | [],a',v,h=>⟨[],v,rfl,by simp[AJ],h⟩
 |c::cs,a',v,h=>by
   simp only[List.cons_append,AJ]at h
   obtain⟨u,r,rfl,h2,h3⟩:=h
   obtain⟨v1,v2,rfl,h4,h5⟩:=AJ.split h3
   exact⟨u::v1,v2,rfl,by simp only[AJ];exact⟨u,v1,rfl,h2,h4⟩,h5⟩
theorem AJ.get: ∀ {a:List AV} {v:List Value},AJ w β O a v→ ∀ (j:Nat) (c:AV),a[j]? =some c→ ∃ u,v[j]? =some u∧Rep w β O c u
 | [],v,h,j,c,hj=>by simp at hj
 |c'::cs,v,h,j,c,hj=>by
   simp only[AJ]at h
   obtain⟨u,r,rfl,h2,h3⟩:=h
   cases j with
   |zero=>simp at hj;subst hj;exact⟨u,rfl,h2⟩
   |succ j=>simp at hj;simpa using AJ.get h3 j c hj
theorem AI.length: ∀ {sz:Nat} {a:List (List AV)} {v:List Value},AI w β O sz a v→v.length=a.length*sz
 |sz,[],v,h=>by simp only[AI]at h;simp[h]
 |sz,c::cs,v,h=>by
   simp only[AI]at h
   obtain⟨u,r,rfl,h1,h2,h3⟩:=h
   simp[AI.length h3,← h2.length,h1,Nat.succ_mul]
   omega
theorem AI.append: ∀ {sz:Nat} {a a':List (List AV)} {v v':List Value},AI w β O sz a v→AI w β O sz a' v'→AI w β O sz (a++a') (v++v')
 |sz,[],a',v,v',h,h'=>by simp only[AI]at h;subst h;simpa using h'
 |sz,c::cs,a',v,v',h,h'=>by
   simp only[AI]at h
   obtain⟨u,r,rfl,h1,h2,h3⟩:=h
   simp only[List.cons_append,AI]
   exact⟨u,r++v',sP,h1,h2,h3.append h'⟩
theorem AI.split: ∀ {sz:Nat} {a a':List (List AV)} {v:List Value},AI w β O sz (a++a') v→ ∃ v1 v2,v=v1++v2∧AI w β O sz a v1∧AI w β O sz a' v2
 |sz,[],a',v,h=>⟨[],v,rfl,by simp[AI],h⟩
 |sz,c::cs,a',v,h=>by
   simp only[List.cons_append,AI]at h
   obtain⟨u,r,rfl,h1,h2,h3⟩:=h
   obtain⟨v1,v2,rfl,h4,h5⟩:=AI.split h3
   exact⟨u++v1,v2,sP,by simp only[AI];exact⟨u,v1,rfl,h1,h2,h4⟩,h5⟩
theorem AI.mem: ∀ {sz:Nat} {a:List (List AV)} {v:List Value},AI w β O sz a v→ ∀ c∈a,c.length=sz
 |sz,[],v,h,c,hc=>by simp at hc
 |sz,c'::cs,v,h,c,hc=>by
   simp only[AI]at h
   obtain⟨u,r,rfl,h1,h2,h3⟩:=h
   rcases List.mem_cons.1 hc with rfl|hc
   · exact h1
   · exact AI.mem h3 c hc
theorem AI.at{sz:Nat}{a:List (List AV)}{v:List Value}(h:AI w β O sz a v)(k:Nat)(c:List AV)(hk:a[k]? =some c):
   ∃ v1 u v2,v=v1++u++v2∧v1.length=k*sz∧AJ w β O c u∧AI w β O sz (a.take k) v1∧AI w β O sz (a.drop (k+1)) v2:=by
 have hlt:k<a.length:=by
   rcases Nat.lt_or_ge k a.length with h|h
   · exact h
   · simp[List.getElem?_eq_none h]at hk
 have e:a=a.take k++(c::a.drop (k+1)):=by
   have h1:a[k]=c:=by simpa [List.getElem?_eq_getElem hlt] using hk
   rw[← h1,List.getElem_cons_drop];simp
 rw[e]at h
 obtain⟨v1,v2,rfl,h1,h2⟩:=AI.split h
 simp only[AI]at h2
 obtain⟨u,r,rfl,h3,h4,h5⟩:=h2
 refine⟨v1,u,r,sP,?_,h4,h1,h5⟩
 rw[h1.length,List.length_take,Nat.min_eq_left oM]
end lists
structure TI where
 size:Nat
 bytes:Nat
 desc:TypeDesc
 zero:List Value
abbrev Tab:=TypeId→Option TI
def Dw(d:TypeDesc):Bool:=match d with| .struct _| .array _ _=>true|_=>false
def CT(d:TypeDesc):Bool:=match d with| .struct _=>true|_=>false
def TI.isAgg(ti:TI):Bool:=Dw ti.desc
def B4(P:Program)(T:Tab):Prop:= ∀ t ti,T t=some ti→ ∃ i z,P.info? t=some i∧i.size=ti.size∧i.bytes=ti.bytes∧i.zero=some z∧z.cells.toList=ti.zero∧P.underlying t=some ti.desc∧ti.zero.length=ti.size∧(∀ fs,ti.desc= .struct fs→ ∀ f∈fs.toList,∃ j,P.info? f.type=some j)
def Bl(T:Tab)(t:TypeId):Option TypeDesc:=match T t with
 |some ti=>some ti.desc
 |none=>none
def bl(s:ByteArray):List UInt8:=s.data.toList
def str(l:List UInt8):AV:= .val (.string ⟨l.toArray⟩)
def B(b:Bool):AV:= .val (.bool b)
def I(n:Int):AV:= .val (.int .i64 n)
def U8(c:UInt8):AV:= .val (.int .u8 c.toNat)
def U64(n:Int):AV:= .val (.int .u64 n)
abbrev U32(n:Int):AV:= .val (.int .u32 n)
@[simp] theorem Aby(l:List UInt8):bl ⟨l.toArray⟩=l:=rfl
def evA(env:Env):Operand→AV
 | .tmp t=>env t
 | .const (.agg cs)=> .agg (cs.toList.map .val)
 | .const v=> .val v
 | .global _=> .any
 | .func f=> .val (.func (.func f) #[] #[])
structure Out where
 v:AV
 hw:List (Nat×Option Ent):=[]
 hr:List Nat:=[]
 ob:Prop:=True
def out(v:AV)(ob:Prop:=True):Option Out:=some {v,ob}
def AP(op:BinOp)(k:IntKind)(a b:Int):Int:=
 let x:=BitVec.ofInt k.bits a
 let y:=BitVec.ofInt k.bits b
 match op with
 | .and=>k.wrap (x &&& y).toNat
 | .or=>k.wrap (x ||| y).toNat
 | .xor=>k.wrap (x ^^^ y).toNat
 |_=>k.wrap (x &&& ~~~y).toNat
def Ra(op:BinOp)(k k':IntKind)(a b:Int):Value×Prop:=
 match op with
 | .shl=>(.int k (k.wrap (a*2^(min b.toNat k.bits))),0≤b)
 | .shr=>(.int k (a.fdiv (2^(min b.toNat k.bits))),0≤b)
 | .add=>(.int k (k.wrap (a+b)),k=k')
 | .sub=>(.int k (k.wrap (a-b)),k=k')
 | .mul=>(.int k (k.wrap (a*b)),k=k')
 | .quo=>(.int k (k.wrap (a.tdiv b)),k=k'∧b≠0)
 | .rem=>(.int k (a.tmod b),k=k'∧b≠0)
 | .and=>(.int k (AP .and k a b),k=k')
 | .or=>(.int k (AP .or k a b),k=k')
 | .xor=>(.int k (AP .xor k a b),k=k')
 | .andNot=>(.int k (AP .andNot k a b),k=k')
 | .eql=>(.bool (a==b),k=k')
 | .neq=>(.bool (a !=b),k=k')
 | .lss=>(.bool (decide (a<b)),k=k')
 | .leq=>(.bool (decide (a≤b)),k=k')
 | .gtr=>(.bool (decide (a>b)),k=k')
 | .geq=>(.bool (decide (a≥b)),k=k')
def Aax(op:BinOp)(a b:List UInt8):Option (Value×Prop):=
 match op with
 | .add=>some (.string ⟨(a++b).toArray⟩,((a.length+b.length:Nat):Int)<2^63)
 | .eql=>some (.bool (a==b),True)
 | .neq=>some (.bool (!(a==b)),True)
 | .lss=>some (.bool (Op.bytesLess a b),True)
 | .leq=>some (.bool (Op.bytesLess a b||a==b),True)
 | .gtr=>some (.bool (!(Op.bytesLess a b||a==b)),True)
 | .geq=>some (.bool (!(Op.bytesLess a b)),True)
 |_=>none
def Ex:List AV→Option (List Value)
 | []=>some []
 | .val v::r=>match Ex r with
   |some l=>some (v::l)
   |none=>none
 |_::_=>none
def eqV:List Value→List Value→Bool
 | [],[]=>true
 | .int _ a::r,.int _ b::s=>a==b&&eqV r s
 | .string a::r,.string b::s=>bl a==bl b&&eqV r s
 | .bool a::r,.bool b::s=>a==b&&eqV r s
 |_,_=>false
def Rv(P:Program)(t:TypeId)(us vs:List Value)(b:Bool):Prop:=
 P.eqGuardType P.depth t=false∧ ∀ w,(Op.equal t (.agg us.toArray) (.agg vs.toArray)).run P w= .ok b w
def VT(P:Program)(T:Tab)(op:BinOp)(xt:TypeId):AV→AV→Option Out
 | .val (.int k a),.val (.int k' b)=>out (.val (Ra op k k' a b).1) (Ra op k k' a b).2
 | .val (.string a),.val (.string b)=>match Aax op (bl a) (bl b)with
   |some (v,p)=>out (.val v) p
   |none=>none
 | .val (.bool a),.val (.bool b)=>match Bl T xt with
   |some .bool=>match op with
     | .eql=>out (.val (.bool (a==b)))
     | .neq=>out (.val (.bool (!(a==b))))
     |_=>none
   |_=>none
 | .agg xs,.agg ys=>match Ex xs,Ex ys with
   |some us,some vs=>match op with
     | .eql=>out (.val (.bool (eqV us vs))) (Rv P xt us vs (eqV us vs))
     | .neq=>out (.val (.bool (!(eqV us vs)))) (Rv P xt us vs (eqV us vs))
     |_=>none
   |_,_=>none
 |_,_=>none
def aUn(op:UnOp):AV→Option Out
 | .val (.bool b)=>match op with
   | .not=>out (.val (.bool (!b)))
   |_=>none
 | .val (.int k n)=>match op with
   | .neg=>out (.val (.int k (k.wrap (0-n))))
   | .xor=>out (.val (.int k (AP .xor k (if k.signed then-1 else k.max) n)))
   |_=>none
 |_=>none
def Po:List AV→UInt8
 | [.val (.int .u8 n)]=>UInt8.ofNat n.toNat
 |_=>0
def Gu:List AV→Bool
 | [.val (.int .u8 n)]=>decide (0≤n∧n<256)
 |_=>false
def FE(b:UInt8):List AV:=[.val (.int .u8 b.toNat)]
def Ab(l:List UInt8):List (List AV):=l.map FE
def FY(es:List (List AV)):List UInt8:=es.map Po
def Ly(T:Tab)(t:TypeId):Bool:=match T t with
 |some ti=>match ti.desc with
   | .int .u8=>true
   |_=>false
 |none=>false
def KV(T:Tab)(hp:Hp)(nb:Nat)(src dst:TypeId)(x:AV):Option Out:=
 match Bl T src,Bl T dst,x with
 |some (.int _),some (.int k),.val (.int _ n)=>out (.val (.int k (k.wrap n)))
 |some .string,some .string,.val (.string s)=>out (.val (.string s))
 |some .string,some (.slice e),.val (.string s)=>match Ly T e with
   |true=>some {v:= .osl nb s.size 1,hw:=[(nb,some ⟨e,1,Ab (bl s)⟩)]}
   |false=>none
 |some (.slice e),some (.slice _),.osl i n sz=>match Ly T e,src==dst,hp i with
   |true,true,some en=>some {v:= .osl i n sz,hw:=[(i,some en)],hr:=[i],ob:=n=en.es.length∧0<n}
   |_,_,_=>none
 |some (.slice e),some .string,.sl _ es=>match Ly T e with
   |true=>out (.val (.string ⟨(FY es).toArray⟩)) (∀ c∈es,Gu c=true)
   |false=>none
 |some (.slice e),some .string,.osl i n _=>match Ly T e,hp i with
   |true,some en=>some {v:= .val (.string ⟨(FY en.es).toArray⟩),hr:=[i],ob:=(∀ c∈en.es,Gu c=true)∧en.es.length=n∧en.sz=1}
   |_,_=>none
 |some (.slice e),some .string,.val (.slice none 0 0)=>match Ly T e with
   |true=>out (.val (.string ⟨#[]⟩))
   |false=>none
 |_,_,_=>none
def In:AV→Option (List AV)
 | .any=>none
 | .tup _=>none
 | .val (.agg _)=>none
 | .val (.tuple _)=>none
 | .agg cs=>some cs
 |a=>some [a]
def CC:AV→Bool
 | .any=>false
 | .agg _=>false
 | .tup _=>false
 | .val (.agg _)=>false
 | .val (.tuple _)=>false
 |_=>true
def splice(cs:List AV)(off:Nat)(xs:List AV):List AV:=cs.take off++(xs++cs.drop (off+xs.length))
def A1(T:Tab)(t:TypeId)(f:Nat):Option (Nat×TI):=
 match Bl T t with
 |some (.struct fs)=>match fs[f]? with
   |some fd=>match T fd.type with
     |some tf=>some (fd.offset,tf)
     |none=>none
   |none=>none
 |_=>none
def elemOf(T:Tab)(t:TypeId):Option (TypeId×TI):=
 match Bl T t with
 |some (.slice e)=>match T e with
   |some te=>some (e,te)
   |none=>none
 |_=>none
def Wg(T:Tab)(t:TypeId):Option (Nat×TI):=
 match Bl T t with
 |some (.array len e)=>match T e with
   |some te=>some (len,te)
   |none=>none
 |_=>none
def JU(tf:TI)(cs:List AV)(ob:Prop)(hr:List Nat:=[]):Option Out:=
 if tf.isAgg then some {v:= .agg (cs.take tf.size),hr,ob:=ob∧tf.size≤cs.length}
 else match cs with
   |c::_=>some {v:=c,hr,ob}
   | []=>none
def Ic(T:Tab)(hp:Hp)(t:TypeId)(a:AV):Option Out:=
 match T t,a with
 |some ti,.rp cs=>JU ti cs True
 |some ti,.ptr i sz k off=>match hp i with
   |some e=>match e.es[k]? with
     |some c=>JU ti (c.drop off) (e.sz=sz) [i]
     |none=>none
   |none=>none
 |_,_=>none
def Jn(T:Tab)(hp:Hp)(t:TypeId)(a x:AV):Option Out:=
 match T t,a,In x with
 |some ti,.ptr i sz k off,some xs=>match hp i with
   |some e=>match e.es[k]? with
     |some c=>some {v:= .any,hw:=[(i,some {e with es:=e.es.set k (splice c off xs)})],hr:=[i],ob:=e.sz=sz∧off+xs.length≤c.length∧xs.length=ti.size∧xs.all CC=true}
     |none=>none
   |none=>none
 |_,_,_=>none
def IM(T:Tab)(t:TypeId)(x:AV)(f:Nat):Option Out:=
 match A1 T t f,x with
 |some (o,tf),.ptr i sz k off=>out (.ptr i sz k (off+o)) (tf.size≠0)
 |some (o,tf),.rp cs=>out (.rp (cs.drop o)) (tf.size≠0)
 |_,_=>none
def N2(T:Tab)(t:TypeId)(x:AV)(f:Nat):Option Out:=
 match A1 T t f,x with
 |some (o,tf),.agg cs=>JU tf (cs.drop o) True
 |_,_=>none
def IU(T:Tab)(t:TypeId)(x i:AV):Option Out:=
 match elemOf T t,x,i with
 |some (_,te),.sl sz es,.val (.int _ n)=>match es[n.toNat]? with
   |some c=>out (.rp c) (0≤n∧sz=te.size)
   |none=>none
 |some (_,te),.osl i m sz,.val (.int _ n)=>out (.ptr i sz n.toNat 0) (0≤n∧n<m∧sz=te.size)
 |some (_,te),.osv i lo m sz,.val (.int _ n)=>out (.ptr i sz (lo+n.toNat) 0) (0≤n∧n<m∧sz=te.size)
 |none,.ptr i sz k off,.val (.int _ n)=>match Wg T t with
   |some (len,te)=>out (.ptr i sz k (off+n.toNat*te.size)) (0≤n∧n<len)
   |none=>none
 |_,_,_=>none
def N9(T:Tab)(t:TypeId)(x i:AV):Option Out:=
 match Bl T t,x,i with
 |some .string,.val (.string s),.val (.int _ n)=>match (bl s)[n.toNat]? with
   |some b=>out (.val (.int .u8 b.toNat)) (0≤n)
   |none=>none
 |_,_,_=>none
def Dn(env:Env)(d:Nat):Option Operand→Option (Nat×Prop)
 |none=>some (d,True)
 |some x=>match evA env x with
   | .val (.int _ n)=>some (n.toNat,0≤n)
   |_=>none
def LX(T:Tab)(t:TypeId)(x:AV)(env:Env)(lo hi:Option Operand):Option Out:=
 match Bl T t,x with
 |some .string,.val (.string s)=>match Dn env 0 lo,Dn env (bl s).length hi with
   |some (l,p),some (h,q)=>out (.val (.string ⟨(((bl s).take h).drop l).toArray⟩)) (p∧q∧l≤h∧h≤(bl s).length)
   |_,_=>none
 |some (.slice e),.sl sz es=>match Dn env 0 lo,Dn env es.length hi,T e with
   |some (l,p),some (h,q),some te=>out (.sl sz ((es.take h).drop l)) (p∧q∧l≤h∧h≤es.length∧te.size=sz)
   |_,_,_=>none
 |some (.slice e),.val (.slice none 0 0)=>match Dn env 0 lo,Dn env 0 hi,T e with
   |some (l,p),some (h,q),some _=>out (.val (.slice none 0 0)) (p∧q∧l=0∧h=0)
   |_,_,_=>none
 |some (.slice e),.osl i n sz=>match Dn env 0 lo,Dn env n hi,T e with
   |some (l,p),some (h,q),some te=>out (.osv i l (h-l) sz) (p∧q∧l≤h∧h≤n∧te.size=sz)
   |_,_,_=>none
 |_,_=>none
def Ig(hp:Hp)(sz:Nat):AV→Option (List (List AV)×List Nat×Prop)
 | .sl s es=>some (es,[],s=sz)
 | .osl i n s=>match hp i with
   |some e=>some (e.es,[i],e.es.length=n∧s=sz∧e.sz=sz)
   |none=>none
 | .osv i lo n s=>match hp i with
   |some e=>some ((e.es.drop lo).take n,[i],lo+n≤e.es.length∧s=sz∧e.sz=sz)
   |none=>none
 | .val (.slice none 0 0)=>some ([],[],True)
 | .val (.string s)=>some (Ab (bl s),[],sz=1)
 |_=>none
def Hn(T:Tab)(hp:Hp)(nb:Nat)(t:TypeId)(x y:AV):Option Out:=
 match elemOf T t with
 |none=>none
 |some (e,te)=>match Ig hp te.size y with
   |none=>none
   |some (es,rs,p)=>match x with
     | .val (.slice none 0 0)=>some {v:= .osl nb es.length te.size,hw:=[(nb,some ⟨e,te.size,es⟩)],hr:=rs,ob:=p∧0<te.size∧0<te.bytes∧es.length*te.bytes≤2^47}
     | .osl i n sz=>match hp i with
       |some en=>some {v:= .osl nb (n+es.length) te.size,hw:=[(i,none),(nb,some ⟨e,te.size,en.es++es⟩)],hr:=i::rs,ob:=p∧es.all (fun c=>c.all CC)=true∧0<te.size∧0<te.bytes∧(n+es.length)*te.bytes≤2^47∧en.es.length=n∧sz=te.size∧en.sz=te.size∧en.ty=e}
       |none=>none
     | .osv i 0 n sz=>match hp i with
       |some en=>some {v:= .osl nb (n+es.length) te.size,hw:=[(i,none),(nb,some ⟨e,te.size,en.es.take n++es⟩)],hr:=i::rs,ob:=p∧es.all (fun c=>c.all CC)=true∧0<te.size∧0<te.bytes∧(n+es.length)*te.bytes≤2^47∧n≤en.es.length∧sz=te.size∧en.sz=te.size∧en.ty=e}
       |none=>none
     |_=>none
def SR:AV→Option Out
 | .sl _ es=>out (.val (.int .i64 es.length))
 | .osl _ n _=>out (.val (.int .i64 n))
 | .osv _ _ n _=>out (.val (.int .i64 n))
 | .val (.string s)=>out (.val (.int .i64 (bl s).length))
 | .val (.slice none 0 0)=>out (.val (.int .i64 0))
 |_=>none
def Wr:AV→AV→Option AV
 | .val (.int k x),.val (.int _ y)=>some (.val (.int k (if y<x then y else x)))
 |_,_=>none
def Wl:AV→AV→Option AV
 | .val (.int k x),.val (.int _ y)=>some (.val (.int k (if y>x then y else x)))
 |_,_=>none
mutual
def ren(ρ:Nat→Nat):AV→AV
 | .any=> .any
 | .val v=> .val v
 | .agg cs=> .agg (BK ρ cs)
 | .tup cs=> .tup (BK ρ cs)
 | .fn f k cs=> .fn f k (BK ρ cs)
 | .sl sz es=> .sl sz es
 | .rp cs=> .rp cs
 | .osl i n sz=> .osl (ρ i) n sz
 | .ptr i sz k off=> .ptr (ρ i) sz k off
 | .osv i lo n sz=> .osv (ρ i) lo n sz
def BK(ρ:Nat→Nat):List AV→List AV
 | []=>[]
 |c::cs=>ren ρ c::BK ρ cs
end
def Cy(ρ:Nat→Nat)(e:Ent):Ent:={e with es:=e.es.map (BK ρ)}
mutual
def AN(k:Nat):AV→Bool
 | .any=>true
 | .val _=>true
 | .agg cs=>AF k cs
 | .tup cs=>AF k cs
 | .fn _ _ cs=>AF k cs
 | .sl _ _=>true
 | .rp _=>true
 | .osl i _ _=>decide (i<k)
 | .ptr i _ _ _=>decide (i<k)
 | .osv i _ _ _=>decide (i<k)
def AF(k:Nat):List AV→Bool
 | []=>true
 |c::cs=>AN k c&&AF k cs
end
def AB(k:Nat)(es:List (List AV)):Bool:=es.all (AF k)
mutual
def ER:AV→Bool
 | .any=>true
 | .val _=>true
 | .agg cs=>Ie cs
 | .tup cs=>Ie cs
 | .fn _ _ cs=>Ie cs
 | .sl _ _=>false
 | .rp _=>false
 | .osl _ _ _=>true
 | .ptr _ _ _ _=>true
 | .osv _ _ _ _=>true
def Ie:List AV→Bool
 | []=>true
 |c::cs=>ER c&&Ie cs
end
def EC(es:List (List AV)):Bool:=es.all Ie
def MM(d:TypeDesc):Bool:=match d with| .interface _=>false|_=>true
def NS(T:Tab)(t:TypeId):AV→Option Out
 | .val v=>match Bl T t with
   |some d=>match MM d with
     |true=>out (.val (.iface t v))
     |false=>none
   |none=>none
 |_=>none
def Ps(T:Tab)(x:AV)(asserted:TypeId):Option Out:=
 match x,T asserted with
 | .val (.iface t v),some ti=>match MM ti.desc with
   |true=>if t=asserted then out (.tup [.val v,.val (.bool true)])else out (.tup [.any,.val (.bool false)])
   |false=>none
 |_,_=>none
structure Orc where
 ids:List Nat:=[]
 hs:List Ent:=[]
 as:List AV
 r:AV
 hs':List (Option Ent):=[]
 bor:List Nat:=[]
 raw:Option Out:=none
def Orc.ρ(o:Orc)(nb:Nat)(i:Nat):Nat:=if i<o.ids.length then o.ids.getD i 0 else nb+(i-o.ids.length)
def JL(hp:Hp)(bor:List Nat)(c a:AV):Prop:=
 c=a∨(∃ i n sz e,c= .osl i n sz∧i∈bor∧hp i=some e∧e.es.length=n∧e.sz=sz∧a= .sl sz e.es)∨(c= .val (.slice none 0 0)∧ ∃ sz,a= .sl sz [])
def IT(hp:Hp)(bor:List Nat):List AV→List AV→Prop
 | [],[]=>True
 |c::cs,a::as=>JL hp bor c a∧IT hp bor cs as
 |_,_=>False
def IS(hp:Hp)(bor:List Nat)(c a:AV):Prop:=
 JL hp bor c a∨ ∃ cs as,c= .agg cs∧a= .agg as∧IT hp bor cs as
def hpL(hs:List (Option Ent)):Hp:=fun i=>(hs[i]?).join
def HQ(n:Nat):List (Nat×Operand)→Bool
 | []=>true
 |(i,_)::r=>i==n&&HQ (n+1) r
def DC(env:Env):List (Nat×Operand)→Option (List (List AV))
 | []=>some []
 |(_,x)::r=>match In (evA env x),DC env r with
   |some c,some cs=>some (c::cs)
   |_,_=>none
def FF(T:Tab)(t:TypeId)(env:Env)(cells:List AV)(ob:Prop):List (Nat×Operand)→Option (List AV×Prop)
 | []=>some (cells,ob)
 |(f,x)::r=>match A1 T t f,In (evA env x)with
   |some (o,tf),some xs=>FF T t env (splice cells o xs) (ob∧xs.length=tf.size∧o+xs.length≤cells.length) r
   |_,_=>none
def G7(w:World)(β:Gm)(O:Nat→Prop)(p:Option (Option Nat))(e:Ent):Prop:=
 (p=some none∧e.es=[])∨ ∃ b c fr vs rest,p=some (some b)∧w.heap[b]? =some (.cells c e.ty fr)∧(∀ o,o<c.size→fr.1=fr.2∨o<fr.1)∧c.toList=vs++rest∧AI w β O e.sz e.es vs
structure Good(X:Nat→Prop)(w:World)(β:Gm)(hp:Hp):Prop where
 inj: ∀ i j e e' b,hp i=some e→hp j=some e'→β i=some (some b)→β j=some (some b)→i=j
 ent: ∀ i e,hp i=some e→G7 w β (Own X β hp) (β i) e
 xdis: ∀ i e b,hp i=some e→β i=some (some b)→ ¬ X b
 xlt: ∀ b,X b→b<w.heap.size
 laid:L5 w∧ ∀ b,lwB b→b<w.heap.size∧ ¬ Own X β hp b
structure Frm(w0:World)(O0:Nat→Prop)(w:World)(O:Nat→Prop):Prop where
 os:w.os=w0.os
 tape:w.tape=w0.tape
 output:w.output=w0.output
 size:w0.heap.size≤w.heap.size
 same: ∀ b,b<w0.heap.size→ ¬ O0 b→w.heap[b]? =w0.heap[b]?
 own: ∀ b,O b→O0 b∨w0.heap.size≤b
 shape: ∀ b s,w0.shape? b=some s→w.shape? b=some s
theorem Gv(w:World)(O:Nat→Prop):Frm w O w O:=⟨rfl,rfl,rfl,Nat.le_refl _,fun _ _ _=>rfl,fun _ h=> .inl h,fun _ _ h=>h⟩
theorem Frm.trans{w0 w w':World}{O0 O O':Nat→Prop}(h:Frm w0 O0 w O)(k:Frm w O w' O'):Frm w0 O0 w' O':=by
 refine⟨k.os.trans h.os,k.tape.trans h.tape,k.output.trans h.output,Nat.le_trans h.size k.size,?_,?_,fun b s hs=>k.shape b s (h.shape b s hs)⟩
 · intro b hb ho
   have hn: ¬ O b:=fun hO=>(h.own b hO).elim ho (fun hl=>by omega)
   rw[k.same b (Nat.lt_of_lt_of_le hb h.size) hn,h.same b hb ho]
 · intro b hb
   rcases k.own b hb with h1|h1
   · exact h.own b h1
   · exact .inr (Nat.le_trans h.size h1)
theorem Frm.laid{w w':World}{O O':Nat→Prop}(hf:Frm w O w' O')(h:L5 w∧ ∀ b,lwB b→b<w.heap.size∧ ¬ O b):L5 w'∧ ∀ b,lwB b→b<w'.heap.size∧ ¬ O' b:=
 ⟨OJ (fun b hb=>hf.same b (h.2 b hb).1 (h.2 b hb).2) h.1,fun b hb=>⟨Nat.lt_of_lt_of_le (h.2 b hb).1 hf.size,fun ho=>(hf.own b ho).elim (h.2 b hb).2 (fun hl=>absurd (h.2 b hb).1 oM)⟩⟩
def Cp(β β':Gm):Prop:= ∀ i p,β i=some p→β' i=some p
theorem CR(β:Gm):Cp β β:=fun _ _ h=>h
theorem Cp.trans{a b c:Gm}(h:Cp a b)(k:Cp b c):Cp a c:=fun i p hp=>k i p (h i p hp)
theorem Frm.stab{w w':World}{O O':Nat→Prop}{β β':Gm}(h:Frm w O w' O')(g:Cp β β'):Stab w w' β β' O O':=
 ⟨h.size,g,h.shape,fun b hb ho=>⟨.inl (h.same b hb ho),fun h'=>(h.own b h').elim ho (fun hl=>by omega)⟩⟩
def Ad(P:Program)(g:FuncId)(as:List AV)(hs:List (Option Ent))(r:AV)(hs':List (Option Ent)):Prop:=
 (∃ fn,P.funcs[g]? =some fn∧fn.body.isNone=false∧(fn.name== "runtime.NumGoroutine")=false)∧
 ∀ (X:Nat→Prop) (w:World) (β:Gm) (vs:List Value),AJ w β (Own X β (hpL hs)) as vs→Good X w β (hpL hs)→(∀ i,hs.length≤i→β i=none)→
   Calls P g vs.toArray w fun e w'=> ∃ v β',e= .returned v∧Rep w' β' (Own X β' (hpL hs')) r v∧Good X w' β' (hpL hs')∧
     Frm w (Own X β (hpL hs)) w' (Own X β' (hpL hs'))∧(∀ b,X b→w'.heap[b]? =w.heap[b]?)∧Cp β β'∧(∀ i,hs'.length≤i→β' i=none)
def Bd(P:Program)(g:FuncId)(args:List AV)(hp:Hp)(nb:Nat)(o:Orc):Out:=
 {v:=ren (o.ρ nb) o.r,
   hw:=(List.range o.hs'.length).map fun i=>(o.ρ nb i,((o.hs'[i]?).join).map (Cy (o.ρ nb))),
   hr:=o.ids++o.bor,
   ob:=Ad P g o.as (o.hs.map some) o.r o.hs'∧o.ids.Nodup∧o.ids.length=o.hs.length∧(∀ i,i<o.ids.length→hp (o.ids.getD i 0)=(o.hs[i]?).map (Cy (o.ρ nb)))∧
     o.hs.length≤o.hs'.length∧o.hs'.length≤o.hs.length+8∧args.length=o.as.length∧(∀ (j:Nat) (c a:AV),args[j]? =some c→o.as[j]? =some a→IS hp o.bor c (ren (o.ρ nb) a))∧
     (o.bor≠[]→ER o.r=true∧(∀ e,some e∈o.hs'→EC e.es=true))∧(∀ i∈o.bor,i∉o.ids∧ ∀ e,hp i=some e→AB 0 e.es=true)∧
     AF o.ids.length o.as=true∧(∀ e∈o.hs,AB o.ids.length e.es=true)}
def BP(hp:Hp):List (Nat×Option Ent)→Hp
 | []=>hp
 |(i,e)::r=>BP (fun j=>if j=i then e else hp j) r
structure Post(X:Nat→Prop)(w:World)(β:Gm)(hp:Hp)(nb:Nat)(r:Out)(v:Value)(w':World)(β':Gm):Prop where
 rep:Rep w' β' (Own X β' (BP hp r.hw)) r.v v
 good:Good X w' β' (BP hp r.hw)
 frm:Frm w (Own X β hp) w' (Own X β' (BP hp r.hw))
 ext:Cp β β'
 keepX: ∀ b,X b→w'.heap[b]? =w.heap[b]?
 new: ∀ i,β' i≠none→β i≠none∨(nb≤i∧i<nb+8)
def EM(P:Program)(nb:Nat)(env:Env)(hp:Hp)(op:Op)(r:Out):Prop:=
 ∀ (env':Env) (hp':Hp),(∀ x∈op.operands,evA env x=evA env' x)→(∀ i∈r.hr,hp i=hp' i)→
   ∀ (X:Nat→Prop) (w:World) (β:Gm) (a:Act) (o:Oper),o.op=op→Good X w β hp'→(∀ j,nb≤j→j<nb+8→β j=none)→(∀ t,Rep w β (Own X β hp') (env' t) (a.tmps.getD t undef))→
     ∃ v w' β',(execOp a.eval o).run P w= .ok (.value v) w'∧Post X w β hp' nb r v w' β'
def Bj(P:Program)(T:Tab)(orc:Option Orc)(nb:Nat)(env:Env)(hp:Hp)(op:Op):Option Out:=
 match op with
 | .move x=>out (evA env x)
 | .assign x=>out (evA env x)
 | .pick c a b=>match evA env c with
   | .val (.bool t)=>out (if t then evA env a else evA env b)
   |_=>none
 | .binOp op xt x y _=>VT P T op xt (evA env x) (evA env y)
 | .unOp op _ x=>aUn op (evA env x)
 | .convert s d x=>KV T hp nb s d (evA env x)
 | .extract x i=>match evA env x with
   | .tup cs=>match cs[i]? with
     |some c=>out c
     |none=>none
   |_=>none
 | .field t x f=>N2 T t (evA env x) f
 | .fieldAddr t x f=>IM T t (evA env x) f
 | .indexAddr t x i=>IU T t (evA env x) (evA env i)
 | .index t x i=>N9 T t (evA env x) (evA env i)
 | .load t a=>Ic T hp t (evA env a)
 | .store t a x=>Jn T hp t (evA env a) (evA env x)
 | .slice t x lo hi none=>LX T t (evA env x) env lo hi
 | .box el x=>match In (evA env x)with
   |some cs=>some {v:= .ptr nb cs.length 0 0,hw:=[(nb,some ⟨el,cs.length,[cs]⟩)]}
   |none=>none
 | .alloc el=>match T el with
   |some ti=>some {v:= .ptr nb ti.zero.length 0 0,hw:=[(nb,some ⟨el,ti.zero.length,[ti.zero.map .val]⟩)]}
   |none=>none
 | .build t parts=>match T t with
   |some ti=>match FF T t env (ti.zero.map .val) True parts.toList with
     |some (cs,p)=>out (.agg cs) (p∧CT ti.desc=true)
     |none=>none
   |none=>none
 | .buildSlice t len parts=>match elemOf T t,DC env parts.toList with
   |some (e,te),some es=>some {v:= .osl nb len te.size,hw:=[(nb,some ⟨e,te.size,es⟩)],ob:=HQ 0 parts.toList=true∧es.length=len∧(∀ c∈es,c.length=te.size)∧len*te.size≤2^24}
   |_,_=>none
 | .makeSlice t l c=>match elemOf T t,evA env l,evA env c with
   |some (e,te),.val (.int .i64 n),.val (.int .i64 m)=>some {v:= .osl nb n.toNat te.size,hw:=[(nb,some ⟨e,te.size,List.replicate n.toNat (te.zero.map .val)⟩)],ob:=n=m∧0≤n∧te.bytes*n≤2^47∧n<2^63∧0<te.size}
   |_,_,_=>none
 | .makeInterface t x=>NS T t (evA env x)
 | .makeFunc f fi ca=>match f with
   | .func g=>out (.fn g fi.size ((fi.toList++ca.toList).map (evA env)))
   |_=>none
 | .typeAssert x _ t true=>Ps T (evA env x) t
 | .nilCheck x=>match evA env x with
   | .ptr i sz k off=>out (.ptr i sz k off)
   | .rp cs=>out (.rp cs)
   |_=>none
 | .call c=>match c.callee with
   | .builtin .len=>match c.args.toList,c.argTypes.toList with
     | [x],[t]=>match Bl T t,SR (evA env x)with
       |some (.slice _),some r=>match evA env x with
         | .val (.string _)=>none
         |_=>some r
       |some .string,some r=>match evA env x with
         | .val (.string _)=>some r
         |_=>none
       |_,_=>none
     |_,_=>none
   | .builtin .min=>match c.args.toList with
     | [x,y]=>match Wr (evA env x) (evA env y)with
       |some a=>out a
       |none=>none
     |_=>none
   | .builtin .max=>match c.args.toList with
     | [x,y]=>match Wl (evA env x) (evA env y)with
       |some a=>out a
       |none=>none
     |_=>none
   | .builtin .append=>match c.args.toList,c.argTypes.toList with
     | [x,y],[t,u]=>match Bl T u with
       |some (.slice _)=>Hn T hp nb t (evA env x) (evA env y)
       |some .string=>Hn T hp nb t (evA env x) (evA env y)
       |_=>none
     |_,_=>none
   | .value f=>match evA env f with
     | .val (.func (.func g) fr bd)=>match fr.toList,bd.toList with
       | [],[]=>match orc with
         |some o=>some (Bd P g (c.args.toList.map (evA env)) hp nb o)
         |none=>none
       |_,_=>none
     | .fn g k cs=>match orc with
       |some o=>some (Bd P g (cs.take k++(c.args.toList.map (evA env)++cs.drop k)) hp nb o)
       |none=>none
     |_=>none
   |_=>none
 |_=>none
def FH:Option Orc→Option Out
 |some o=>o.raw
 |none=>none
def CG(P:Program)(T:Tab)(orc:Option Orc)(nb:Nat)(env:Env)(hp:Hp)(op:Op):Option Out:=
 match FH orc with
 |some r=>some {r with ob:=r.ob∧EM P nb env hp op r}
 |none=>Bj P T orc nb env hp op
section run
variable {P : Program} {w : World}
theorem run_bind{α β:Type}(m:Sem α)(f:α→Sem β): ∀ w,(m >>= f).run P w=match m.run P w with
   | .ok a w'=>(f a).run P w'
   | .halt h w'=> .halt h w':=by
 show ∀ w,(Sem.bind m f).run P w=_
 induction m with
 |pure a=>intro w;rfl
 |load md a k ih=>
   intro w
   simp only[Sem.bind,Sem.run]
   cases w.cell? a with
   |some v=>exact ih v w
   |none=>
     simp only[]
     cases w.farLoad P a (md== .atomic)with
     |ok r=>exact ih r.1 w
     |error h=>rfl
 |store md a v k ih=>
   intro w
   cases v<;>simp only[Sem.bind,Sem.run]
   all_goals
     cases w.cell? a with
     |some u=>
       simp only[]
       split
       · rfl
       · exact ih _
     |none=>
       simp only[]
       cases w.farStore P a _ (md== .atomic)with
       |ok r=>exact ih _
       |error h=>rfl
 |new o k ih=>intro w;simp only[Sem.bind,Sem.run];exact ih _ _
 |shape r k ih=>intro w;simp only[Sem.bind,Sem.run];exact ih _ _
 |freeze a n k ih=>intro w;simp only[Sem.bind,Sem.run];exact ih _
 |frozen a k ih=>intro w;simp only[Sem.bind,Sem.run];exact ih _ _
 |getObj r k ih=>
   intro w
   simp only[Sem.bind,Sem.run]
   cases w.heap[r]? with
   |none=>rfl
   |some o=>cases o<;>first|rfl|exact ih _ _
 |setObj r o k ih=>
   intro w
   simp only[Sem.bind,Sem.run]
   cases w.heap[r]? with
   |none=>rfl
   |some o=>cases o<;>first|rfl|exact ih _
 |choose q k ih=>
   intro w
   simp only[Sem.bind,Sem.run]
   split
   · exact ih _ _
   · exact ih _ _
 |sys c k ih=>intro w;simp only[Sem.bind,Sem.run];exact ih _ _
 |program k ih=>intro w;simp only[Sem.bind,Sem.run];exact ih _ _
 |mark m k ih=>intro w;simp only[Sem.bind,Sem.run];exact ih _
 |halt h=>intro w;rfl
theorem run_pure{α:Type}(a:α):(pure a:Sem α).run P w= .ok a w:=rfl
theorem Fe:(program).run P w= .ok P w:=rfl
theorem At{t:TypeId}{d:TypeDesc}(h:P.underlying t=some d):(underlying t).run P w= .ok d w:=by
 simp[underlying,run_bind,Fe,h,run_pure]
theorem I9{t:TypeId}{i:TypeInfo}(h:P.info? t=some i):(typeInfo t).run P w= .ok i w:=by
 simp[typeInfo,run_bind,Fe,h,run_pure]
theorem Cc{t:TypeId}{i:TypeInfo}(h:P.info? t=some i):(sizeOf t).run P w= .ok i.size w:=by
 simp[Go.sizeOf,run_bind,I9 h,run_pure]
theorem Gq{t:TypeId}{i:TypeInfo}{z:Value}(h:P.info? t=some i)(hz:i.zero=some z):(zeroValue t).run P w= .ok z w:=by
 simp[zeroValue,run_bind,I9 h,hz,run_pure]
theorem Kb{t:TypeId}{d:TypeDesc}(h:P.underlying t=some d):(isAgg t).run P w= .ok (Dw d) w:=by
 simp only[isAgg,run_bind,At h]
 cases d<;>rfl
end run
theorem Dh{X:Nat→Prop}{w:World}{β:Gm}{hp:Hp}{nb:Nat}{r:Out}{v:Value}(hg:Good X w β hp)(hw:r.hw=[])(hr:Rep w β (Own X β hp) r.v v):Post X w β hp nb r v w β:=
 ⟨by rw[hw];exact hr,by rw[hw];exact hg,by rw[hw];exact Gv _ _,CR _,fun _ _=>rfl,fun i h=> .inl h⟩
theorem Gg{w:World}{β:Gm}{O:Nat→Prop}: ∀ (l:List Value),AJ w β O (l.map .val) l
 | []=>by simp[AJ]
 |v::l=>by simp only[List.map_cons,AJ];exact⟨v,l,rfl,by simp[Rep],Gg l⟩
def DH(w:World)(β:Gm)(O:Nat→Prop)(env:Env)(tmps:Array Value):Prop:= ∀ t,Rep w β O (env t) (tmps.getD t undef)
theorem DB{w:World}{β:Gm}{O:Nat→Prop}{env:Env}{a:Act}(h:DH w β O env a.tmps)(x:Operand):Rep w β O (evA env x) (a.eval x):=by
 cases x with
 |tmp t=>exact h t
 |const v=>cases v<;>simp[evA,Act.eval,Rep];exact⟨_,rfl,Gg _⟩
 |global g=>simp[evA,Rep]
 |func f=>simp[evA,Act.eval,Rep]
section pure
variable {X : Nat → Prop} {P : Program} {T : Tab} {w : World} {β : Gm} {hp : Hp} {nb : Nat} {O : Nat → Prop}
theorem SS(s:ByteArray):s.toList=bl s:=ByteArray.toList_eq s
theorem Rp(a b:ByteArray):a++b=⟨(bl a++bl b).toArray⟩:=by
 apply ByteArray.ext;simp[bl]
theorem tab{t:TypeId}{ti:TI}(hT:B4 P T)(h:T t=some ti): ∃ i z,P.info? t=some i∧i.size=ti.size∧i.bytes=ti.bytes∧i.zero=some z∧z.cells.toList=ti.zero∧P.underlying t=some ti.desc∧ti.zero.length=ti.size:=by
 obtain⟨i,z,h1,h2,h3,h4,h5,h6,h7,_⟩:=hT t ti h
 exact⟨i,z,h1,h2,h3,h4,h5,h6,h7⟩
theorem Bq{t:TypeId}{d:TypeDesc}(hT:B4 P T)(h:Bl T t=some d):P.underlying t=some d:=by
 unfold Bl at h
 split at h
 · rename_i ti hti
   obtain⟨i,z,_,_,_,_,_,h6,_,_⟩:=hT t ti hti
   rw[h6,← h]
 · simp at h
theorem Pw{t:TypeId}{a b:Bool}(hu:P.underlying t=some .bool):(Op.equal t (.bool a) (.bool b)).run P w= .ok (a==b) w:=by
 show(Op.equalIn (9999+1) t _ _).run P w=_
 rw[Op.equalIn,run_bind,At hu];rfl
theorem Lc: ∀ {xs:List AV} {us vs:List Value},Ex xs=some us→AJ w β O xs vs→vs=us
 | [],us,vs,h,hr=>by simp only[AJ]at hr;simp[Ex]at h;rw[hr,h]
 | .val v::r,us,vs,h,hr=>by
   simp only[AJ,Rep]at hr
   obtain⟨u,s,rfl,rfl,h3⟩:=hr
   simp only[Ex]at h
   split at h
   · rename_i l hl
     rw[Lc hl h3];simpa using h
   · simp at h
 | .any::_,_,_,h,_=>by simp[Ex]at h
 | .agg _::_,_,_,h,_=>by simp[Ex]at h
 | .tup _::_,_,_,h,_=>by simp[Ex]at h
 | .fn _ _ _::_,_,_,h,_=>by simp[Ex]at h
 | .osv _ _ _ _::_,_,_,h,_=>by simp[Ex]at h
 | .sl _ _::_,_,_,h,_=>by simp[Ex]at h
 | .rp _::_,_,_,h,_=>by simp[Ex]at h
 | .osl _ _ _::_,_,_,h,_=>by simp[Ex]at h
 | .ptr _ _ _ _::_,_,_,h,_=>by simp[Ex]at h
theorem WN(hT:B4 P T){op:BinOp}{xt:TypeId}{x y:AV}{u v:Value}{r:Out}{X Y:Operand}(h:VT P T op xt x y=some r)(hob:r.ob)
   (hx:Rep w β O x u) (hy:Rep w β O y v): ∃ z,(do eqGuard op xt X Y u v;binOp op xt u v:Sem Value).run P w= .ok z w∧Rep w β O r.v z∧r.hw=[]:=by
 unfold VT at h
 split at h
 · rename_i k a k' b
   simp only[Rep]at hx hy
   subst hx hy
   simp only[out,Option.some.injEq]at h
   subst h
   refine⟨(Ra op k k' a b).1,?_,by simp[Rep],rfl⟩
   simp only at hob
   cases op<;>simp only[Ra]at hob ⊢ <;>(try(first|(obtain⟨rfl,h0⟩:=hob)|subst hob))<;>
     simp_all [eqGuard,binOp,run_bind,run_pure,Op.intArith,Op.intDiv,Op.intBits,Op.shift,Op.intCmp,AP,Int.not_lt]
   all_goals(intro h1;omega)
 · rename_i a b
   simp only[Rep]at hx hy
   subst hx hy
   split at h
   · rename_i z p hz
     simp only[out,Option.some.injEq]at h
     subst h
     refine⟨z,?_,by simp[Rep],rfl⟩
     simp only at hob
     have hsz: ∀ s:ByteArray,s.size=(bl s).length:=fun s=>by simp[bl]
     cases op<;>simp only[Aax,Option.some.injEq,Prod.mk.injEq,reduceCtorEq]at hz<;>(try(obtain⟨rfl,rfl⟩:=hz))<;>
       simp only[eqGuard,binOp,run_bind,run_pure,Op.stringOp,SS,Rp,hsz]
     all_goals(try(simp[run_pure,run_bind];done))
     have hm:IntKind.i64.max=2^63-1:=by decide
     have hn: ¬ ((((bl a).length+(bl b).length:Nat):Int)>IntKind.i64.max):=by rw[hm];omega
     simp only[hn,if_false,run_pure,Bool.not_false,if_true,Bool.false_eq_true]
   · simp at h
 · rename_i a b
   simp only[Rep]at hx hy
   subst hx hy
   split at h
   · rename_i hd
     have hu:=Bq hT hd
     cases op<;>simp only[out,Option.some.injEq,reduceCtorEq]at h<;>subst h<;>
       exact⟨_,by simp only[eqGuard,binOp,run_bind,run_pure,Pw hu];rfl,by simp[Rep],rfl⟩
   · simp at h
 · rename_i xs ys
   simp only[Rep]at hx hy
   obtain⟨us',rfl,hx⟩:=hx
   obtain⟨vs',rfl,hy⟩:=hy
   split at h
   · rename_i us vs hu hv
     have e1:=Lc hu hx
     have e2:=Lc hv hy
     subst e1 e2
     cases op<;>simp only[out,Option.some.injEq,reduceCtorEq]at h<;>subst h<;>
       exact⟨_,by simp only[eqGuard,binOp,Bool.not_true,Bool.false_eq_true,if_false,run_bind,Fe,hob.1,Bool.not_false,if_true,run_pure,hob.2 w];rfl,by simp[Rep],rfl⟩
   · simp at h
 · simp at h
theorem AaD{op:UnOp}{x:AV}{u:Value}{r:Out}(h:aUn op x=some r)(hx:Rep w β O x u):
   ∃ z,(Op.unary op u).run P w= .ok z w∧Rep w β O r.v z∧r.hw=[]:=by
 unfold aUn at h
 split at h
 · rename_i b
   simp only[Rep]at hx
   subst hx
   cases op<;>simp only[out,Option.some.injEq,reduceCtorEq]at h<;>subst h<;>exact⟨_,by simp[Op.unary,run_pure];rfl,by simp[Rep],rfl⟩
 · rename_i k n
   simp only[Rep]at hx
   subst hx
   cases op<;>simp only[out,Option.some.injEq,reduceCtorEq]at h<;>subst h<;>
     exact⟨_,by simp only[Op.unary,run_pure,Op.intArith,Op.intBits,AP];rfl,by first|(simp only[Rep];done)|(simp only[Rep];rfl),rfl⟩
 · simp at h
theorem Eh(b off i:Nat):(⟨b,off,none⟩:Addr).add i=⟨b,off+i,none⟩:=by
 unfold Addr.add;split
 · rename_i h;subst h;rfl
 · rfl
theorem Ss{b off:Nat}{v:Value}(h:w.cell? ⟨b,off,none⟩=some v):(load ⟨b,off,none⟩).run P w= .ok v w:=by
 simp[load,Sem.run,h]
theorem Mc{b off:Nat}: ∀ (vs:List Value) (i:Nat) (acc:Array Value),(∀ (j:Nat) v,vs[j]? =some v→w.cell? ⟨b,off+(i+j),none⟩=some v)→
   (loadCellsFrom ⟨b,off,none⟩ i vs.length acc).run P w= .ok (acc++vs.toArray) w
 | [],i,acc,h=>by simp[loadCellsFrom,run_pure]
 |v::vs,i,acc,h=>by
   have h0:w.cell? ⟨b,off+i,none⟩=some v:=by simpa using h 0 v rfl
   simp only[List.length_cons,loadCellsFrom,run_bind,Eh,Ss h0]
   rw[Mc vs (i+1) (acc.push v) (fun j u hu=>by
     have:=h (j+1) u (by simpa using hu)
     rw[show i+1+j=i+(j+1)from by omega];exact this)]
   simp
theorem DU{b off:Nat}{vs:List Value}{n:Nat}(h:Cl w b off vs)(hn:n=vs.length):(loadCells ⟨b,off,none⟩ n).run P w= .ok vs.toArray w:=by
 subst hn
 rw[loadCells,Mc vs 0 #[] (fun j v hv=>by simpa using h j v hv)];simp
theorem K3(s:ByteArray):s.size=(bl s).length:=by simp[bl]
theorem Xa(s:ByteArray)(i:Nat):s[i]? =(bl s)[i]? :=by
 simp only[bl,Array.getElem?_toList]
 by_cases h:i<s.size
 · rw[getElem?_pos s i h,getElem?_pos s.data i (by simpa using h)];rfl
 · rw[getElem?_neg s i h,getElem?_neg s.data i (by simpa using h)]
theorem TD(hT:B4 P T){t:TypeId}{x i:AV}{u v:Value}{r:Out}(h:N9 T t x i=some r)(hob:r.ob)
   (hx:Rep w β O x u) (hi:Rep w β O i v): ∃ z,(Instr.index t u v).run P w= .ok z w∧Rep w β O r.v z∧r.hw=[]:=by
 unfold N9 at h
 split at h
 · rename_i s k n hd
   simp only[Rep]at hx hi
   subst hx hi
   split at h
   · rename_i b hb
     simp only[out,Option.some.injEq]at h
     subst h
     refine⟨.int .u8 b.toNat,?_,by simp only[Rep],rfl⟩
     simp only at hob
     simp only[Instr.index,run_bind,asIntOf,run_pure,At (Bq hT hd),hob,if_true,Xa,hb]
   · simp at h
 · simp at h
theorem Qj(hT:B4 P T){x:AV}{u:Value}{r:Out}(h:SR x=some r)(hx:Rep w β O x u){t ty:TypeId}
   (hd:(∃ e,Bl T t=some (.slice e))∧(∀ s,x≠ .val (.string s))∨Bl T t=some .string∧ ∃ s,x= .val (.string s)): ∃ z,(Builtin.len_ #[t] ty #[u]).run P w= .ok z w∧Rep w β O r.v z∧r.hw=[]:=by
 rcases hd with ⟨⟨e,hd⟩,hn⟩|⟨hd,s,rfl⟩
 · have hu:=Bq hT hd
   unfold SR at h
   split at h
   · rename_i sz es
     simp only[out,Option.some.injEq]at h
     subst h
     simp only[Rep]at hx
     rcases hx with ⟨rfl,rfl⟩|⟨b,off,cap,vs,rfl,_⟩
     · exact⟨goInt 0,by simp[Builtin.len_,run_bind,At hu,run_pure],by simp[Rep,goInt],rfl⟩
     · exact⟨goInt es.length,by simp[Builtin.len_,run_bind,At hu,run_pure],by simp[Rep,goInt],rfl⟩
   · rename_i i n sz
     simp only[out,Option.some.injEq]at h
     subst h
     simp only[Rep]at hx
     rcases hx with ⟨_,rfl,rfl⟩|⟨b,cap,T,m,_,rfl,_⟩
     · exact⟨goInt 0,by simp[Builtin.len_,run_bind,At hu,run_pure],by simp[Rep,goInt],rfl⟩
     · exact⟨goInt n,by simp[Builtin.len_,run_bind,At hu,run_pure],by simp[Rep,goInt],rfl⟩
   · rename_i i lo n sz
     simp only[out,Option.some.injEq]at h
     subst h
     simp only[Rep]at hx
     rcases hx with ⟨_,rfl,rfl⟩|⟨b,off,cap,T,m,_,rfl,_⟩
     · exact⟨goInt 0,by simp[Builtin.len_,run_bind,At hu,run_pure],by simp[Rep,goInt],rfl⟩
     · exact⟨goInt n,by simp[Builtin.len_,run_bind,At hu,run_pure],by simp[Rep,goInt],rfl⟩
   · rename_i s
     exact absurd rfl (hn s)
   · simp only[out,Option.some.injEq]at h
     subst h
     simp only[Rep]at hx
     subst hx
     exact⟨goInt 0,by simp[Builtin.len_,run_bind,At hu,run_pure],by simp[Rep,goInt],rfl⟩
   · simp at h
 · have hu:=Bq hT hd
   simp only[SR,out,Option.some.injEq]at h
   subst h
   simp only[Rep]at hx
   subst hx
   exact⟨goInt s.size,by simp[Builtin.len_,run_bind,At hu,run_pure],by simp[Rep,goInt,K3],rfl⟩
theorem KZ(hT:B4 P T){ft:TypeId}{tf:TI}(hf:T ft=some tf){cs:List AV}{p:Prop}{hr:List Nat}{r:Out}(h:JU tf cs p hr=some r)(hob:r.ob)
   {vs:List Value} (hv:AJ w β O cs vs):p∧r.hw=[]∧ ∃ z,Rep w β O r.v z∧
     (tf.isAgg=true→z= .agg (vs.take tf.size).toArray∧tf.size≤vs.length)∧(tf.isAgg=false→ ∃ rest,vs=z::rest):=by
 unfold JU at h
 split at h
 · rename_i ha
   simp only[Option.some.injEq]at h
   subst h
   simp only at hob
   have hl:=hv.length
   have hsp:cs=cs.take tf.size++cs.drop tf.size:=(List.take_append_drop _ _).symm
   rw[hsp]at hv
   obtain⟨v1,v2,rfl,h1,h2⟩:=hv.split
   have hl1:v1.length=tf.size:=by rw[← h1.length];simp;omega
   refine⟨hob.1,rfl,.agg v1.toArray,by simp only[Rep];exact⟨v1,rfl,h1⟩,fun _=>⟨by rw[← hl1];simp,sO⟩,fun hn=>by simp[ha]at hn⟩
 · rename_i ha
   split at h
   · rename_i c rest
     simp only[Option.some.injEq]at h
     subst h
     simp only[AJ]at hv
     obtain⟨v,r',rfl,h1,h2⟩:=hv
     exact⟨hob,rfl,v,h1,fun hn=>absurd hn ha,fun _=>⟨r',rfl⟩⟩
   · simp at h
theorem HB(hT:B4 P T){t:TypeId}{f o:Nat}{tf:TI}(h:A1 T t f=some (o,tf)):
   ∃ fs fd,P.underlying t=some (.struct fs)∧fs[f]? =some fd∧fd.offset=o∧T fd.type=some tf:=by
 unfold A1 at h
 split at h
 · rename_i fs hd
   split at h
   · rename_i fd hfd
     split at h
     · rename_i tf' htf
       simp only[Option.some.injEq,Prod.mk.injEq]at h
       obtain⟨rfl,rfl⟩:=h
       exact⟨fs,fd,Bq hT hd,hfd,rfl,htf⟩
     · simp at h
   · simp at h
 · simp at h
theorem F5(hT:B4 P T){t e:TypeId}{te:TI}(h:elemOf T t=some (e,te)):P.underlying t=some (.slice e)∧T e=some te:=by
 unfold elemOf at h
 split at h
 · rename_i e' hd
   split at h
   · rename_i te' hte
     simp only[Option.some.injEq,Prod.mk.injEq]at h
     obtain⟨rfl,rfl⟩:=h
     exact⟨Bq hT hd,hte⟩
   · simp at h
 · simp at h
theorem Nt{ft:TypeId}{d:TypeDesc}{i:TypeInfo}(hu:P.underlying ft=some d)(hi:P.info? ft=some i){xs:Array Value}{off:Nat}:
   (part ft xs off).run P w=if Dw d then .ok (.agg (xs.extract off (off+i.size))) w
     else match xs[off]? with
       |some v=> .ok v w
       |none=>(part ft xs off).run P w:=by
 by_cases ha:Dw d=true
 · rw[if_pos ha]
   unfold part
   simp only[run_bind,Kb hu]
   cases d<;>simp only[Dw,run_bind,Cc hi,run_pure,if_true,if_false,Bool.false_eq_true]at ha ⊢
 · rw[if_neg ha]
   cases hx:xs[off]? with
   |none=>rfl
   |some v=>
     unfold part
     simp only[run_bind,Kb hu]
     cases d<;>simp only[Dw,run_bind,Cc hi,run_pure,if_true,if_false,Bool.false_eq_true,hx,not_true_eq_false]at ha ⊢
theorem AJ.take: ∀ {cs:List AV} {vs:List Value},AJ w β O cs vs→ ∀ o:Nat,AJ w β O (cs.take o) (vs.take o)
 | [],vs,h,o=>by simp only[AJ]at h;subst h;simp[AJ]
 |c::cs,vs,h,0=>by simp[AJ]
 |c::cs,vs,h,o+1=>by
   simp only[AJ]at h
   obtain⟨u,r,rfl,h1,h2⟩:=h
   simp only[List.take_succ_cons,AJ]
   exact⟨u,_,rfl,h1,h2.take o⟩
theorem AJ.drop{cs:List AV}{vs:List Value}(h:AJ w β O cs vs)(o:Nat):AJ w β O (cs.drop o) (vs.drop o):=by
 rw[← List.take_append_drop o cs]at h
 obtain⟨v1,v2,rfl,h1,h2⟩:=h.split
 by_cases ho:o≤cs.length
 · have hl:v1.length=o:=by rw[← h1.length];simp;omega
   rw[← hl]at h2 ⊢
   simpa using h2
 · have e1:cs.drop o=[]:=List.drop_eq_nil_of_le oM
   have hl:=h1.length
   rw[e1]at h2 ⊢
   simp only[AJ]at h2 ⊢
   subst h2
   simp at hl ⊢
   omega
theorem TC(hT:B4 P T){t:TypeId}{f:Nat}{x:AV}{u:Value}{r:Out}(h:N2 T t x f=some r)(hob:r.ob)
   (hx:Rep w β O x u): ∃ z,(Instr.field t u f).run P w= .ok z w∧Rep w β O r.v z∧r.hw=[]:=by
 unfold N2 at h
 split at h
 · rename_i o tf cs hf
   obtain⟨fs,fd,hu,hfd,ho,htf⟩:=HB hT hf
   obtain⟨i,z0,hi,hsz,_,_,_,hud,_⟩:=tab hT htf
   simp only[Rep]at hx
   obtain⟨vs,rfl,hl⟩:=hx
   obtain⟨_,hw,z,hz,h1,h2⟩:=KZ hT htf h hob (hl.drop o)
   refine⟨z,?_,hz,hw⟩
   simp only[Instr.field,run_bind,At hu,hfd,asAgg,run_pure,ho]
   rw[Nt hud hi]
   by_cases ha:tf.isAgg=true
   · obtain⟨rfl,hle⟩:=h1 ha
     have e:Dw tf.desc=true:=ha
     rw[if_pos e,hsz]
     simp at hle
     congr 2
     apply Array.ext'
     simp[List.take_drop,Nat.add_comm]
   · obtain⟨rest,hr⟩:=h2 (by simpa using ha)
     have e: ¬ Dw tf.desc=true:=ha
     rw[if_neg e]
     have:vs[o]? =some z:=by
       have:(vs.drop o)[0]? =some z:=by rw[hr];rfl
       simpa using this
     simp[this]
 · simp at h
theorem Cl.drop{b off:Nat}{vs:List Value}(h:Cl w b off vs)(o:Nat):Cl w b (off+o) (vs.drop o):=by
 intro j v hv
 have:=h (o+j) v (by simpa using hv)
 rw[Nat.add_assoc];exact this
theorem Ky{a:Addr}{fd:Field}{i:TypeInfo}(hi:P.info? fd.type=some i)(hn:i.size≠0):(fieldPlace a fd).run P w= .ok (a.add fd.offset) w:=by
 simp[fieldPlace,run_bind,Cc hi,hn,run_pure]
theorem OY(hT:B4 P T){t:TypeId}{f:Nat}{x:AV}{u:Value}{r:Out}(h:IM T t x f=some r)(hob:r.ob)
   (hx:Rep w β O x u): ∃ z,(Instr.fieldAt t u f).run P w= .ok z w∧Rep w β O r.v z∧r.hw=[]:=by
 unfold IM at h
 split at h
 · rename_i o tf i sz k off hf
   obtain⟨fs,fd,hu,hfd,rfl,htf⟩:=HB hT hf
   obtain⟨ti,z0,hi,hsz,_,_,_,hud,_⟩:=tab hT htf
   simp only[Rep]at hx
   obtain⟨b,hb,rfl⟩:=hx
   simp only[out,Option.some.injEq]at h
   subst h
   refine⟨.pointer (some ⟨b,k*sz+(off+fd.offset),none⟩),?_,by simp only[Rep];exact⟨b,hb,rfl⟩,rfl⟩
   simp only[Instr.fieldAt,run_bind,At hu,hfd,Instr.sureAddr,run_pure,Ky hi (by rw[hsz];exact hob),Eh,Nat.add_assoc]
 · rename_i o tf cs hf
   obtain⟨fs,fd,hu,hfd,rfl,htf⟩:=HB hT hf
   obtain⟨ti,z0,hi,hsz,_,_,_,hud,_⟩:=tab hT htf
   simp only[Rep]at hx
   obtain⟨b,off,vs,rfl,h1,h2,h3,h4⟩:=hx
   simp only[out,Option.some.injEq]at h
   subst h
   refine⟨.pointer (some ⟨b,off+fd.offset,none⟩),?_,by simp only[Rep];exact⟨b,_,_,rfl,h1,h2,h3.drop _,h4.drop _⟩,rfl⟩
   simp only[Instr.fieldAt,run_bind,At hu,hfd,Instr.sureAddr,run_pure,Ky hi (by rw[hsz];exact hob),Eh,Nat.add_assoc]
 · simp at h
theorem Cl.mid{b off:Nat}{v1 u v2:List Value}(h:Cl w b off (v1++u++v2)):Cl w b (off+v1.length) u:=by
 intro j v hv
 have:=h (v1.length+j) v (by
   rw[List.append_assoc,List.getElem?_append_right oM]
   simp
   rw[List.getElem?_append_left]
   · exact hv
   · rcases Nat.lt_or_ge j u.length with h|h
     · exact h
     · rw[List.getElem?_eq_none h]at hv;cases hv)
 rw[Nat.add_assoc];exact this
theorem Ok(hT:B4 P T){t:TypeId}{x i:AV}{u v:Value}{r:Out}(h:IU T t x i=some r)(hob:r.ob)
   (hx:Rep w β O x u) (hi:Rep w β O i v): ∃ z,(Instr.indexAt t u v).run P w= .ok z w∧Rep w β O r.v z∧r.hw=[]:=by
 unfold IU at h
 split at h
 · rename_i e te sz es k n he
   obtain⟨hu,hte⟩:=F5 hT he
   obtain⟨ti,z0,hti,hsz,_,_,_,hud,_⟩:=tab hT hte
   simp only[Rep]at hi
   subst hi
   split at h
   · rename_i c hc
     simp only[out,Option.some.injEq]at h
     subst h
     simp only at hob
     obtain⟨h0,hs⟩:=hob
     simp only[Rep]at hx
     have hlt:n.toNat<es.length:=by
       rcases Nat.lt_or_ge n.toNat es.length with h|h
       · exact h
       · simp[List.getElem?_eq_none h]at hc
     rcases hx with ⟨rfl,rfl⟩|⟨b,off,cap,vs,rfl,h1,h2,h3,h4,h5⟩
     · simp at hlt
     · obtain⟨v1,cu,v2,rfl,hv1,hcu,_,_⟩:=h5.at _ c hc
       refine⟨.pointer (some ⟨b,off+n.toNat*ti.size,none⟩),?_,?_,rfl⟩
       · simp only[Instr.indexAt,run_bind,asIntOf,run_pure,At hu]
         have hin:0≤n∧n<(es.length:Int):=⟨h0,oM⟩
         simp only[hin,and_self,if_true,run_bind,Cc hti,run_pure,Eh]
       · simp only[Rep]
         refine⟨b,_,cu,rfl,h2,h3,?_,hcu⟩
         have:=h4.mid
         rw[hv1,hs,← hsz]at this
         exact this
   · simp at h
 · rename_i e te j m sz k n he
   obtain⟨hu,hte⟩:=F5 hT he
   obtain⟨ti,z0,hti,hsz,_,_,_,hud,_⟩:=tab hT hte
   simp only[Rep]at hi hx
   subst hi
   simp only[out,Option.some.injEq]at h
   subst h
   simp only at hob
   obtain⟨h0,h1,hs⟩:=hob
   rcases hx with ⟨_,rfl,rfl⟩|⟨b,cap,T',m',hb,rfl,h2,h3,h4⟩
   · omega
   · refine⟨.pointer (some ⟨b,n.toNat*sz+0,none⟩),?_,by simp only[Rep];exact⟨b,hb,rfl⟩,rfl⟩
     simp only[Instr.indexAt,run_bind,asIntOf,run_pure,At hu]
     have hin:0≤n∧n<(m:Int):=⟨h0,h1⟩
     simp only[hin,and_self,if_true,run_bind,Cc hti,run_pure,Eh,hs,hsz]
     simp
 · rename_i e te j lo m sz k n he
   obtain⟨hu,hte⟩:=F5 hT he
   obtain⟨ti,z0,hti,hsz,_,_,_,hud,_⟩:=tab hT hte
   simp only[Rep]at hi hx
   subst hi
   simp only[out,Option.some.injEq]at h
   subst h
   simp only at hob
   obtain⟨h0,h1,hs⟩:=hob
   rcases hx with ⟨_,rfl,rfl⟩|⟨b,off,cap,T',m',hb,rfl,h2,h5,h3,h4⟩
   · omega
   · have ho:off=lo*sz:=by
       rcases h5 with h|⟨h,_⟩
       · exact h
       · omega
     refine⟨.pointer (some ⟨b,(lo+n.toNat)*sz+0,none⟩),?_,by simp only[Rep];exact⟨b,hb,rfl⟩,rfl⟩
     simp only[Instr.indexAt,run_bind,asIntOf,run_pure,At hu]
     have hin:0≤n∧n<(m:Int):=⟨h0,h1⟩
     simp only[hin,and_self,if_true,run_bind,Cc hti,run_pure,Eh,hs,hsz]
     simp[ho,hs,Nat.add_mul]
 · rename_i i sz k off kk n he
   split at h
   · rename_i len te harr
     have: ∃ e,P.underlying t=some (.array len e)∧T e=some te:=by
       unfold Wg at harr
       split at harr
       · rename_i len' e hd
         split at harr
         · rename_i te' hte
           simp only[Option.some.injEq,Prod.mk.injEq]at harr
           obtain⟨rfl,rfl⟩:=harr
           exact⟨e,Bq hT hd,hte⟩
         · simp at harr
       · simp at harr
     obtain⟨e,hu,hte⟩:=this
     obtain⟨ti,z0,hti,hsz,_,_,_,hud,_⟩:=tab hT hte
     simp only[Rep]at hi hx
     subst hi
     simp only[out,Option.some.injEq]at h
     subst h
     simp only at hob
     obtain⟨h0,h1⟩:=hob
     obtain⟨b,hb,rfl⟩:=hx
     refine⟨.pointer (some ⟨b,k*sz+(off+n.toNat*te.size),none⟩),?_,by simp only[Rep];exact⟨b,hb,rfl⟩,rfl⟩
     simp only[Instr.indexAt,run_bind,asIntOf,run_pure,At hu,Instr.sureAddr]
     have hin:0≤n∧n<(len:Int):=⟨h0,h1⟩
     simp only[hin,and_self,if_true,run_bind,Cc hti,run_pure,Eh,hsz,Nat.add_assoc]
   · simp at h
 · simp at h
theorem Pd{b:Nat}{c:Array Value}{ty:TypeId}{fr:Nat×Nat}(h:w.heap[b]? =some (.cells c ty fr))(o:Nat):w.cell? ⟨b,o,none⟩=c[o]? :=by
 simp[World.cell?,h]
theorem CZ{b:Nat}{c:Array Value}{ty:TypeId}{fr:Nat×Nat}(h:w.heap[b]? =some (.cells c ty fr)){vs rest:List Value}(hc:c.toList=vs++rest):Cl w b 0 vs:=by
 intro j v hv
 rw[Pd h,Nat.zero_add,← Array.getElem?_toList,hc,List.getElem?_append_left]
 · exact hv
 · rcases Nat.lt_or_ge j vs.length with h|h
   · exact h
   · rw[List.getElem?_eq_none h]at hv;cases hv
theorem Cl.take{b off:Nat}{vs:List Value}(h:Cl w b off vs)(n:Nat):Cl w b off (vs.take n):=by
 intro j v hv
 refine h j v ?_
 by_cases hj:j<n
 · rwa [List.getElem?_take_of_lt hj]at hv
 · rw[List.getElem?_eq_none sO]at hv;cases hv
theorem Ng{t:TypeId}{ti:TI}(hT:B4 P T)(ht:T t=some ti){b off:Nat}{vs:List Value}{z:Value}(hc:Cl w b off vs)
   (h1:ti.isAgg=true→z= .agg (vs.take ti.size).toArray∧ti.size≤vs.length) (h2:ti.isAgg=false→ ∃ rest,vs=z::rest):
   (loadVar t ⟨b,off,none⟩).run P w= .ok z w:=by
 obtain⟨i,z0,hi,hsz,_,_,_,hud,_⟩:=tab hT ht
 unfold loadVar
 simp only[run_bind,Kb hud]
 by_cases ha:ti.isAgg=true
 · obtain⟨rfl,hle⟩:=h1 ha
   have e:Dw ti.desc=true:=ha
   simp only[e,if_true,run_bind,Cc hi,hsz]
   rw[DU (hc.take ti.size) sO]
   rfl
 · obtain⟨rest,rfl⟩:=h2 (by simpa using ha)
   have e:Dw ti.desc=false:=by simpa [TI.isAgg] using ha
   simp only[e,if_false,Bool.false_eq_true]
   have:=hc 0 z rfl
   exact Ss (by simpa using this)
theorem Good.elem{i:Nat}{e:Ent}(hg:Good X w β hp)(hi:hp i=some e){k:Nat}{c:List AV}(hk:e.es[k]? =some c):
   ∃ b cs fr v1 u v2 rest,β i=some (some b)∧w.heap[b]? =some (.cells cs e.ty fr)∧(∀ o,o<cs.size→fr.1=fr.2∨o<fr.1)∧cs.toList=v1++u++v2++rest∧v1.length=k*e.sz∧
     AJ w β (Own X β hp) c u∧AI w β (Own X β hp) e.sz (e.es.take k) v1∧AI w β (Own X β hp) e.sz (e.es.drop (k+1)) v2∧c.length=e.sz:=by
 rcases hg.ent i e hi with ⟨_,h⟩|⟨b,cs,fr,vs,rest,h1,h2,h3,h4,h5⟩
 · rw[h]at hk;simp at hk
 · obtain⟨v1,u,v2,rfl,ha,hb,hc,hd⟩:=h5.at k c hk
   exact⟨b,cs,fr,v1,u,v2,rest,h1,h2,h3,h4,ha,hb,hc,hd,h5.mem c (List.mem_of_getElem? hk)⟩
theorem KL(hT:B4 P T)(hg:Good X w β hp){t:TypeId}{x:AV}{u:Value}{r:Out}(h:Ic T hp t x=some r)(hob:r.ob)
   (hx:Rep w β (Own X β hp) x u): ∃ z,(Instr.loadAt t u).run P w= .ok z w∧Rep w β (Own X β hp) r.v z∧r.hw=[]:=by
 unfold Ic at h
 split at h
 · rename_i ti cs ht
   simp only[Rep]at hx
   obtain⟨b,off,vs,rfl,h1,h2,h3,h4⟩:=hx
   obtain⟨_,hw,z,hz,ha,hb⟩:=KZ hT ht h hob h4
   refine⟨z,?_,hz.up,hw⟩
   simp only[Instr.loadAt,run_bind,Instr.sureAddr,run_pure]
   exact Ng hT ht h3 ha hb
 · rename_i ti i sz k off ht
   simp only[Rep]at hx
   obtain⟨b,hb,rfl⟩:=hx
   split at h
   · rename_i e he
     split at h
     · rename_i c hc
       obtain⟨b',cs,fr,v1,cu,v2,rest,hb',hheap,_,hcs,hv1,hcu,_,_,_⟩:=hg.elem he hc
       obtain rfl:b=b':=by rw[hb]at hb';simpa using hb'
       obtain⟨hsz,hw,z,hz,ha,hb2⟩:=KZ hT ht h hob (hcu.drop off)
       refine⟨z,?_,hz,hw⟩
       simp only[Instr.loadAt,run_bind,Instr.sureAddr,run_pure]
       have hca:Cl w b 0 (v1++cu++v2):=CZ hheap hcs
       have:=(hca.mid).drop off
       rw[hv1,hsz,Nat.zero_add]at this
       exact Ng hT ht this ha hb2
     · simp at h
   · simp at h
 · simp at h
theorem Kd{env:Env}{a:Act}(henv:DH w β O env a.tmps){d l y:Nat}{p:Prop}{lo:Option Operand}(h:Dn env d lo=some (l,p))(hp:p)(hle:l≤y)(code:BoundsCode):
   (match (lo.map a.eval:Option Value)with|some v=>Instr.sliceBound v y code|none=>(pure d:Sem Nat)).run P w= .ok l w:=by
 cases lo with
 |none=>
   simp only[Dn,Option.some.injEq,Prod.mk.injEq]at h
   obtain⟨rfl,_⟩:=h
   rfl
 |some x=>
   simp only[Dn]at h
   split at h
   · rename_i k n hx
     simp only[Option.some.injEq,Prod.mk.injEq]at h
     obtain⟨rfl,rfl⟩:=h
     have hr:=DB henv x
     rw[hx]at hr
     simp only[Rep]at hr
     have hin:0≤n∧n≤(y:Int):=⟨hp,oM⟩
     simp[hr,Instr.sliceBound,run_bind,asIntOf,run_pure,hin]
   · simp at h
end pure
section pure
variable {X : Nat → Prop} {P : Program} {T : Tab} {w : World} {β : Gm} {hp : Hp} {nb : Nat} {O : Nat → Prop}
theorem GB{env:Env}{a:Act}(henv:DH w β O env a.tmps){len cap l h:Nat}{p q:Prop}{lo hi:Option Operand}(isS:Bool)
   (h1:Dn env 0 lo=some (l,p)) (h2:Dn env len hi=some (h,q)) (hp:p) (hq:q) (hl:l≤h) (hh:h≤cap):
   (Instr.sliceBounds isS len cap (lo.map a.eval) (hi.map a.eval) none).run P w= .ok (l,h,cap) w:=by
 unfold Instr.sliceBounds
 simp only[run_bind,run_pure]
 have e2:=Kd (P:=P) henv h2 hq hh (if isS then .sliceAcap else .sliceAlen)
 have e1:=Kd (P:=P) henv h1 hp hl .sliceB
 cases hi with
 |none=>
   simp only[Option.map_none]at e2 ⊢
   have:len=h:=by simpa [Dn] using (show _ from by simp only[Dn,Option.some.injEq,Prod.mk.injEq]at h2;exact h2.1)
   subst this
   cases lo with
   |none=>simp only[Option.map_none]at e1 ⊢;simp only[run_pure]at e1;simp at e1;subst e1;rfl
   |some x=>simp only[Option.map_some]at e1 ⊢;simp only[Option.isSome_none,Bool.false_eq_true,if_false,run_bind,run_pure,e1]
 |some y=>
   simp only[Option.map_some]at e2 ⊢
   cases lo with
   |none=>simp only[Option.map_none]at e1 ⊢;simp only[run_pure]at e1;simp at e1;subst e1;simp only[run_bind,run_pure,e2]
   |some x=>simp only[Option.map_some]at e1 ⊢;simp only[Option.isSome_none,Bool.false_eq_true,if_false,run_bind,run_pure,e1,e2]
theorem Lu(s:ByteArray)(l h:Nat):s.extract l h=⟨(((bl s).take h).drop l).toArray⟩:=by
 apply ByteArray.ext
 apply Array.ext'
 simp[bl,ByteArray.data_extract,List.extract,List.drop_take]
theorem AI.cut{sz:Nat}{es:List (List AV)}{vs:List Value}(h:AI w β O sz es vs){l k:Nat}(hl:l≤k)(hk:k≤es.length):
   ∃ v1 u v2,vs=v1++u++v2∧v1.length=l*sz∧AI w β O sz ((es.take k).drop l) u:=by
 have e:es=es.take l++((es.take k).drop l++es.drop k):=by
   rw[← List.append_assoc]
   have:es.take l=(es.take k).take l:=by rw[List.take_take,Nat.min_eq_left hl]
   rw[this,List.take_append_drop,List.take_append_drop]
 rw[e]at h
 obtain⟨v1,r,rfl,h1,h2⟩:=h.split
 obtain⟨u,v2,rfl,h3,h4⟩:=h2.split
 refine⟨v1,u,v2,sP,?_,h3⟩
 rw[h1.length,List.length_take,Nat.min_eq_left oM]
theorem M5(hT:B4 P T){env:Env}{a:Act}(henv:DH w β O env a.tmps){t:TypeId}{x:AV}{u:Value}{r:Out}{lo hi:Option Operand}(h:LX T t x env lo hi=some r)(hob:r.ob)
   (hx:Rep w β O x u): ∃ z,(Instr.sliceAt t u (lo.map a.eval) (hi.map a.eval) none).run P w= .ok z w∧Rep w β O r.v z∧r.hw=[]:=by
 unfold LX at h
 split at h
 · rename_i s hd
   simp only[Rep]at hx
   subst hx
   split at h
   · rename_i l p hh q h1 h2
     simp only[out,Option.some.injEq]at h
     subst h
     simp only at hob
     obtain⟨hp',hq,hl,hlen⟩:=hob
     refine⟨.string (s.extract l hh),?_,by simp only[Rep,Lu],rfl⟩
     have hb:=GB (P:=P) henv (cap:=s.size) false h1 h2 hp' hq hl (by rw[K3];exact hlen)
     rw[← K3]at hb
     simp only[Instr.sliceAt,run_bind,At (Bq hT hd),Instr.slice,Option.isSome_none,Bool.false_eq_true,if_false,run_pure,hb]
   · simp at h
 · rename_i e sz es hd
   split at h
   · rename_i l p hh q te h1 h2 hte
     obtain⟨ti,z0,hti,hsz,_,_,_,hud,_⟩:=tab hT hte
     simp only[out,Option.some.injEq]at h
     subst h
     simp only at hob
     obtain⟨hp',hq,hl,hlen,hs⟩:=hob
     have hu:=Bq hT hd
     simp only[Rep]at hx
     rcases hx with ⟨rfl,rfl⟩|⟨b,off,cap,vs,rfl,g1,g2,g3,g4,g5⟩
     · have hb:=GB (P:=P) henv (cap:=0) true h1 h2 hp' hq hl (by simpa using hlen)
       simp only[List.length_nil]at hb hlen
       refine⟨.slice none 0 0,?_,by simp[Rep],rfl⟩
       simp only[Instr.sliceAt,run_bind,At hu,Instr.slice,hb,Cc hti,run_pure]
       have:l=0:=by omega
       have:hh=0:=by omega
       subst_vars;rfl
     · have hb:=GB (P:=P) henv (cap:=cap) true h1 h2 hp' hq hl oM
       obtain⟨v1,cu,v2,rfl,hv1,hcu⟩:=g5.cut hl hlen
       refine⟨.slice (if cap=l then some ⟨b,off,none⟩else some ⟨b,off+l*sz,none⟩) (hh-l) (cap-l),?_,?_,rfl⟩
       · simp only[Instr.sliceAt,run_bind,At hu,Instr.slice,hb,Cc hti,run_pure,Option.map_some,Eh]
         rw[hsz,hs]
       · simp only[Rep]
         right
         have hlen2:((es.take hh).drop l).length=hh-l:=by simp;omega
         by_cases hc:cap=l
         · rw[if_pos hc]
           have:((es.take hh).drop l)=[]:=List.eq_nil_of_length_eq_zero oM
           refine⟨b,off,cap-l,[],by rw[hlen2],oM,g2,g3,by intro j v hv;simp at hv,by rw[this];simp[AI]⟩
         · rw[if_neg hc]
           refine⟨b,off+l*sz,cap-l,cu,by rw[hlen2],oM,g2,g3,?_,hcu⟩
           have:=g4.mid
           rw[hv1]at this;exact this
   · simp at h
 · rename_i e hd
   simp only[Rep]at hx
   subst hx
   split at h
   · rename_i l p hh q te h1 h2 hte
     obtain⟨ti,z0,hti,hsz,_,_,_,hud,_⟩:=tab hT hte
     simp only[out,Option.some.injEq]at h
     subst h
     simp only at hob
     obtain⟨hp',hq,rfl,rfl⟩:=hob
     have hu:=Bq hT hd
     have hb:=GB (P:=P) henv (cap:=0) true h1 h2 hp' hq (Nat.le_refl _) (Nat.le_refl _)
     refine⟨.slice none 0 0,?_,by simp[Rep],rfl⟩
     simp only[Instr.sliceAt,run_bind,At hu,Instr.slice,hb,Cc hti,run_pure]
     rfl
   · simp at h
 · rename_i e i n sz hd
   split at h
   · rename_i l p hh q te h1 h2 hte
     obtain⟨ti,z0,hti,hsz,_,_,_,hud,_⟩:=tab hT hte
     simp only[out,Option.some.injEq]at h
     subst h
     simp only at hob
     obtain⟨hp',hq,hl,hlen,hs⟩:=hob
     have hu:=Bq hT hd
     simp only[Rep]at hx
     rcases hx with ⟨hbi,rfl,rfl⟩|⟨b,cap,T',m,hbi,rfl,g1,g2,g3⟩
     · have hb:=GB (P:=P) henv (cap:=0) true h1 h2 hp' hq hl hlen
       refine⟨.slice none 0 0,?_,by simp only[Rep];exact .inl ⟨hbi,sP,oM⟩,rfl⟩
       simp only[Instr.sliceAt,run_bind,At hu,Instr.slice,hb,Cc hti,run_pure]
       have:l=0:=by omega
       have:hh=0:=by omega
       subst_vars;rfl
     · have hb:=GB (P:=P) henv (cap:=cap) true h1 h2 hp' hq hl oM
       refine⟨.slice (if cap=l then some ⟨b,0,none⟩else some ⟨b,0+l*sz,none⟩) (hh-l) (cap-l),?_,?_,rfl⟩
       · simp only[Instr.sliceAt,run_bind,At hu,Instr.slice,hb,Cc hti,run_pure,Option.map_some,Eh]
         rw[hsz,hs]
       · simp only[Rep]
         right
         by_cases hc:cap=l
         · rw[if_pos hc]
           exact⟨b,0,cap-l,T',m,hbi,sP,oM,.inr ⟨oM,oM,sP⟩,g2,by rw[hc];simp⟩
         · rw[if_neg hc]
           refine⟨b,0+l*sz,cap-l,T',m,hbi,sP,oM,.inl oM,g2,?_⟩
           have:l*sz+(cap-l)*sz=cap*sz:=by rw[← Nat.add_mul];congr 1;omega
           omega
   · simp at h
 · simp at h
theorem Qg{f:Value→ByteArray→Sem (ForInStep ByteArray)}(hf: ∀ n r,f (.int .u8 n) r=pure (.yield (r.push (UInt8.ofNat n.toNat)))):
   ∀ (es:List (List AV)) (vs:List Value) (s:ByteArray),AI w β O 1 es vs→(∀ c∈es,Gu c=true)→(forIn vs s f).run P w= .ok ⟨((bl s)++FY es).toArray⟩ w
 | [],vs,s,h,hb=>by
   simp only[AI]at h;subst h
   simp[run_pure,FY,bl]
 |c::cs,vs,s,h,hb=>by
   simp only[AI]at h
   obtain⟨u,r,rfl,h1,h2,h3⟩:=h
   have hc:=hb c sP
   unfold Gu at hc
   split at hc
   · rename_i n
     simp only[AJ,Rep]at h2
     obtain⟨v,r',rfl,rfl,rfl⟩:=h2
     have ih:=Qg hf cs r (s.push (UInt8.ofNat n.toNat)) h3 (fun c hc=>hb c (by simp[hc]))
     simp only[List.cons_append,List.nil_append,List.forIn_cons,run_bind,run_pure,hf]
     rw[ih]
     simp[bl,FY,Po]
   · simp at hc
theorem KO{sz:Nat}: ∀ {es:List (List AV)} {vs:List Value},AI w β O sz es vs→(∀ c∈es,Gu c=true)→AI w β O 1 es vs
 | [],vs,h,_=>by simpa [AI] using h
 |c::cs,vs,h,hb=>by
   simp only[AI]at h ⊢
   obtain⟨u,r,rfl,h1,h2,h3⟩:=h
   refine⟨u,r,rfl,?_,h2,KO h3 (fun c hc=>hb c (by simp[hc]))⟩
   have hc:=hb c sP
   unfold Gu at hc
   split at hc
   · rfl
   · simp at hc
end pure
section mem
variable {X : Nat → Prop} {P : Program} {T : Tab} {w w' : World} {β β' : Gm} {hp hp' : Hp} {nb : Nat}
theorem Bp{α:Type}{a:Array α}{i:Nat}{x:α}(h:a[i]? =some x):i<a.size:=by
 rcases Nat.lt_or_ge i a.size with h'|h'
 · exact h'
 · simp[Array.getElem?_eq_none h']at h
theorem Aaq{b:Nat}{s:TypeId×Nat}(h:w.shape? b=some s):b<w.heap.size:=by
 unfold World.shape? at h
 split at h
 · rename_i hb;exact Bp hb
 · simp at h
theorem QE{b:Nat}(h:w'.heap[b]? =w.heap[b]?):w'.shape? b=w.shape? b:=by simp[World.shape?,h]
theorem Good.lt(hg:Good X w β hp){i:Nat}{e:Ent}{b:Nat}(hi:hp i=some e)(hb:β i=some (some b)):b<w.heap.size:=by
 rcases hg.ent i e hi with ⟨h,_⟩|⟨b',c,fr,vs,rest,h1,h2,_⟩
 · rw[hb]at h;simp at h
 · rw[hb]at h1;simp at h1;subst h1;exact Bp h2
theorem Good.some(hg:Good X w β hp){i:Nat}{e:Ent}(hi:hp i=some e):β i≠none:=by
 rcases hg.ent i e hi with ⟨h,_⟩|⟨b',c,fr,vs,rest,h1,h2,_⟩
 · rw[h];simp
 · rw[h1];simp
theorem Good.fresh(hg:Good X w β hp){i:Nat}(h:β i=none):hp i=none:=by
 cases hi:hp i with
 |none=>rfl
 |some e=>exact absurd h (hg.some hi)
theorem Own.lt(hg:Good X w β hp){b:Nat}(h:Own X β hp b):b<w.heap.size:=by
 rcases h with hX|⟨i,e,hi,hb⟩
 · exact hg.xlt b hX
 · exact hg.lt hi hb
theorem G7.mono{O O':Nat→Prop}(h:Stab w w' β β' O O'){i:Nat}{e:Ent}(he:G7 w β O (β i) e)(hk: ∀ b,β i=some (some b)→w'.heap[b]? =w.heap[b]?):G7 w' β' O' (β' i) e:=by
 rcases he with ⟨h1,h2⟩|⟨b,c,fr,vs,rest,h1,h2,h3,h4,h5⟩
 · exact .inl ⟨h.gm _ _ h1,h2⟩
 · exact .inr ⟨b,c,fr,vs,rest,h.gm _ _ h1,by rw[hk b h1];exact h2,h3,h4,AI.mono h _ _ _ h5⟩
theorem Hr(hg:Good X w β hp)(hf:Frm w (Own X β hp) w' (Own X β' hp'))(hx:Cp β β')
   (hinj: ∀ i j e e' b,hp' i=some e→hp' j=some e'→β' i=some (some b)→β' j=some (some b)→i=j)
   (h: ∀ j e,hp' j=some e→G7 w' β' (Own X β' hp') (β' j) e∨(hp j=some e∧ ∀ b,β j=some (some b)→w'.heap[b]? =w.heap[b]?))
   (hxd: ∀ j e b,hp' j=some e→β' j=some (some b)→ ¬ X b):Good X w' β' hp':=by
 refine⟨hinj,fun j e hj=>?_,hxd,fun b hb=>Nat.lt_of_lt_of_le (hg.xlt b hb) hf.size,hf.laid hg.laid⟩
 rcases h j e hj with h|⟨h1,h2⟩
 · exact h
 · exact(hg.ent j e h1).mono (hf.stab hx) h2
def Ce(β:Gm)(i:Nat)(p:Option Nat):Gm:=fun j=>if j=i then some p else β j
theorem LG{i:Nat}{p:Option Nat}(h:β i=none):Cp β (Ce β i p):=by
 intro j q hj
 unfold Ce
 split
 · rename_i e;subst e;rw[h]at hj;cases hj
 · exact hj
theorem Lv{i:Nat}{p:Option Nat}(hi:nb≤i)(hi':i<nb+8): ∀ j,Ce β i p j≠none→β j≠none∨(nb≤j∧j<nb+8):=by
 intro j hj
 unfold Ce at hj
 split at hj
 · rename_i e;subst e;exact .inr ⟨hi,hi'⟩
 · exact .inl hj
@[simp] theorem Df{i:Nat}{p:Option Nat}:Ce β i p i=some p:=by simp[Ce]
theorem Ec{i j:Nat}{p:Option Nat}(h:j≠i):Ce β i p j=β j:=by simp[Ce,h]
def By(hp:Hp)(i:Nat)(e:Option Ent):Hp:=fun j=>if j=i then e else hp j
@[simp] theorem AhZ:BP hp []=hp:=rfl
theorem Dl{i:Nat}{e:Option Ent}{r:List (Nat×Option Ent)}:BP hp ((i,e)::r)=BP (By hp i e) r:=rfl
@[simp] theorem AgS{i:Nat}{e:Option Ent}:By hp i e i=e:=by simp[By]
theorem BT{i j:Nat}{e:Option Ent}(h:j≠i):By hp i e j=hp j:=by simp[By,h]
theorem Aaa(hg:Good X w β hp)(o:Obj){O':Nat→Prop}(hO: ∀ b,O' b→Own X β hp b∨b=w.heap.size){w':World}(hh:w'.heap=w.heap.push o)(h1:w'.os=w.os)(h2:w'.tape=w.tape)(h3:w'.output=w.output):
   Frm w (Own X β hp) w' O':=by
 have key: ∀ b,b<w.heap.size→w'.heap[b]? =w.heap[b]? :=fun b hb=>by rw[hh,Array.getElem?_push,if_neg oM]
 refine⟨h1,h2,h3,by rw[hh];simp,fun b hb _=>key b hb,fun b hb=>?_,fun b s hs=>by rw[QE (key b (Aaq hs))];exact hs⟩
 rcases hO b hb with h|h
 · exact .inl h
 · exact .inr oM
theorem Gy(hg:Good X w β hp)(hn:β nb=none){e:Ent}{c:Array Value}{fr:Nat×Nat}{vs rest:List Value}{r:Out}{v:Value}(hw:r.hw=[(nb,some e)])
   (hfr: ∀ o,o<c.size→fr.1=fr.2∨o<fr.1) (hc:c.toList=vs++rest) (hv:AI w β (Own X β hp) e.sz e.es vs)
   {w':World} (hh:w'.heap=w.heap.push (.cells c e.ty fr)) (h1:w'.os=w.os) (h2:w'.tape=w.tape) (h3:w'.output=w.output)
   (hrep: ∀ O',w'.shape? w.heap.size=some (e.ty,c.size)→Rep w' (Ce β nb (some w.heap.size)) O' r.v v):Post X w β hp nb r v w' (Ce β nb (some w.heap.size)):=by
 have hnone:hp nb=none:=hg.fresh hn
 have hhp:BP hp r.hw=By hp nb (some e):=by rw[hw];rfl
 have hO: ∀ b,Own X (Ce β nb (some w.heap.size)) (By hp nb (some e)) b→Own X β hp b∨b=w.heap.size:=by
   rintro b (hX|⟨i,e',hi,hb⟩)
   · exact .inl (.inl hX)
   by_cases h:i=nb
   · subst h;simp at hb;exact .inr hb.symm
   · rw[BT h]at hi;rw[Ec h]at hb;exact .inl (.inr ⟨i,e',hi,hb⟩)
 have hf:=Aaa (O':=Own X (Ce β nb (some w.heap.size)) (By hp nb (some e))) hg (.cells c e.ty fr) hO hh h1 h2 h3
 have hx:Cp β (Ce β nb (some w.heap.size)):=LG hn
 have hnew:w'.heap[w.heap.size]? =some (.cells c e.ty fr):=by rw[hh];simp
 have hgood:Good X w' (Ce β nb (some w.heap.size)) (By hp nb (some e)):=by
   refine Hr hg hf hx ?_ ?_ ?_
   · intro i j e1 e2 b hi hj hbi hbj
     by_cases h:i=nb
     · by_cases h':j=nb
       · rw[h,h']
       · subst h
         rw[BT h']at hj;rw[Ec h']at hbj;simp at hbi
         have:=hg.lt hj hbj;omega
     · by_cases h':j=nb
       · subst h'
         rw[BT h]at hi;rw[Ec h]at hbi;simp at hbj
         have:=hg.lt hi hbi;omega
       · rw[BT h]at hi;rw[Ec h]at hbi;rw[BT h']at hj;rw[Ec h']at hbj
         exact hg.inj i j _ _ b hi hj hbi hbj
   · intro j e1 hj
     by_cases h:j=nb
     · subst h
       simp at hj
       subst hj
       left
       refine .inr ⟨w.heap.size,c,fr,vs,rest,sP,hnew,hfr,hc,AI.mono (hf.stab hx) _ _ _ hv⟩
     · rw[BT h]at hj
       refine .inr ⟨hj,fun b hb=>?_⟩
       have:=hg.lt hj hb
       rw[hh,Array.getElem?_push,if_neg oM]
   · intro j e1 b hj hb hX
     by_cases h:j=nb
     · subst h;simp at hb;have:=hg.xlt b hX;omega
     · rw[BT h]at hj;rw[Ec h]at hb;exact hg.xdis j e1 b hj hb hX
 have hkx: ∀ b,X b→w'.heap[b]? =w.heap[b]? :=fun b hb=>by
   have:=hg.xlt b hb
   rw[hh,Array.getElem?_push,if_neg oM]
 exact⟨by rw[hhp];exact hrep _ (by simp[World.shape?,hnew]),by rw[hhp];exact hgood,by rw[hhp];exact hf,hx,hkx,Lv (Nat.le_refl _) oM⟩
theorem Ik{O:Nat→Prop}{a:AV}{cs:List AV}{v:Value}(h:In a=some cs)(hr:Rep w β O a v):AJ w β O cs v.cells.toList:=by
 unfold In at h
 split at h<;>simp only[Option.some.injEq,reduceCtorEq]at h
 · subst h
   simp only[Rep]at hr
   obtain⟨vs,rfl,hl⟩:=hr
   simpa [Value.cells] using hl
 · subst h
   rename_i h1 h2 h3 h4 h5
   simp only[AJ]
   refine⟨v,[],?_,hr,rfl⟩
   cases a with
   |any=>exact absurd rfl h1
   |val u=>
     simp only[Rep]at hr;subst hr
     cases v<;>first|rfl|exact absurd rfl (h3 _)
   |agg cs=>exact absurd rfl (h5 _)
   |tup cs=>exact absurd rfl (h2 _)
   |sl sz es=>simp only[Rep]at hr;rcases hr with ⟨rfl,_⟩|⟨b,off,cap,vs,rfl,_⟩<;>rfl
   |rp cs=>simp only[Rep]at hr;obtain⟨b,off,vs,rfl,_⟩:=hr;rfl
   |osl i n sz=>simp only[Rep]at hr;rcases hr with ⟨_,rfl,_⟩|⟨b,cap,T,m,_,rfl,_⟩<;>rfl
   |ptr i sz k off=>simp only[Rep]at hr;obtain⟨b,_,rfl⟩:=hr;rfl
   |osv i lo n sz=>simp only[Rep]at hr;rcases hr with ⟨_,rfl,_⟩|⟨b,off,cap,T,m,_,rfl,_⟩<;>rfl
   |fn f k cs=>simp only[Rep]at hr;obtain⟨vs,rfl,_⟩:=hr;rfl
theorem O8{t:TypeId}{v:Value}:(newVar t v).run P w= .ok ⟨w.heap.size,0,none⟩ {w with heap:=w.heap.push (.cells v.cells t)}:=by
 simp[newVar,newRow,newObj,run_bind,run_pure,Sem.run]
theorem Xy(hg:Good X w β hp)(hn:β nb=none){el:TypeId}{x:AV}{u:Value}{cs:List AV}(h:In x=some cs)(hx:Rep w β (Own X β hp) x u):
   ∃ v w',(Instr.box el u).run P w= .ok v w'∧Post X w β hp nb {v:= .ptr nb cs.length 0 0,hw:=[(nb,some ⟨el,cs.length,[cs]⟩)]} v w' (Ce β nb (some w.heap.size)):=by
 have hc:=Ik h hx
 refine⟨.pointer (some ⟨w.heap.size,0,none⟩),_,by simp only[Instr.box,run_bind,O8,run_pure];rfl,?_⟩
 refine Gy hg hn (c:=u.cells) (fr:=(0,0)) (vs:=u.cells.toList) (rest:=[]) rfl (by intro o _;exact .inl rfl) sP ?_ rfl rfl rfl rfl ?_
 · simp only[AI];exact⟨_,[],sP,trivial,hc,rfl⟩
 · intro O' _
   simp only[Rep];exact⟨_,Df,sP⟩
theorem Tx(hT:B4 P T)(hg:Good X w β hp)(hn:β nb=none){el:TypeId}{ti:TI}(h:T el=some ti):
   ∃ v w',(Instr.alloc el true (.tuple #[])).run P w= .ok v w'∧Post X w β hp nb {v:= .ptr nb ti.zero.length 0 0,hw:=[(nb,some ⟨el,ti.zero.length,[ti.zero.map .val]⟩)]} v w' (Ce β nb (some w.heap.size)):=by
 obtain⟨i,z,hi,hsz,_,hz,hzc,hud,_⟩:=tab hT h
 refine⟨.pointer (some ⟨w.heap.size,0,none⟩),_,by simp only[Instr.alloc,run_bind,Gq hi hz,O8,run_pure];rfl,?_⟩
 refine Gy hg hn (c:=z.cells) (fr:=(0,0)) (vs:=ti.zero) (rest:=[]) rfl (by intro o _;exact .inl rfl) (by simp[hzc]) ?_ rfl rfl rfl rfl ?_
 · simp only[AI];exact⟨_,[],sP,sP,Gg _,rfl⟩
 · intro O' _
   simp only[Rep];exact⟨_,Df,sP⟩
def CO(w:World)(b:Nat)(o:Obj):World:={w with heap:=w.heap.setIfInBounds b o}
theorem F7{b j:Nat}{o:Obj}(hb:b<w.heap.size):(CO w b o).heap[j]? =if j=b then some o else w.heap[j]? :=by
 simp only[CO,Array.getElem?_setIfInBounds]
 by_cases h:b=j
 · subst h;simp[hb]
 · rw[if_neg h,if_neg (fun h'=>h h'.symm)]
theorem VJ{b off:Nat}{v:Value}{c:Array Value}{ty:TypeId}{fr:Nat×Nat}(h:w.heap[b]? =some (.cells c ty fr)):
   w.setCell ⟨b,off,none⟩ v=CO w b (.cells (c.setIfInBounds off v) ty fr):=by
 simp only[World.setCell,CO]
 congr 1
 apply Array.ext_getElem?
 intro j
 simp only[Array.getElem?_modify,Array.getElem?_setIfInBounds]
 by_cases hj:b=j
 · subst hj;simp only[h,Bp h,if_true,Option.map_some];simp
 · simp[hj]
def Ey(c:Array Value)(off:Nat):List Value→Array Value
 | []=>c
 |v::vs=>Ey (c.setIfInBounds off v) (off+1) vs
theorem Fs: ∀ (vs:List Value) (c:Array Value) (off:Nat),(Ey c off vs).size=c.size
 | [],c,off=>rfl
 |v::vs,c,off=>by rw[Ey,Fs vs];simp
theorem Ft: ∀ (vs:List Value) (c:Array Value) (off:Nat),off+vs.length≤c.size→(Ey c off vs).toList=c.toList.take off++(vs++c.toList.drop (off+vs.length))
 | [],c,off,h=>by simp[Ey]
 |v::vs,c,off,h=>by
   simp only[List.length_cons]at h
   rw[Ey,Ft vs _ _ sO]
   have hl:off<c.toList.length:=by simp;omega
   simp only[Array.toList_setIfInBounds,List.length_cons,List.set_eq_take_append_cons_drop,if_pos hl]
   have hA:(c.toList.take off).length=off:=by simp at hl ⊢;omega
   generalize hP:c.toList.take off=A at hA
   have h1:(A++v::c.toList.drop (off+1)).take (off+1)=A++[v]:=by
     rw[List.take_append,hA,List.take_of_length_le oM];simp
   have h2:(A++v::c.toList.drop (off+1)).drop (off+1+vs.length)=c.toList.drop (off+(vs.length+1)):=by
     rw[List.drop_append,hA,List.drop_of_length_le oM,show off+1+vs.length-off=vs.length+1 by omega]
     simp only[List.drop_succ_cons,List.drop_drop,List.nil_append]
     congr 1;omega
   rw[h1,h2];simp
def Gf:Value→Bool
 | .agg _=>false
 | .tuple _=>false
 |_=>true
theorem WX{b off:Nat}{v:Value}{c:Array Value}{ty:TypeId}{fr:Nat×Nat}(h:w.heap[b]? =some (.cells c ty fr))(ho:off<c.size)(hfr: ¬ (fr.1≤off∧off<fr.2))(hv:Gf v=true):
   (store ⟨b,off,none⟩ v).run P w= .ok () (CO w b (.cells (c.setIfInBounds off v) ty fr)):=by
 have hcell:w.cell? ⟨b,off,none⟩=some c[off]:=by rw[Pd h];simp[ho]
 have hf:w.frozen? ⟨b,off,none⟩=false:=by
   simp only[World.frozen?,h]
   simp only[Bool.and_eq_false_iff,decide_eq_false_iff_not]
   by_cases h1:fr.1≤off
   · exact .inr (fun h2=>hfr ⟨h1,h2⟩)
   · exact .inl h1
 cases v<;>first|(simp[Gf]at hv;done)|(simp only[store,Sem.run,hcell,hf,VJ h,Bool.false_eq_true,if_false])
theorem EI{b off:Nat}{ty:TypeId}{fr:Nat×Nat}: ∀ (vs:List Value) (i:Nat) (w:World) (c:Array Value),w.heap[b]? =some (.cells c ty fr)→off+i+vs.length≤c.size→
   (∀ o,o<c.size→fr.1=fr.2∨o<fr.1)→(∀ v∈vs,Gf v=true)→
   (storeCells ⟨b,off,none⟩ vs i).run P w= .ok () (CO w b (.cells (Ey c (off+i) vs) ty fr))
 | [],i,w,c,h,hl,hfr,hv=>by
   simp only[storeCells,run_pure,Ey]
   congr 1
   cases w
   simp only[CO]
   congr 1
   apply Array.ext_getElem?
   intro j
   simp only[Array.getElem?_setIfInBounds]
   by_cases hj:b=j
   · subst hj;simp only[if_true];rw[if_pos (Bp h)];exact h
   · simp[hj]
 |v::vs,i,w,c,h,hl,hfr,hv=>by
   simp only[List.length_cons]at hl
   simp only[storeCells,run_bind,Eh]
   rw[WX h oM (by have:=hfr _ (show off+i<c.size by omega);omega) (hv v sP)]
   simp only
   have hb:=Bp h
   rw[EI (ty:=ty) (fr:=fr) vs (i+1) _ (c.setIfInBounds (off+i) v) (by rw[F7 hb];simp) sO (by simpa using hfr) (fun u hu=>hv u (by simp[hu]))]
   simp only[Ey,Nat.add_assoc]
   congr 1
   simp[CO]
theorem AJ.splice{O:Nat→Prop}{c xs:List AV}{u ys:List Value}{off:Nat}(h:AJ w β O c u)(hx:AJ w β O xs ys)(hl:off+xs.length≤c.length):
   AJ w β O (splice c off xs) (u.take off++(ys++u.drop (off+ys.length))):=by
 unfold Av.splice
 have h1:AJ w β O (c.take off) (u.take off):=by
   have:=h
   rw[← List.take_append_drop off c]at this
   obtain⟨v1,v2,rfl,g1,g2⟩:=this.split
   have:v1.length=off:=by rw[← g1.length];simp;omega
   rw[← this];simpa [this] using g1
 rw[← hx.length]
 exact h1.append (hx.append (h.drop _))
theorem Pr{O:Nat→Prop}{a:AV}{v:Value}(h:CC a=true)(hr:Rep w β O a v):Gf v=true:=by
 cases a with
 |any=>simp[CC]at h
 |val u=>simp only[Rep]at hr;subst hr;cases v<;>first|rfl|simp[CC]at h
 |agg cs=>simp[CC]at h
 |tup cs=>simp[CC]at h
 |sl sz es=>simp only[Rep]at hr;rcases hr with ⟨rfl,_⟩|⟨b,off,cap,vs,rfl,_⟩<;>rfl
 |rp cs=>simp only[Rep]at hr;obtain⟨b,off,vs,rfl,_⟩:=hr;rfl
 |osl i n sz=>simp only[Rep]at hr;rcases hr with ⟨_,rfl,_⟩|⟨b,cap,T,m,_,rfl,_⟩<;>rfl
 |ptr i sz k off=>simp only[Rep]at hr;obtain⟨b,_,rfl⟩:=hr;rfl
 |osv i lo n sz=>simp only[Rep]at hr;rcases hr with ⟨_,rfl,_⟩|⟨b,off,cap,T,m,_,rfl,_⟩<;>rfl
 |fn f k cs=>simp only[Rep]at hr;obtain⟨vs,rfl,_⟩:=hr;rfl
theorem HF{O:Nat→Prop}: ∀ {xs:List AV} {vs:List Value},xs.all CC=true→AJ w β O xs vs→ ∀ v∈vs,Gf v=true
 | [],vs,h,hr,v,hv=>by simp only[AJ]at hr;subst hr;simp at hv
 |a::xs,vs,h,hr,v,hv=>by
   simp only[AJ]at hr
   obtain⟨u,r,rfl,h1,h2⟩:=hr
   simp only[List.all_cons,Bool.and_eq_true]at h
   rcases List.mem_cons.1 hv with rfl|hv
   · exact Pr h.1 h1
   · exact HF h.2 h2 v hv
theorem WY{α:Type}(l:List α)(k:Nat)(x:α)(h:k<l.length):l.set k x=l.take k++x::l.drop (k+1):=by
 rw[List.set_eq_take_append_cons_drop,if_pos h]
end mem
section mem
variable {X : Nat → Prop} {P : Program} {T : Tab} {w w' : World} {β β' : Gm} {hp hp' : Hp} {nb : Nat}
theorem Tz{i:Nat}{e e':Ent}(hi:hp i=some e)(b:Nat):Own X β (By hp i (some e')) b↔Own X β hp b:=by
 constructor
 · rintro(hX|⟨j,f,hj,hb⟩)
   · exact .inl hX
   by_cases h:j=i
   · subst h;exact .inr ⟨j,e,hi,hb⟩
   · rw[BT h]at hj;exact .inr ⟨j,f,hj,hb⟩
 · rintro(hX|⟨j,f,hj,hb⟩)
   · exact .inl hX
   by_cases h:j=i
   · subst h;exact .inr ⟨j,e',sP,hb⟩
   · exact .inr ⟨j,f,by rw[BT h];exact hj,hb⟩
theorem HK{b:Nat}{c c':Array Value}{ty:TypeId}{fr fr':Nat×Nat}(h:w.heap[b]? =some (.cells c ty fr))(hs:c'.size=c.size)(j:Nat):(CO w b (.cells c' ty fr')).shape? j=w.shape? j:=by
 simp only[World.shape?,F7 (Bp h)]
 by_cases hj:j=b
 · subst hj;simp[h,hs]
 · simp[hj]
theorem Nn(hg:Good X w β hp){i b:Nat}{e e':Ent}{c c':Array Value}{fr fr':Nat×Nat}{vs rest:List Value}{r:Out}{v:Value}
   (hi:hp i=some e) (hb:β i=some (some b)) (hh:w.heap[b]? =some (.cells c e.ty fr)) (hfr: ∀ o,o<c.size→fr'.1=fr'.2∨o<fr'.1) (hty:e'.ty=e.ty)
   (hs:c'.size=c.size) (hc:c'.toList=vs++rest) (hv:AI w β (Own X β hp) e'.sz e'.es vs) (hw:r.hw=[(i,some e')])
   (hrep: ∀ O',Rep (CO w b (.cells c' e.ty fr')) β O' r.v v):Post X w β hp nb r v (CO w b (.cells c' e.ty fr')) β:=by
 have hhp:BP hp r.hw=By hp i (some e'):=by rw[hw];rfl
 have hlt:=Bp hh
 have hOo:Own X β hp b:= .inr ⟨i,e,hi,hb⟩
 have hnX: ¬ X b:=hg.xdis i e b hi hb
 have hf:Frm w (Own X β hp) (CO w b (.cells c' e.ty fr')) (Own X β (By hp i (some e'))):=by
   refine⟨rfl,rfl,rfl,by simp[CO],fun j hj hO=>?_,fun j hj=> .inl ((Tz hi j).1 hj),fun j s hj=>by rw[HK hh hs];exact hj⟩
   rw[F7 hlt,if_neg (fun(he:j=b)=>hO (he ▸ hOo))]
 have hx:=CR β
 refine⟨by rw[hhp];exact hrep _,?_,by rw[hhp];exact hf,hx,fun j hj=>by rw[F7 hlt,if_neg (fun(he:j=b)=>hnX (he ▸ hj))],fun j hj=> .inl hj⟩
 rw[hhp]
 refine Hr hg hf hx ?_ ?_ ?_
 · intro j k f g d hj hk hbj hbk
   have h1: ∃ f',hp j=some f':=by
     by_cases h:j=i
     · exact⟨e,h ▸ hi⟩
     · rw[BT h]at hj;exact⟨f,hj⟩
   have h2: ∃ g',hp k=some g':=by
     by_cases h:k=i
     · exact⟨e,h ▸ hi⟩
     · rw[BT h]at hk;exact⟨g,hk⟩
   obtain⟨f',h1⟩:=h1
   obtain⟨g',h2⟩:=h2
   exact hg.inj j k f' g' d h1 h2 hbj hbk
 · intro j f hj
   by_cases h:j=i
   · subst h
     simp at hj
     subst hj
     left
     exact .inr ⟨b,c',fr',vs,rest,hb,by rw[F7 hlt,hty];simp,by rw[hs];exact hfr,hc,AI.mono (hf.stab hx) _ _ _ hv⟩
   · rw[BT h]at hj
     refine .inr ⟨hj,fun d hd=>?_⟩
     rw[F7 hlt,if_neg]
     intro he
     subst he
     exact h (hg.inj j i f e d hj hi hd hb)
 · intro j f d hj hd
   by_cases h:j=i
   · subst h;exact hg.xdis j e d hi hd
   · rw[BT h]at hj;exact hg.xdis j f d hj hd
theorem HE(hg:Good X w β hp){i b:Nat}{e e':Ent}{c c':Array Value}{fr:Nat×Nat}{vs rest:List Value}{r:Out}{v:Value}
   (hi:hp i=some e) (hb:β i=some (some b)) (hh:w.heap[b]? =some (.cells c e.ty fr)) (hfr: ∀ o,o<c.size→fr.1=fr.2∨o<fr.1) (hty:e'.ty=e.ty)
   (hs:c'.size=c.size) (hc:c'.toList=vs++rest) (hv:AI w β (Own X β hp) e'.sz e'.es vs) (hw:r.hw=[(i,some e')])
   (hrep: ∀ w' O',Rep w' β O' r.v v):Post X w β hp nb r v (CO w b (.cells c' e.ty fr)) β:=
 Nn hg hi hb hh hfr hty hs hc hv hw (fun O'=>hrep _ O')
theorem Th(hT:B4 P T)(hg:Good X w β hp){t:TypeId}{x y:AV}{u v:Value}{r:Out}(h:Jn T hp t x y=some r)(hob:r.ob)
   (hx:Rep w β (Own X β hp) x u) (hy:Rep w β (Own X β hp) y v): ∃ w',(Instr.storeAt t u v).run P w= .ok () w'∧Post X w β hp nb r undef w' β:=by
 unfold Jn at h
 split at h
 · rename_i ti i sz k off xs ht hxs
   split at h
   · rename_i e he
     split at h
     · rename_i c hc
       simp only[Option.some.injEq]at h
       subst h
       simp only at hob
       obtain⟨hsz,hle,hlen,hall⟩:=hob
       obtain⟨tinfo,z0,hti,htsz,_,_,_,hud,_⟩:=tab hT ht
       simp only[Rep]at hx
       obtain⟨b,hb,rfl⟩:=hx
       have hys:=Ik hxs hy
       obtain⟨b',cs,fr,v1,cu,v2,rest,hb',hheap,hfr,hcs,hv1,hcu,ht1,ht2,hcl⟩:=hg.elem he hc
       obtain rfl:b=b':=by rw[hb]at hb';simpa using hb'
       have hcul:cu.length=e.sz:=by rw[← hcu.length];exact hcl
       have hyl:v.cells.toList.length=xs.length:=hys.length.symm
       have hsize:cs.size=v1.length+cu.length+v2.length+rest.length:=by rw[← Array.length_toList,hcs];simp;omega
       have hroom:k*sz+off+0+v.cells.toList.length≤cs.size:=by rw[hyl,hsize,hv1,hsz];omega
       have hput:=EI (P:=P) (b:=b) (off:=k*sz+off) v.cells.toList 0 w cs hheap hroom hfr (HF hall hys)
       refine⟨CO w b (.cells (Ey cs (k*sz+off+0) v.cells.toList) e.ty fr),?_,HE (e':={e with es:=e.es.set k (splice c off xs)}) (vs:=v1++(cu.take off++(v.cells.toList++cu.drop (off+v.cells.toList.length)))++v2) (rest:=rest) hg he hb hheap hfr rfl (Fs _ _ _) ?_ ?_ rfl (fun _ _=>by simp[Rep])⟩
       · simp only[Instr.storeAt,run_bind,Instr.sureAddr,run_pure,storeVar,Cc hti]
         rw[if_neg]
         · simpa using hput
         · rw[htsz,← hlen,← hyl];simp
       · rw[Ft _ _ _ oM,hcs]
         have e1:k*sz+off+0=v1.length+off:=by rw[hv1,hsz];omega
         rw[e1]
         simp only[List.append_assoc]
         rw[List.take_length_add_append]
         have e2:v1.length+off+v.cells.toList.length=v1.length+(off+v.cells.toList.length):=by omega
         rw[e2,List.drop_length_add_append]
         rw[List.take_append_of_le_length oM,List.drop_append_of_le_length oM]
         simp
       · have hk:k<e.es.length:=by
           rcases Nat.lt_or_ge k e.es.length with h|h
           · exact h
           · simp[List.getElem?_eq_none h]at hc
         rw[WY _ _ _ hk]
         have hs1:AI w β (Own X β hp) e.sz (splice c off xs::e.es.drop (k+1)) ((cu.take off++(v.cells.toList++cu.drop (off+v.cells.toList.length)))++v2):=by
           simp only[AI]
           refine⟨_,_,rfl,?_,hcu.splice hys hle,ht2⟩
           simp only[splice,List.length_append,List.length_take,List.length_drop]
           omega
         have:=ht1.append hs1
         simpa [List.append_assoc] using this
     · simp at h
   · simp at h
 · simp at h
theorem L8{O:Nat→Prop}{z:List Value}{sz:Nat}(hz:z.length=sz): ∀ n,AI w β O sz (List.replicate n (z.map .val)) (List.replicate n z).flatten
 |0=>by simp[AI]
 |n+1=>by
   simp only[List.replicate_succ,AI,List.flatten_cons]
   exact⟨z,_,rfl,by simpa using hz,Gg z,L8 hz n⟩
theorem Nb(z:Array Value)(hz:0<z.size)(n:Nat):((Array.range (n*z.size)).map (fun i=>z[i%z.size]!)).toList=(List.replicate n z.toList).flatten:=by
 apply List.ext_getElem
 · simp
 · intro j h1 h2
   simp at h1
   have hm:j%z.size<z.size:=Nat.mod_lt _ hz
   have: ∀ (n:Nat) (j:Nat) (h:j<(List.replicate n z.toList).flatten.length),(List.replicate n z.toList).flatten[j]=z[j%z.size]! :=by
     intro n
     induction n with
     |zero=>intro j h;simp at h
     |succ n ih=>
       intro j h
       have hlen:(List.replicate n z.toList).flatten.length=n*z.size:=by simp
       simp only[List.replicate_succ,List.flatten_cons,List.getElem_append]
       split
       · rename_i hlt
         simp at hlt
         rw[Nat.mod_eq_of_lt hlt]
         simp[hlt]
       · rename_i hge
         simp at hge
         rw[ih]
         congr 1
         simp only[Array.length_toList]
         rw[← Nat.mod_eq_sub_mod hge]
   rw[this]
   simp
theorem ON(hT:B4 P T)(hg:Good X w β hp)(hn:β nb=none){t e:TypeId}{te:TI}(he:elemOf T t=some (e,te)){n:Int}(h0:0≤n)(hb:te.bytes*n≤2^47)(h63:n<2^63)(hsz:0<te.size):
   ∃ v w',(Instr.makeSlice t (.int .i64 n) (.int .i64 n)).run P w= .ok v w'∧
     ∀ ob,Post X w β hp nb {v:= .osl nb n.toNat te.size,hw:=[(nb,some ⟨e,te.size,List.replicate n.toNat (te.zero.map .val)⟩)],ob:=ob} v w' (Ce β nb (some w.heap.size)):=by
 obtain⟨hu,hte⟩:=F5 hT he
 obtain⟨i,z,hi,hisz,hby,hz,hzc,hud,hzl⟩:=tab hT hte
 have hwr:IntKind.i64.wrap n=n:=by
   unfold IntKind.wrap
   simp only[IntKind.bits,IntKind.signed]
   have:n%(2^64:Int)=n:=Int.emod_eq_of_lt h0 oM
   simp only[this]
   rw[if_neg]
   simp;omega
 have hzsz:z.cells.size=te.size:=by rw[← Array.length_toList,hzc,hzl]
 have hrow:((Array.range (n.toNat*te.size)).map (fun j=>z.cells[j%z.cells.size]!)).toList=(List.replicate n.toNat te.zero).flatten:=by
   rw[← hzc,← Nb z.cells oM n.toNat,hzsz]
 refine⟨.slice (some ⟨w.heap.size,0,none⟩) n.toNat n.toNat,{w with heap:=w.heap.push (.cells ((Array.range (n.toNat*te.size)).map (fun j=>z.cells[j%z.cells.size]!)) e)},?_,fun ob=>?_⟩
 · have hl: ¬ ((i.bytes:Int)*n>2^48):=by rw[hby];omega
   have hl2: ¬ (n<0):=by omega
   simp only[Instr.makeSlice,run_bind,At hu,asInt,asIntOf,run_pure,I9 hi,hwr,Cc hi,Gq hi hz,hisz]
   simp only[hl,hl2,decide_false,Bool.or_false,Bool.false_eq_true,if_false,or_false,gt_iff_lt,Int.lt_irrefl,run_bind,run_pure,askRoom]
   have hroom:(if n.toNat*i.bytes>roomBytes then mark Mark.noRoom else pure ()).run P w= .ok () w:=by
     split<;>rfl
   rw[hroom]
   simp only[run_bind,Cc hi,hisz]
   by_cases hz0:n.toNat*te.size=0
   · simp only[hz0,if_true,run_pure,newRow,newObj,run_bind]
     have:n.toNat=0:=by
       rcases Nat.mul_eq_zero.1 hz0 with h|h
       · exact h
       · omega
     have er: ∀ f:Nat→Value,Array.map f (Array.range 0)= #[]:=fun f=>by apply Array.ext';simp
     simp[Sem.run,pure,this,er]
   · simp only[hz0,if_false,run_bind,Gq hi hz,run_pure,newRow,newObj]
     rfl
 · refine Gy hg hn (fr:=(0,0)) (c:=(Array.range (n.toNat*te.size)).map (fun j=>z.cells[j%z.cells.size]!)) (vs:=(List.replicate n.toNat te.zero).flatten) (rest:=[]) rfl (by intro o _;exact .inl rfl) (by rw[hrow];simp) (L8 hzl _) rfl rfl rfl rfl ?_
   intro O' hs
   simp only[Rep]
   refine .inr ⟨w.heap.size,n.toNat,_,_,Df,rfl,Nat.le_refl _,hs,?_⟩
   simp
theorem Sx: ∀ (l:List Value) (off k:Nat) (cells:Array Value),(l.zipIdx k).foldl (fun cs (x:Value×Nat)=>cs.setIfInBounds (off+x.2) x.1) cells=Ey cells (off+k) l
 | [],off,k,cells=>by simp[Ey]
 |v::l,off,k,cells=>by
   simp only[List.zipIdx_cons,List.foldl_cons,Ey]
   rw[Sx l off (k+1)]
   rfl
theorem Qd(v:Value)(off:Nat)(cells:Array Value):v.cells.zipIdx.foldl (fun cs (x:Value×Nat)=>cs.setIfInBounds (off+x.2) x.1) cells=Ey cells off v.cells.toList:=by
 rw[← Array.foldl_toList,Array.toList_zipIdx,Sx];rfl
theorem O4{env:Env}{a:Act}{O:Nat→Prop}(henv:DH w β O env a.tmps){sz:Nat}: ∀ (ps:List (Nat×Operand)) (n:Nat) (es:List (List AV)) (pre post:List Value),HQ n ps=true→DC env ps=some es→(∀ c∈es,c.length=sz)→
   pre.length=n*sz→post.length=ps.length*sz→
   ∃ vs,Instr.fill (fun i=>some (i*sz,sz)) (pre++post).toArray (ps.map fun(i,x)=>(i,a.eval x))=some (pre++vs).toArray∧AI w β O sz es vs
 | [],n,es,pre,post,h1,h2,h3,h4,h5=>by
   simp only[DC,Option.some.injEq]at h2
   subst h2
   simp at h5
   subst h5
   exact⟨[],by simp[Instr.fill],by simp[AI]⟩
 |(i,x)::ps,n,es,pre,post,h1,h2,h3,h4,h5=>by
   simp only[HQ,Bool.and_eq_true,beq_iff_eq]at h1
   obtain⟨rfl,h1⟩:=h1
   simp only[DC]at h2
   split at h2
   · rename_i c cs hc hcs
     simp only[Option.some.injEq]at h2
     subst h2
     have hr:=Ik hc (DB henv x)
     have hcl:c.length=sz:=h3 c sP
     have hvl:(a.eval x).cells.toList.length=sz:=by rw[← hr.length];exact hcl
     simp only[List.length_cons,Nat.succ_mul]at h5
     have hpost:post=post.take sz++post.drop sz:=(List.take_append_drop _ _).symm
     obtain⟨vs,hv1,hv2⟩:=O4 henv ps (i+1) cs (pre++(a.eval x).cells.toList) (post.drop sz) h1 hcs (fun c hc=>h3 c (by simp[hc])) (by simp only[List.length_append,hvl,h4,Nat.succ_mul]) sO
     refine⟨(a.eval x).cells.toList++vs,?_,?_⟩
     · simp only[List.map_cons,Instr.fill]
       have hsz:(a.eval x).cells.size=sz:=by simpa using hvl
       have hcond: ¬ ((decide ((a.eval x).cells.size≠sz)||decide (i*sz+(a.eval x).cells.size>(pre++post).toArray.size))=true):=by
         simp[hsz,h4];omega
       rw[if_neg hcond]
       rw[← List.append_assoc,← hv1]
       congr 1
       refine(Qd _ _ _).trans ?_
       apply Array.ext'
       rw[Ft _ _ _ (by simp[h4]at hvl ⊢;omega)]
       have hvl':(a.eval x).cells.toList.length=sz:=hvl
       simp only[hvl']
       rw[← h4,List.take_left',List.drop_append,List.drop_of_length_le oM]
       · simp
       · rfl
     · simp only[AI]
       exact⟨_,_,rfl,hcl,hr,hv2⟩
   · simp at h2
end mem
end Go.Av
