/- Part 3 of the proof of PlanSkipsOnlyWhatCannotMatch. -/
import Derived.Test.YtpkhodjlnodagaaGreatDoorB02
import Derived.OrdersIn
import Derived.LoopNIn
import Derived.RangeFuncRecord
import Derived.Tactics
set_option linter.unusedSimpArgs false
set_option linter.unusedVariables false
set_option linter.unusedSectionVars false
namespace Go.Av
structure YL where
 l:Nat
 N:Nat
 env:Env
 ps:Array Tmp
 assign:Code
 body:Code
structure Ctx where
 X:Nat→Prop
 w0:World
 O0:Nat→Prop
 βi:Gm
 N:Nat
 k:Nat
 hk: ∀ i,k≤i→βi i=none
 rd:Option Nat:=none
 m:Nat:=w0.heap.size
 hm:m≤w0.heap.size:=by simp
 hrd: ∀ l,rd=some l→l<w0.heap.size∧ ¬ O0 l∧ ∃ r,w0.heap[l]? =some (.loop r):=by simp
 y:Option YL:=none
 hy: ∀ z,y=some z→ ∃ r:Loop,z.l<w0.heap.size∧ ¬ O0 z.l∧w0.heap[z.l]? =some (.loop r)∧r.state= .ready∧r.pending=none∧r.params=z.ps∧r.assign=z.assign∧r.body=z.body∧r.tmps.size=z.N∧DH w0 βi O0 z.env r.tmps:=by simp
def rdF(rd:Option Nat):Fence:={Fence.wide with round:=rd}
abbrev Ctx.F(C:Ctx):Fence:=rdF C.rd
def EN(m:Nat)(w:World)(O:Nat→Prop):List Deferred→Prop
 | []=>True
 |d::ds=>(∃ D,d={target:= .collected D,args:= #[]}∧m≤D∧ ¬ O D∧w.heap[D]? =some (.deferred (some []))∧ ∀ e∈ds,e.target≠ .collected D)∧EN m w O ds
theorem EN.frm{m:Nat}{w w':World}{O O':Nat→Prop}(hf:Frm w O w' O'): ∀ {ds:List Deferred},EN m w O ds→EN m w' O' ds
 | [],_=>trivial
 |d::ds,⟨⟨D,h1,h2,h3,h4,h5⟩,h6⟩=>by
   have hlt:D<w.heap.size:=Bp h4
   exact⟨⟨D,h1,h2,fun h=>(hf.own D h).elim h3 (fun hl=>by omega),(hf.same D hlt h3).trans h4,h5⟩,h6.frm hf⟩
theorem Ctx.rdK(C:Ctx){w:World}{O:Nat→Prop}(hf:Frm C.w0 C.O0 w O): ∀ l,C.rd=some l→l<w.heap.size∧ ¬ O l∧ ∃ r,w.heap[l]? =some (.loop r):=by
 intro l hl
 obtain⟨h1,h2,r,h3⟩:=C.hrd l hl
 exact⟨Nat.lt_of_lt_of_le h1 hf.size,fun h=>(hf.own l h).elim h2 (fun hl=>by omega),r,(hf.same l h1 h2).trans h3⟩
theorem Tq{rd:Option Nat}{n:Nat}{P:Program}{f:FuncId}{args:Array Value}{w:World}{R:Ending→World→Prop}(h:Calls P f args w R):CallsIn (rdF rd) n P f args w R:=
 (callsIn_wide (n:=n)).2 h
theorem VS{rd:Option Nat}{n:Nat}{P:Program}{row:String}{args:Array Value}{w:World}{R:Value→World→Prop}(h:Rows P row args w R):RowsIn (rdF rd) n P row args w R:=by
 intro c cs _
 obtain⟨v,w',h1,h2⟩:=h c cs
 exact⟨v,w',h1,(stepsIn_wide (P:=P)).2 h2⟩
theorem XC{rd:Option Nat}{n:Nat}{P:Program}{o:Oper}{a:Act}{w:World}{K:Act→World→Prop}{Q:Exit→Act→World→Prop}(hd: ∀ c,o.op≠ .defer c)(h:o.wp P a w K Q):o.wpIn (rdF rd) n P a w K Q:=by
 unfold Oper.wpIn
 refine⟨fun f _=>trivial,?_⟩
 rw[Oper.semAt_eq _ _ _ hd]
 unfold Oper.wp at h
 generalize (execOp a.eval o).run P w=r at*
 cases r with
 |ok x w'=>
   cases x<;>simp only[Oper.uponIn,Oper.upon]at h ⊢ <;>
     first
       |exact h
       |exact⟨fun hh=>by simp[rdF,Fence.wide]at hh,Tq h⟩
       |exact⟨fun hh=>by simp[rdF,Fence.wide]at hh,VS h⟩
 |halt x w'=>cases x<;>simp only[Oper.uponIn,Oper.upon]at h ⊢ <;>exact h
theorem QD{P:Program}{T:Tab}{orc:Option Orc}{nb:Nat}{env:Env}{hp:Hp}{o:Oper}{r:Out}(h:CG P T orc nb env hp o.op=some r)(hob:r.ob)(X:Nat→Prop)(w:World)(β:Gm)(hg:Good X w β hp)(a:Act)(hfresh: ∀ j,nb≤j→j<nb+8→β j=none)(henv:DH w β (Own X β hp) env a.tmps): ∀ c,o.op≠ .defer c:=by
 intro c hc
 unfold CG at h
 split at h
 · simp only[Option.some.injEq]at h
   subst h
   obtain⟨v,w',β',h1,h2⟩:=hob.2 env hp (fun _ _=>rfl) (fun _ _=>rfl) X w β a o rfl hg hfresh henv
   simp only[execOp,hc]at h1
   rw[Sem.run_bind]at h1
   generalize (resolve a.eval c o.type).run P w=z at h1
   cases z<;>simp[Result.andThen,Sem.run_pure]at h1
 · rw[hc]at h
   simp[Bj]at h
theorem S3{rd:Option Nat}{k:Nat}{P:Program}{T:Tab}{X:Nat→Prop}{w:World}{β:Gm}{hp:Hp}{nb:Nat}{env:Env}{a:Act}{K:Act→World→Prop}{Q:Exit→Act→World→Prop}(hT:B4 P T){orc:Option Orc}{o:Oper}{r:Out}(h:CG P T orc nb env hp o.op=some r)(hob:r.ob)(hg:Good X w β hp)
   (hfresh: ∀ j,nb≤j→j<nb+8→β j=none) (henv:DH w β (Own X β hp) env a.tmps)
   (hK: ∀ v w' β',Post X w β hp nb r v w' β'→K (a.put o.dst v) w'):o.wpIn (rdF rd) k P a w K Q:=
 XC (QD h hob X w β hg a hfresh henv) (Vu hT h hob hg hfresh henv hK)
structure InvS(C:Ctx)(β:Gm)(s:St)(a:Act)(w:World):Prop where
 good:Good C.X w β s.hp
 env:DH w β (Own C.X β s.hp) s.env a.tmps
 size:a.tmps.size=C.N
 defers:EN C.m w (Own C.X β s.hp) a.defers
 frm:Frm C.w0 C.O0 w (Own C.X β s.hp)
 keepX: ∀ b,C.X b→w.heap[b]? =C.w0.heap[b]?
 ext:Cp C.βi β
def KQ(C:Ctx)(n:Nat)(L:Nat→Bool)(s:St)(a:Act)(w:World):Prop:=
 ∃ β,InvS C β s a w∧ ∀ j,β j≠none→j<n∨ ∃ i,L i=true∧n+8*i≤j∧j<n+8*i+8
def Dt(C:Ctx)(n:Nat)(s:St)(a:Act)(w:World):Prop:= ∃ β,InvS C β s a w∧ ∀ j,n≤j→β j=none
section sim
variable {C : Ctx} {P : Program} {T : Tab} {orc : Nat → Option Orc} {n : Nat} {ops : Array Oper} {Q : Exit → Act → World → Prop}
theorem K0{a:Array Value}{d t:Nat}{v:Value}(hd:d<a.size):(a.setIfInBounds d v).getD t undef=if d=t then v else a.getD t undef:=by
 simp only[Array.getD_eq_getD_getElem?,Array.getElem?_setIfInBounds]
 by_cases h:d=t
 · subst h;simp[hd]
 · simp[h]
theorem J7{o:Oper}{s:St}{β:Gm}{a:Act}{w:World}(h:InvS C β s a w){b:Bool}(hg:BM ops s.env o=some b):Region.wanted o (yielded ops a.tmps)=b:=by
 unfold BM at hg
 unfold Region.wanted
 cases hgu:o.guard with
 |none=>rw[hgu]at hg;simpa using hg
 |some jw=>
   obtain⟨j,want⟩:=jw
   rw[hgu]at hg
   simp only at hg ⊢
   unfold yielded
   cases hd:(ops[j]?).bind (·.dst)with
   |none=>rw[hd]at hg;simp only[Option.bind_none];simp only[Option.some.injEq]at hg;subst hg;rfl
   |some t=>
     rw[hd]at hg
     simp only[Option.bind_some]at hg ⊢
     have hr:=h.env t
     rw[Array.getD_eq_getD_getElem?]at hr
     split at hg
     · rename_i b' he
       rw[he]at hr
       simp only[Rep]at hr
       cases hx:a.tmps[t]? with
       |none=>rw[hx]at hr;simp[undef]at hr
       |some v=>
         rw[hx]at hr
         simp only[Option.getD_some]at hr
         subst hr
         simp only[Option.some.injEq]at hg
         rw[← hg]
         simp
     · rename_i vs he
       rw[he]at hr
       simp only[Rep]at hr
       simp only[Option.some.injEq]at hg
       subst hg
       cases hx:a.tmps[t]? with
       |none=>rfl
       |some v=>
         rw[hx]at hr
         simp only[Option.getD_some]at hr
         subst hr
         rfl
     · simp at hg
theorem Qe{s:St}{a:Act}{w w':World}{β β':Gm}{r:Out}{nb:Nat}{v:Value}{dst:Option Nat}(h:InvS C β s a w)(hd: ∀ d,dst=some d→d<C.N)(hp:Post C.X w β s.hp nb r v w' β'):
   InvS C β' (s.app dst r) (a.put dst v) w':=by
 refine⟨hp.good,?_,?_,?_,h.frm.trans hp.frm,fun b hb=>(hp.keepX b hb).trans (h.keepX b hb),h.ext.trans hp.ext⟩
 · intro t
   have hold:=Rep.mono (hp.frm.stab hp.ext) _ _ (h.env t)
   cases dst with
   |none=>simpa [St.app,Act.put] using hold
   |some d=>
     have hlt:d<a.tmps.size:=by rw[h.size];exact hd d rfl
     simp only[St.app,Act.put,K0 hlt,Option.some.injEq]
     by_cases he:d=t
     · subst he;simp only[if_true];exact hp.rep
     · simp only[if_neg he];exact hold
 · cases dst with
   |none=>exact h.size
   |some d=>simp[Act.put,h.size]
 · have:=h.defers.frm hp.frm
   cases dst with
   |none=>exact this
   |some d=>exact this
theorem Q3(hT:B4 P T){L:Nat→Bool}{s:St}{a:Act}{w:World}(h:KQ C n L s a w){i:Nat}{o:Oper}(hi:ops[i]? =some o)(hLi:L i=false){r:Out}(hs:FG P T orc n ops i o s=some r)(hob:r.ob)
   (hd: ∀ d,o.dst=some d→d<C.N) {K:Act→World→Prop} (hK: ∀ a' w',KQ C n (fun j=>if j=i then true else L j) (s.app o.dst r) a' w'→K a' w'):wpOpIn C.F 0 P ops Q i K a w:=by
 obtain⟨β,hS,hn⟩:=h
 have hlift: ∀ j,β j≠none→j<n∨ ∃ k,(if k=i then true else L k)=true∧n+8*k≤j∧j<n+8*k+8:=by
   intro j hj
   rcases hn j hj with h|⟨k,h1,h2⟩
   · exact .inl h
   · exact .inr ⟨k,by split<;>simp[h1],h2⟩
 unfold wpOpIn
 simp only[hi]
 unfold FG at hs
 split at hs
 · rename_i hg
   rw[if_pos (J7 hS hg)]
   have hfresh: ∀ j,n+8*i≤j→j<n+8*i+8→β j=none:=by
     intro j h1 h2
     cases hb:β j with
     |none=>rfl
     |some p=>
       rcases hn j (by rw[hb];simp)with h|⟨k,hk,h3,h4⟩
       · omega
       · have:k=i:=by omega
         subst this;rw[hLi]at hk;simp at hk
   refine S3 hT hs hob hS.good hfresh hS.env ?_
   intro v w' β' hp
   refine hK _ _ ⟨β',Qe hS hd hp,fun j hj=>?_⟩
   rcases hp.new j hj with h|h
   · exact hlift j h
   · exact .inr ⟨i,sP,h.1,h.2⟩
 · rename_i hg
   rw[if_neg (by rw[J7 hS hg];simp)]
   simp only[Option.some.injEq]at hs
   subst hs
   refine⟨fun _ _=>trivial,?_⟩
   refine hK _ _ ⟨β,?_,hlift⟩
   exact Qe (nb:=0) hS hd (Dh hS.good rfl (by simp[Rep]))
 · simp at hs
structure Rec(P:Program)(T:Tab)(orc:Nat→Option Orc)(n N:Nat)(ops:Array Oper)(f:Nat→Out)(s:St):Prop where
 step: ∀ (i:Nat) (o:Oper),ops[i]? =some o→FG P T orc n ops i o (stL ops f (fun _=>true) i s)=some (f i)
 ob: ∀ i,i<ops.size→(f i).ob
 dst: ∀ (i:Nat) (o:Oper) (d:Nat),ops[i]? =some o→o.dst=some d→d<N
theorem Lw{f:Nat→Out}{L L':Nat→Bool}{s:St}: ∀ k,(∀ j,j<k→L j=L' j)→stL ops f L k s=stL ops f L' k s
 |0,_=>rfl
 |k+1,h=>by simp only[stL];rw[Lw k (fun j hj=>h j oM),h k oM]
theorem KQ.done{L:Nat→Bool}{s:St}{a:Act}{w:World}{m:Nat}(h:KQ C n L s a w)(hL: ∀ i,L i=true→i<m):Dt C (n+8*m) s a w:=by
 obtain⟨β,hS,hn⟩:=h
 refine⟨β,hS,fun j hj=>?_⟩
 cases hb:β j with
 |none=>rfl
 |some p=>
   rcases hn j (by rw[hb];simp)with h|⟨k,hk,h3,h4⟩
   · omega
   · have:=hL k hk;omega
theorem Dt.start{s:St}{a:Act}{w:World}(h:Dt C n s a w):KQ C n (fun _=>false) s a w:=by
 obtain⟨β,hS,hn⟩:=h
 refine⟨β,hS,fun j hj=>?_⟩
 rcases Nat.lt_or_ge j n with h|h
 · exact .inl h
 · exact absurd (hn j h) hj
theorem Te(hT:B4 P T){f:Nat→Out}{s:St}(hr:Rec P T orc n C.N ops f s){a:Act}{w:World}(h:Dt C n s a w)
   (hQ: ∀ a' w',Dt C (n+8*ops.size) (stL ops f (fun _=>true) ops.size s) a' w'→Q .normal a' w') {id:Nat}:(Code.region id ops false).wpIn C.F 0 P Q a w:=by
 refine wpIn_region ?_
 have key: ∀ m k a w,k+m=ops.size→KQ C n (fun j=>decide (j<k)) (stL ops f (fun _=>true) k s) a w→wpOpsIn C.F 0 P ops Q (List.range' k m) a w:=by
   intro m
   induction m with
   |zero=>
     intro k a w hk hI
     simp only[List.range'_zero,wpOpsIn]
     obtain rfl:k=ops.size:=by omega
     exact hQ a w (hI.done (fun i hi=>by simpa using hi))
   |succ m ih=>
     intro k a w hk hI
     rw[List.range'_succ,wpOpsIn_cons]
     have hlt:k<ops.size:=by omega
     have hok:ops[k]? =some ops[k]:=by simp[hlt]
     refine Q3 hT hI hok sP (hr.step k _ hok) (hr.ob k hlt) (fun d hd=>hr.dst k _ d hok hd) ?_
     intro a' w' hI'
     refine ih (k+1) a' w' oM ?_
     obtain⟨β,hS,hn⟩:=hI'
     refine⟨β,?_,fun j hj=>?_⟩
     · have:stL ops f (fun _=>true) (k+1) s=(stL ops f (fun _=>true) k s).app ops[k].dst (f k):=by
         simp only[stL,if_true,hok];rfl
       rw[this];exact hS
     · rcases hn j hj with h|⟨i,hi,h2⟩
       · exact .inl h
       · refine .inr ⟨i,?_,h2⟩
         by_cases he:i=k
         · subst he;simp
         · simp only[if_neg he,decide_eq_true_eq]at hi ⊢;omega
 rw[List.range_eq_range']
 have h0:=h.start
 refine key ops.size 0 a w oM ?_
 obtain⟨β,hS,hn⟩:=h0
 exact⟨β,hS,fun j hj=>by rcases hn j hj with h|⟨i,hi,_⟩;exact .inl h;simp at hi⟩
theorem Qq: ∀ (l:List Bool) (i:Nat),l[i]? =some false→(l.set i true).count false+1=l.count false
 | [],i,h=>by simp at h
 |b::l,0,h=>by simp at h;subst h;simp
 |b::l,i+1,h=>by
   have:=Qq l i (by simpa using h)
   simp only[List.set_cons_succ,List.count_cons]
   omega
theorem RJ(hT:B4 P T)(hm:P.follows .mixedOrders=true){f:Nat→Out}{s:St}(hr:Rec P T orc n C.N ops f s){anc:Nat→Nat→Prop}(hs:Sep ops f anc)
   (hanc: ∀ L:Nat→Bool,(∀ j o,ops[j]? =some o→L j=true→ ∀ e∈o.after.toList,Region.binds .any e=true→L e.on=true)→ ∀ j o x,ops[j]? =some o→(∀ e∈o.after.toList,Region.binds .any e=true→L e.on=true)→anc j x→L x=true)
   (hanc0: ∀ j x,anc j x→j<ops.size) (hedge: ∀ j o,ops[j]? =some o→ ∀ e∈o.after.toList,Region.binds .any e=true→e.on<j)
   {a:Act} {w:World} (h:Dt C n s a w) (hQ: ∀ a' w',Dt C (n+8*ops.size) (stL ops f (fun _=>true) ops.size s) a' w'→Q .normal a' w') {id:Nat}:(Code.region id ops true).wpIn C.F 0 P Q a w:=by
 refine wpIn_region_any hm ?_
 have key: ∀ fuel (listed:Array Bool) a w,listed.size=ops.size→listed.toList.count false≤fuel→
     (∀ j o,ops[j]? =some o→listed.getD j false=true→ ∀ e∈o.after.toList,Region.binds .any e=true→listed.getD e.on false=true)→
     KQ C n (fun j=>listed.getD j false) (stL ops f (fun j=>listed.getD j false) ops.size s) a w→wpAnyIn C.F 0 P .any ops Q fuel listed a w:=by
   intro fuel
   induction fuel with
   |zero=>
     intro listed a w hsz hc hup hI
     have hall: ∀ j,j<ops.size→listed.getD j false=true:=by
       intro j hj
       have hx:listed.toList[j]? =some listed[j]:=by simp[hsz,hj]
       cases hb:listed[j]with
       |true=>simp[Array.getD_eq_getD_getElem?,hsz,hj,hb]
       |false=>
         rw[hb]at hx
         have:false∈listed.toList:=List.mem_of_getElem? hx
         have:=List.count_pos_iff.2 this
         omega
     refine⟨?_,?_⟩
     · unfold Region.ready
       rw[List.filter_eq_nil_iff]
       intro i hi
       simp at hi
       have:=hall i hi
       rw[Array.getD_eq_getD_getElem?]at this ⊢
       simp[hsz,hi]at this ⊢
       simp[this]
     · refine hQ a w ?_
       rw[Lw ops.size (L':=fun _=>true) (fun j hj=>hall j hj)]at hI
       refine hI.done (fun i hi=>?_)
       rw[← hsz]
       rcases Nat.lt_or_ge i listed.size with h|h
       · exact h
       · simp[Array.getD_eq_getD_getElem?,Array.getElem?_eq_none h]at hi
   |succ fuel ih=>
     intro listed a w hsz hc hup hI
     have hupA: ∀ j x,listed.getD j false=true→anc j x→listed.getD x false=true:=by
       intro j x hj hx
       have hlt:=hanc0 j x hx
       exact hanc (fun k=>listed.getD k false) hup j ops[j] x (by simp[hlt]) (hup j ops[j] (by simp[hlt]) hj) hx
     refine⟨fun hrd=>?_,fun i hi=>?_⟩
     · -- nothing is ready:everything is listed
       have hall: ∀ j,j<ops.size→listed.getD j false=true:=by
         intro j
         induction j using Nat.strongRecOn with
         |_ j ihj=>
           intro hj
           cases hb:listed.getD j false with
           |true=>rfl
           |false=>
             exfalso
             have:j∈Region.ready .any ops listed:=by
               unfold Region.ready
               rw[List.mem_filter]
               refine⟨by simpa using hj,?_⟩
               have h1:listed.getD j true=false:=by
                 rw[Array.getD_eq_getD_getElem?]at hb ⊢
                 simp[hsz,hj]at hb ⊢;exact hb
               have h2:ops[j]? =some ops[j]:=by simp[hj]
               rw[h1,h2]
               simp only[Bool.not_false,Bool.true_and,Option.map_some,Option.getD_some,Array.all_eq_true_iff_forall_mem]
               intro e he
               have he':e∈ops[j].after.toList:=by simpa using he
               cases hbd:Region.binds .any e with
               |false=>simp
               |true=>
                 have hlt:=hedge j _ h2 e he' hbd
                 simp[ihj e.on hlt oM]
             rw[hrd]at this;simp at this
       refine hQ a w ?_
       rw[Lw ops.size (L':=fun _=>true) (fun j hj=>hall j hj)]at hI
       refine hI.done (fun i hi=>?_)
       rw[← hsz]
       rcases Nat.lt_or_ge i listed.size with h|h
       · exact h
       · simp[Array.getD_eq_getD_getElem?,Array.getElem?_eq_none h]at hi
     · -- one that is ready is taken
       unfold Region.ready at hi
       rw[List.mem_filter]at hi
       obtain⟨hi1,hi2⟩:=hi
       have hlt:i<ops.size:=by simpa using hi1
       have hok:ops[i]? =some ops[i]:=by simp[hlt]
       rw[hok]at hi2
       simp only[Option.map_some,Option.getD_some,Bool.and_eq_true,Bool.not_eq_true',Array.all_eq_true_iff_forall_mem]at hi2
       obtain⟨hnl,hall⟩:=hi2
       have hLi:listed.getD i false=false:=by
         rw[Array.getD_eq_getD_getElem?]at hnl ⊢
         simp[hsz,hlt]at hnl ⊢;exact hnl
       have hpre: ∀ e∈ops[i].after.toList,Region.binds .any e=true→listed.getD e.on false=true:=by
         intro e he hb
         have:=hall e (by simpa using he)
         simpa [hb] using this
       obtain⟨r',hr',hle⟩:=sees (L:=fun j=>listed.getD j false) hs hok hLi hupA (fun x hx=>hanc (fun k=>listed.getD k false) hup i _ x hok hpre hx) (hr.step i _ hok)
       refine Q3 hT hI hok hLi hr' (hle.ob (hr.ob i hlt)) (fun d hd=>hr.dst i _ d hok hd) ?_
       intro a' w' hI'
       have hset:(listed.setIfInBounds i true).size=ops.size:=by simp[hsz]
       have hgetD: ∀ j,(listed.setIfInBounds i true).getD j false=if j=i then true else listed.getD j false:=by
         intro j
         simp only[Array.getD_eq_getD_getElem?,Array.getElem?_setIfInBounds]
         by_cases h:i=j
         · subst h;simp[hsz,hlt]
         · rw[if_neg h,if_neg (fun h':j=i=>h h'.symm)]
       refine ih _ a' w' hset ?_ ?_ ?_
       · have hx:listed.toList[i]? =some false:=by
           have:listed[i]? =some false:=by
             rw[Array.getD_eq_getD_getElem?]at hLi
             simp[hsz,hlt]at hLi ⊢;exact hLi
           simpa using this
         have:=Qq listed.toList i hx
         simp only[Array.toList_setIfInBounds]
         omega
       · intro j o hj hL e he hb
         rw[hgetD]at hL ⊢
         by_cases h1:e.on=i
         · simp[h1]
         · rw[if_neg h1]
           by_cases h2:j=i
           · subst h2
             rw[hok]at hj
             simp at hj
             subst hj
             exact hpre e he hb
           · rw[if_neg h2]at hL
             exact hup j o hj hL e he hb
       · have e1:(fun j=>(listed.setIfInBounds i true).getD j false)=(fun j=>if j=i then true else listed.getD j false):=funext hgetD
         rw[e1,adds hs hok hLi hupA]
         obtain⟨β,hS,hn⟩:=hI'
         refine⟨β,?_,hn⟩
         have:(stL ops f (fun j=>listed.getD j false) ops.size s).app ops[i].dst (f i)=(stL ops f (fun j=>listed.getD j false) ops.size s).app ops[i].dst r':=by
           simp only[St.app,hle.v,hle.hw]
         rw[this];exact hS
 refine key ops.size _ a _ sP sP (by intro j o hj hL;simp only[Array.getD_eq_getD_getElem?,Array.getElem?_replicate]at hL;split at hL<;>simp at hL) ?_
 have e1:(fun j=>(Array.replicate ops.size false).getD j false)=(fun _=>false):=by
   funext j
   simp only[Array.getD_eq_getD_getElem?,Array.getElem?_replicate]
   split<;>rfl
 rw[e1]
 have e2: ∀ k,stL ops f (fun _=>false) k s=s:=by
   intro k;induction k with
   |zero=>rfl
   |succ k ih=>simp only[stL,Bool.false_eq_true,if_false,ih]
 rw[e2]
 obtain⟨β,hS,hn⟩:=h.start
 refine⟨β,⟨?_,?_,hS.size,EN.frm (w:=w) (w':={w with drawn:=w.drawn+1}) (O:=Own C.X β s.hp) (O':=Own C.X β s.hp) ⟨rfl,rfl,rfl,Nat.le_refl _,fun _ _ _=>rfl,fun _ h=> .inl h,fun _ _ h=>h⟩ hS.defers,?_,hS.keepX,hS.ext⟩,hn⟩
 · have hst:Stab w {w with drawn:=w.drawn+1} β β (Own C.X β s.hp) (Own C.X β s.hp):=⟨Nat.le_refl _,fun _ _ h=>h,fun _ _ h=>h,fun _ _ h=>⟨.inl rfl,h⟩⟩
   exact⟨hS.good.inj,fun i e hi=>(hS.good.ent i e hi).mono hst (fun _ _=>rfl),hS.good.xdis,hS.good.xlt,OJ (fun _ _=>rfl) hS.good.laid.1,hS.good.laid.2⟩
 · have hst:Stab w {w with drawn:=w.drawn+1} β β (Own C.X β s.hp) (Own C.X β s.hp):=⟨Nat.le_refl _,fun _ _ h=>h,fun _ _ h=>h,fun _ _ h=>⟨.inl rfl,h⟩⟩
   exact fun t=>Rep.mono hst _ _ (hS.env t)
 · exact⟨hS.frm.os,hS.frm.tape,hS.frm.output,hS.frm.size,hS.frm.same,hS.frm.own,hS.frm.shape⟩
end sim
structure AS where
 env:List (Nat×AV)
 hp:List (Nat×Option Ent)
def lk:List (Nat×AV)→Nat→AV
 | [],_=> .any
 |(t,a)::r,u=>if t=u then a else lk r u
def lkh:List (Nat×Option Ent)→Nat→Option Ent
 | [],_=>none
 |(i,e)::r,j=>if i=j then e else lkh r j
def AS.st(s:AS):St:=⟨lk s.env,lkh s.hp⟩
def BV(dst:Option Nat)(v:AV)(env:List (Nat×AV)):List (Nat×AV):=
 match dst with
 |some d=>(d,v)::env
 |none=>env
abbrev Touch:=Nat×List Nat×List Nat
def DG(i:Nat)(r:Out)(ts:List Touch):List Touch:=
 match r.hr,r.hw with
 | [],[]=>ts
 |hr,hw=>(i,hr,hw.map (·.1))::ts
def Bv(P:Program)(T:Tab)(orc:Nat→Option Orc)(n:Nat)(ops:Array Oper):List Oper→Nat→AS→List Touch→Prop→Option (AS×List Touch×Prop)
 | [],_,s,ts,p=>some (s,ts,p)
 |o::l,i,s,ts,p=>match BM ops (lk s.env) o with
   |some true=>match CG P T (orc i) (n+8*i) (lk s.env) (lkh s.hp) o.op with
     |some r=>Bv P T orc n ops l (i+1) ⟨BV o.dst r.v s.env,r.hw.reverse++s.hp⟩ (DG i r ts) (p∧r.ob)
     |none=>none
   |some false=>Bv P T orc n ops l (i+1) ⟨BV o.dst (.val undef) s.env,s.hp⟩ ts p
   |none=>none
section
variable {P : Program} {T : Tab} {orc : Nat → Option Orc} {n : Nat} {ops : Array Oper}
theorem S7(dst:Option Nat)(v:AV)(env:List (Nat×AV)):lk (BV dst v env)=fun t=>if dst=some t then v else lk env t:=by
 funext t
 cases dst with
 |none=>simp[BV]
 |some d=>simp[BV,lk]
theorem Ub: ∀ (hw l:List (Nat×Option Ent)),lkh (hw.reverse++l)=BP (lkh l) hw
 | [],l=>rfl
 |(i,e)::r,l=>by
   rw[List.reverse_cons,List.append_assoc,List.singleton_append,Ub r ((i,e)::l),Dl]
   congr 1
   funext j
   simp only[lkh,By]
   by_cases h:i=j
   · subst h;simp
   · rw[if_neg h,if_neg (fun h'=>h h'.symm)]
theorem RL(s:AS)(dst:Option Nat)(r:Out):(⟨BV dst r.v s.env,r.hw.reverse++s.hp⟩:AS).st=s.st.app dst r:=by
 simp only[AS.st,St.app,S7,Ub]
theorem PA{f g:Nat→Out}{L:Nat→Bool}{s:St}: ∀ k,(∀ j,j<k→f j=g j)→stL ops f L k s=stL ops g L k s
 |0,_=>rfl
 |k+1,h=>by simp only[stL];rw[PA k (fun j hj=>h j oM),h k oM]
theorem YA(i:Nat)(r:Out)(ts:List Touch): ∀ x∈ts,x∈DG i r ts:=by
 intro x hx
 unfold DG
 split
 · exact hx
 · exact List.mem_cons_of_mem _ hx
theorem Yw(i:Nat)(r:Out)(ts:List Touch)(h: ¬ (r.hr=[]∧r.hw=[])):(i,r.hr,r.hw.map (·.1))∈DG i r ts:=by
 unfold DG
 split
 · rename_i h1 h2;exact absurd ⟨h1,h2⟩ h
 · simp
theorem Rj{s0:St}: ∀ (l:List Oper) (i:Nat) (s:AS) (ts:List Touch) (p:Prop) (s':AS) (ts':List Touch) (p':Prop) (g:Nat→Out),(∀ j,l[j]? =ops[i+j]?)→
   Bv P T orc n ops l i s ts p=some (s',ts',p')→s.st=stL ops g (fun _=>true) i s0→
   ∃ f:Nat→Out,(∀ j,j<i→f j=g j)∧(∀ (j:Nat) (o:Oper),i≤j→ops[j]? =some o→FG P T orc n ops j o (stL ops f (fun _=>true) j s0)=some (f j))∧
     s'.st=stL ops f (fun _=>true) (i+l.length) s0∧(p'→p∧ ∀ j,i≤j→j<i+l.length→(f j).ob)∧(∀ x∈ts,x∈ts')∧
     (∀ j,i≤j→j<i+l.length→ ¬ ((f j).hr=[]∧(f j).hw=[])→(j,(f j).hr,(f j).hw.map (·.1))∈ts')
 | [],i,s,ts,p,s',ts',p',g,hl,h,hs=>by
   simp only[Bv,Option.some.injEq,Prod.mk.injEq]at h
   obtain⟨rfl,rfl,rfl⟩:=h
   refine⟨g,fun _ _=>rfl,fun j o hj ho=>?_,by simpa using hs,fun hp=>⟨hp,fun j h1 h2=>?_⟩,fun x hx=>hx,fun j h1 h2=>?_⟩
   · have:=hl (j-i)
     rw[show i+(j-i)=j by omega,ho]at this
     simp at this
   · simp at h2;omega
   · simp at h2;omega
 |o::l,i,s,ts,p,s',ts',p',g,hl,h,hs=>by
   have ho:ops[i]? =some o:=by simpa using (hl 0).symm
   have hl': ∀ j,l[j]? =ops[i+1+j]? :=fun j=>by
     have:=hl (j+1)
     rw[show i+1+j=i+(j+1) by omega,← this];simp
   have go: ∀ (r:Out) (ts1:List Touch) (p1:Prop),FG P T orc n ops i o s.st=some r→Bv P T orc n ops l (i+1) ⟨BV o.dst r.v s.env,r.hw.reverse++s.hp⟩ ts1 p1=some (s',ts',p')→
       (p1→p∧r.ob)→(∀ x∈ts,x∈ts1)→(¬ (r.hr=[]∧r.hw=[])→(i,r.hr,r.hw.map (·.1))∈ts1)→
       ∃ f:Nat→Out,(∀ j,j<i→f j=g j)∧(∀ (j:Nat) (o:Oper),i≤j→ops[j]? =some o→FG P T orc n ops j o (stL ops f (fun _=>true) j s0)=some (f j))∧
         s'.st=stL ops f (fun _=>true) (i+(o::l).length) s0∧(p'→p∧ ∀ j,i≤j→j<i+(o::l).length→(f j).ob)∧(∀ x∈ts,x∈ts')∧
         (∀ j,i≤j→j<i+(o::l).length→ ¬ ((f j).hr=[]∧(f j).hw=[])→(j,(f j).hr,(f j).hw.map (·.1))∈ts'):=by
     intro r ts1 p1 hst hrun hp1 hsub hhas
     let g':Nat→Out:=fun j=>if j=i then r else g j
     have hg': ∀ j,j<i→g' j=g j:=fun j hj=>by simp[g',show j≠i by omega]
     have e1:(⟨BV o.dst r.v s.env,r.hw.reverse++s.hp⟩:AS).st=stL ops g' (fun _=>true) (i+1) s0:=by
       rw[RL,hs]
       simp only[stL,if_true,ho,Option.bind_some]
       rw[PA i hg']
       simp[g']
     obtain⟨f,f1,f2,f3,f4,f5,f6⟩:=Rj l (i+1) _ ts1 p1 s' ts' p' g' hl' hrun e1
     have hfi:f i=r:=by rw[f1 i oM];simp[g']
     have hfg: ∀ j,j<i→f j=g j:=fun j hj=>by rw[f1 j oM,hg' j hj]
     refine⟨f,hfg,fun j o' hj hoj=>?_,?_,fun hp'=>?_,fun x hx=>f5 x (hsub x hx),fun j h1 h2 h3=>?_⟩
     · by_cases he:j=i
       · subst he
         rw[ho]at hoj
         simp at hoj
         subst hoj
         rw[PA j hfg,← hs,hfi];exact hst
       · exact f2 j o' oM hoj
     · rw[f3];congr 1;simp;omega
     · obtain⟨h1,h2⟩:=f4 hp'
       obtain⟨h3,h4⟩:=hp1 h1
       refine⟨h3,fun j hj1 hj2=>?_⟩
       by_cases he:j=i
       · subst he;rw[hfi];exact h4
       · exact h2 j oM (by simp at hj2;omega)
     · by_cases he:j=i
       · subst he;rw[hfi]at h3 ⊢;exact f5 _ (hhas h3)
       · exact f6 j oM (by simp at h2;omega) h3
   simp only[Bv]at h
   have hast:FG P T orc n ops i o s.st=match BM ops (lk s.env) o with
     |some true=>CG P T (orc i) (n+8*i) (lk s.env) (lkh s.hp) o.op
     |some false=>some {v:= .val undef}
     |none=>none:=rfl
   split at h
   · rename_i hg
     rw[hg]at hast
     split at h
     · rename_i r hr
       exact go r _ _ (by rw[hast];exact hr) h (fun hp=>hp) (YA i r ts) (Yw i r ts)
     · simp at h
   · rename_i hg
     rw[hg]at hast
     exact go {v:= .val undef} ts p hast (by simpa using h) (fun hp=>⟨hp,trivial⟩) (fun x hx=>hx) (fun hh=>absurd ⟨rfl,rfl⟩ hh)
   · simp at h
def EY(o:Oper):List Nat:=(o.after.toList.filter fun e=>Region.binds .any e).map (·.on)
def Gh(acc:List Nat):List Nat→Nat
 | []=>0
 |d::ds=>2^d ||| acc.getD d 0 ||| Gh acc ds
def CA:List Oper→List Nat→List Nat
 | [],acc=>acc
 |o::r,acc=>CA r (acc++[Gh acc (EY o)])
theorem Oe{acc:List Nat}{x:Nat}: ∀ {ds:List Nat},(Gh acc ds).testBit x=true→ ∃ d∈ds,x=d∨(acc.getD d 0).testBit x=true
 | [],h=>by simp[Gh]at h
 |d::ds,h=>by
   simp only[Gh,Nat.testBit_or,Bool.or_eq_true,Nat.testBit_two_pow,decide_eq_true_eq]at h
   rcases h with (h|h)|h
   · exact⟨d,sP,.inl h.symm⟩
   · exact⟨d,sP,.inr h⟩
   · obtain⟨d',h1,h2⟩:=Oe h
     exact⟨d',by simp[h1],h2⟩
theorem Qz: ∀ (l:List Oper) (acc:List Nat),∃ r,CA l acc=acc++r
 | [],acc=>⟨[],by simp[CA]⟩
 |o::l,acc=>by
   obtain⟨r,hr⟩:=Qz l (acc++[Gh acc (EY o)])
   exact⟨[Gh acc (EY o)]++r,by simp only[CA,hr,List.append_assoc]⟩
theorem LC: ∀ (l:List Oper) (acc:List Nat) (j:Nat),acc.length≤j→ ∀ x,((CA l acc).getD j 0).testBit x=true→ ∃ o,l[j-acc.length]? =some o∧ ∃ d∈EY o,x=d∨(d<j∧((CA l acc).getD d 0).testBit x=true)
 | [],acc,j,hj,x,h=>by
   simp only[CA]at h
   rw[List.getD_eq_getElem?_getD,List.getElem?_eq_none hj]at h
   simp at h
 |o::l,acc,j,hj,x,h=>by
   simp only[CA]at h ⊢
   by_cases he:j=acc.length
   · subst he
     refine⟨o,sP,?_⟩
     obtain⟨r,hr⟩:=Qz l (acc++[Gh acc (EY o)])
     have e1:(CA l (acc++[Gh acc (EY o)])).getD acc.length 0=Gh acc (EY o):=by
       rw[hr];simp[List.getD_eq_getElem?_getD]
     rw[e1]at h
     obtain⟨d,hd,hx⟩:=Oe h
     refine⟨d,hd,?_⟩
     rcases hx with hx|hx
     · exact .inl hx
     · right
       have hlt:d<acc.length:=by
         rcases Nat.lt_or_ge d acc.length with h|h
         · exact h
         · rw[List.getD_eq_getElem?_getD,List.getElem?_eq_none h]at hx;simp at hx
       refine⟨hlt,?_⟩
       rw[hr]
       simp only[List.getD_eq_getElem?_getD,List.append_assoc,List.getElem?_append_left hlt]at hx ⊢
       exact hx
   · obtain⟨o',h1,d,hd,hx⟩:=LC l (acc++[Gh acc (EY o)]) j sO x h
     refine⟨o',?_,d,hd,hx⟩
     simp only[List.length_append,List.length_singleton]at h1
     rw[show j-acc.length=(j- (acc.length+1))+1 by omega]
     simpa using h1
def Sz(ops:Array Oper)(j x:Nat):Prop:=((CA ops.toList []).getD j 0).testBit x=true
theorem UE{j x:Nat}(h:Sz ops j x):j<ops.size:=by
 obtain⟨o,h1,_⟩:=LC ops.toList [] j sP x h
 simp at h1
 exact Bp h1
theorem Aek(L:Nat→Bool)(hL: ∀ (j:Nat) (o:Oper),ops[j]? =some o→L j=true→ ∀ e∈o.after.toList,Region.binds .any e=true→L e.on=true):
   ∀ (j:Nat) (o:Oper) (x:Nat),ops[j]? =some o→(∀ e∈o.after.toList,Region.binds .any e=true→L e.on=true)→Sz ops j x→L x=true:=by
 intro j
 induction j using Nat.strongRecOn with
 |_ j ih=>
   intro o x ho hpre h
   obtain⟨o',h1,d,hd,hx⟩:=LC ops.toList [] j sP x h
   simp at h1
   rw[ho]at h1
   simp at h1
   subst h1
   have hLd:L d=true:=by
     simp only[EY,List.mem_map,List.mem_filter]at hd
     obtain⟨e,⟨he,hb⟩,rfl⟩:=hd
     exact hpre e he hb
   rcases hx with rfl|⟨hlt,hx⟩
   · exact hLd
   · have hd':=UE hx
     exact ih d hlt ops[d] x (by simp[hd']) (hL d ops[d] (by simp[hd']) hLd) hx
def JF(ops:Array Oper)(a b:Oper):Bool:=
 (match a.dst with
  |some t=>(b.looksAt ops).contains t||b.dst==some t
  |none=>false)||
 (match b.dst with
  |some t=>(a.looksAt ops).contains t
  |none=>false)
def JW(ops:Array Oper)(m:Nat)(b:Oper):List Oper→Nat→Bool
 | [],_=>true
 |a::r,i=>(!JF ops a b||m.testBit i)&&JW ops m b r (i+1)
def MX(ops:Array Oper)(M:List Nat)(all:List Oper):List Oper→Nat→Bool
 | [],_=>true
 |b::r,j=>JW ops (M.getD j 0) b (all.take j) 0&&MX ops M all r (j+1)
def Mz:List Oper→Nat→Bool
 | [],_=>true
 |o::r,j=>(EY o).all (fun d=>decide (d<j))&&Mz r (j+1)
def FZ(N:Nat):List Oper→Bool
 | []=>true
 |o::r=>(match o.dst with|some d=>decide (d<N)|none=>true)&&FZ N r
def Ct(N:Nat)(ops:Array Oper)(draw:Bool):Bool:=
 FZ N ops.toList&&(!draw||(Mz ops.toList 0&&MX ops (CA ops.toList []) ops.toList ops.toList 0))
def BS(M:List Nat)(ts:List Touch):Bool:=
 ts.all fun x=>ts.all fun y=>x.1==y.1||!(x.2.2.any fun k=>y.2.1.contains k||y.2.2.contains k)||(if x.1<y.1 then(M.getD y.1 0).testBit x.1 else(M.getD x.1 0).testBit y.1)
theorem Kj{N:Nat}: ∀ {l:List Oper},FZ N l=true→ ∀ o∈l,∀ d,o.dst=some d→d<N
 | [],_,o,ho,_,_=>by simp at ho
 |a::r,h,o,ho,d,hd=>by
   simp only[FZ,Bool.and_eq_true]at h
   rcases List.mem_cons.1 ho with rfl|ho
   · have:=h.1;rw[hd]at this;simpa using this
   · exact Kj h.2 o ho d hd
theorem Mb: ∀ {l:List Oper} {j:Nat},Mz l j=true→ ∀ (k:Nat) (o:Oper),l[k]? =some o→ ∀ d∈EY o,d<j+k
 | [],_,_,k,o,ho,_,_=>by simp at ho
 |a::r,j,h,k,o,ho,d,hd=>by
   simp only[Mz,Bool.and_eq_true,List.all_eq_true,decide_eq_true_eq]at h
   cases k with
   |zero=>simp at ho;subst ho;have:=h.1 d hd;omega
   |succ k=>have:=Mb h.2 k o (by simpa using ho) d hd;omega
theorem Kp{m:Nat}{b:Oper}: ∀ {l:List Oper} {i:Nat},JW ops m b l i=true→ ∀ (k:Nat) (a:Oper),l[k]? =some a→JF ops a b=true→m.testBit (i+k)=true
 | [],_,_,k,a,ha,_=>by simp at ha
 |c::r,i,h,k,a,ha,hc=>by
   simp only[JW,Bool.and_eq_true]at h
   cases k with
   |zero=>simp at ha;subst ha;have:=h.1;rw[hc]at this;simpa using this
   |succ k=>have:=Kp h.2 k a (by simpa using ha) hc;rw[show i+(k+1)=i+1+k by omega];exact this
theorem Je{M:List Nat}{all:List Oper}: ∀ {l:List Oper} {j:Nat},MX ops M all l j=true→ ∀ (k:Nat) (b:Oper),l[k]? =some b→ ∀ (i:Nat) (a:Oper),i<j+k→all[i]? =some a→JF ops a b=true→(M.getD (j+k) 0).testBit i=true
 | [],_,_,k,b,hb,_,_,_,_,_=>by simp at hb
 |c::r,j,h,k,b,hb,i,a,hi,ha,hc=>by
   simp only[MX,Bool.and_eq_true]at h
   cases k with
   |zero=>
     simp at hb;subst hb
     have:=Kp h.1 i a (by rw[List.getElem?_take_of_lt oM];exact ha) hc
     simpa using this
   |succ k=>have:=Je h.2 k b (by simpa using hb) i a oM ha hc;rw[show j+(k+1)=j+1+k by omega];exact this
theorem Af2{f:Nat→Out}{N:Nat}(h:Ct N ops true=true){ts:List Touch}(ht:BS (CA ops.toList []) ts=true)(hts: ∀ j,j<ops.size→ ¬ ((f j).hr=[]∧(f j).hw=[])→(j,(f j).hr,(f j).hw.map (·.1))∈ts):Sep ops f (Sz ops):=by
 simp only[Ct,Bool.and_eq_true,Bool.not_true,Bool.false_or]at h
 obtain⟨_,_,hsl⟩:=h
 refine⟨?_,?_⟩
 · intro i j oi oj t hne hi hj hd hr
   rcases Nat.lt_or_gt_of_ne hne with hlt|hlt
   · left
     refine⟨hlt,?_⟩
     have:=Je hsl j oj (by simpa using hj) i oi oM (by simpa using hi) (by
       simp only[JF,hd,Bool.or_eq_true]
       left
       rcases hr with hr|hr
       · left;simpa using hr
       · right;simp[hr])
     simpa [Sz] using this
   · right
     refine⟨hlt,?_⟩
     have:=Je hsl i oi (by simpa using hi) j oj oM (by simpa using hj) (by
       simp only[JF,hd,Bool.or_eq_true]
       rcases hr with hr|hr
       · right;simpa using hr
       · left;rw[hr];simp)
     simpa [Sz] using this
 · intro i j x hne hi hj hx hr
   have h1: ¬ ((f i).hr=[]∧(f i).hw=[]):=fun h=>by rw[h.2]at hx;simp at hx
   have h2: ¬ ((f j).hr=[]∧(f j).hw=[]):=fun h=>by rw[h.1,h.2]at hr;simp at hr
   have m1:=hts i hi h1
   have m2:=hts j hj h2
   simp only[BS,List.all_eq_true]at ht
   have:=ht _ m1 _ m2
   simp only[Bool.or_eq_true,beq_iff_eq,Bool.not_eq_true']at this
   rcases this with (h|h)|h
   · exact absurd h hne
   · exfalso
     rw[Bool.eq_false_iff]at h
     apply h
     rw[List.any_eq_true]
     refine⟨x,hx,?_⟩
     rcases hr with hr|hr
     · simp[List.contains_iff_mem,hr]
     · rw[Bool.or_eq_true];right;rw[List.contains_iff_mem];exact hr
   · rcases Nat.lt_or_gt_of_ne hne with hlt|hlt
     · rw[if_pos hlt]at h;exact .inl ⟨hlt,h⟩
     · rw[if_neg oM]at h;exact .inr ⟨hlt,h⟩
theorem E3{C:Ctx}{Q:Exit→Act→World→Prop}(hT:B4 P T)(hm:P.follows .mixedOrders=true){s s':AS}{ts:List Touch}{p:Prop}{draw:Bool}(hrun:Bv P T orc n ops ops.toList 0 s [] True=some (s',ts,p))(hp:p)
   (hok:Ct C.N ops draw=true) (ht:draw=true→BS (CA ops.toList []) ts=true) {a:Act} {w:World} (h:Dt C n s.st a w) (hQ: ∀ a' w',Dt C (n+8*ops.size) s'.st a' w'→Q .normal a' w') {id:Nat}:
   (Code.region id ops draw).wpIn C.F 0 P Q a w:=by
 obtain⟨f,_,f2,f3,f4,_,f6⟩:=Rj (s0:=s.st) ops.toList 0 s [] True s' ts p (fun _=>{v:= .any}) sP hrun rfl
 obtain⟨_,hob⟩:=f4 hp
 simp only[Nat.zero_add,Array.length_toList]at f3 hob f6
 have hd:FZ C.N ops.toList=true:=by simp only[Ct,Bool.and_eq_true]at hok;exact hok.1
 have hrec:Rec P T orc n C.N ops f s.st:=⟨fun i o ho=>f2 i o oM ho,fun i hi=>hob i oM hi,fun i o d ho hdo=>Kj hd o (by rw[Array.mem_toList_iff];exact Array.mem_of_getElem? ho) d hdo⟩
 rw[f3]at hQ
 cases draw with
 |false=>exact Te hT hrec h hQ
 |true=>
   refine RJ hT hm hrec (Af2 hok (ht rfl) (fun j hj=>f6 j oM hj)) (Aek) (fun j x=>UE) ?_ h hQ
   intro j o ho e he hb
   simp only[Ct,Bool.and_eq_true,Bool.not_true,Bool.false_or]at hok
   have:=Mb hok.2.1 j o (by simpa using ho) e.on (by simp only[EY,List.mem_map,List.mem_filter];exact⟨e,⟨he,hb⟩,rfl⟩)
   omega
end
def AW(P:Program)(C:Ctx)(c:Code)(Q:Exit→Nat→AS→Prop)(n:Nat)(s:AS):Prop:=
 ∀ a w,Dt C n s.st a w→c.wpIn C.F 0 P (fun e a' w'=> ∃ n' s',Q e n' s'∧Dt C n' s'.st a' w') a w
def DZ(next:Nat→AS→Prop)(Q:Exit→Nat→AS→Prop):Exit→Nat→AS→Prop
 | .normal,n,s=>next n s
 |e,n,s=>Q e n s
def DL(id:Nat)(Q:Exit→Nat→AS→Prop):Exit→Nat→AS→Prop
 | .exit id',n,s=>if id'=id then Q .normal n s else Q (.exit id') n s
 |e,n,s=>Q e n s
section
variable {P : Program} {T : Tab} {C : Ctx} {Q : Exit → Nat → AS → Prop} {n : Nat} {s : AS}
theorem AW.skip(h:Q .normal n s):AW P C .skip Q n s:=fun a w hI=>wpIn_skip ⟨n,s,h,hI⟩
theorem AW.exit{id:Nat}(h:Q (.exit id) n s):AW P C (.exit id) Q n s:=fun a w hI=>wpIn_exit ⟨n,s,h,hI⟩
theorem AW.ret(h:Q .ret n s):AW P C .ret Q n s:=fun a w hI=>wpIn_ret ⟨n,s,h,hI⟩
theorem AW.seq{x y:Code}(h:AW P C x (DZ (AW P C y Q) Q) n s):AW P C (.seq x y) Q n s:=by
 intro a w hI
 refine wpIn_seq (wpIn_mono (h a w hI) ?_)
 rintro e a' w' ⟨n',s',hq,hI'⟩
 cases e with
 |normal=>exact hq a' w' hI'
 |exit id=>exact⟨n',s',hq,hI'⟩
 |goto l=>exact⟨n',s',hq,hI'⟩
 |ret=>exact⟨n',s',hq,hI'⟩
 |panic c=>exact⟨n',s',hq,hI'⟩
 |outgrown=>exact⟨n',s',hq,hI'⟩
theorem AW.cond{c:Operand}{x y:Code}{t:Bool}(hc:evA (lk s.env) c= .val (.bool t))(h:AW P C (if t then x else y) Q n s):AW P C (.cond c x y) Q n s:=by
 intro a w hI
 have:a.eval c= .bool t:=by
   obtain⟨β,hS,_⟩:=hI
   have:=DB hS.env c
   have e:evA s.st.env c= .val (.bool t):=hc
   rw[e]at this
   simpa [Rep] using this
 exact wpIn_cond this (h a w hI)
theorem AW.block{id:Nat}{c:Code}(h:AW P C c (DL id Q) n s):AW P C (.block id c) Q n s:=by
 intro a w hI
 refine wpIn_block (wpIn_mono (h a w hI) ?_)
 rintro e a' w' ⟨n',s',hq,hI'⟩
 cases e with
 |exit id'=>
   simp only[Exit.inBlock,DL]at hq ⊢
   split
   · rename_i he;rw[if_pos he]at hq;exact⟨n',s',hq,hI'⟩
   · rename_i he;rw[if_neg he]at hq;exact⟨n',s',hq,hI'⟩
 |normal=>exact⟨n',s',hq,hI'⟩
 |goto l=>exact⟨n',s',hq,hI'⟩
 |ret=>exact⟨n',s',hq,hI'⟩
 |panic c=>exact⟨n',s',hq,hI'⟩
 |outgrown=>exact⟨n',s',hq,hI'⟩
theorem Wo{R:Nat→Prop}(h: ∃ m,R m): ∃ m,R m∧ ∀ k,R k→m≤k:=by
 obtain⟨m,hm⟩:=h
 induction m using Nat.strongRecOn with
 |_ m ih=>
   by_cases hk: ∃ k,k<m∧R k
   · obtain⟨k,h1,h2⟩:=hk;exact ih k h1 h2
   · exact⟨m,hm,fun k hk'=>by rcases Nat.lt_or_ge k m with h|h;exact absurd ⟨k,h,hk'⟩ hk;exact h⟩
theorem AW.loop{c:Code}(J:Nat→Nat→AS→Prop){m:Nat}(h0:J m n s)(hr: ∀ m n s,J m n s→AW P C c (DZ (fun n' s'=> ∃ m',m'<m∧J m' n' s') Q) n s):AW P C (.loop c) Q n s:=by
 intro a w hI
 let R:Act→World→Nat→Prop:=fun a w m=> ∃ n s,J m n s∧Dt C n s.st a w
 let μ:Act→World→Nat:=fun a w=>open Classical in if h: ∃ m,R a w m then Classical.choose (Wo h)else 0
 have hμ: ∀ a w,(∃ m,R a w m)→R a w (μ a w)∧ ∀ k,R a w k→μ a w≤k:=by
   intro a w h
   have e:μ a w=Classical.choose (Wo h):=by simp only[μ,dif_pos h]
   rw[e];exact Classical.choose_spec (Wo h)
 refine wpIn_loop (fun a w=> ∃ m,R a w m) μ ⟨m,n,s,h0,hI⟩ ?_
 intro a w hR
 obtain⟨⟨n1,s1,hJ,hI1⟩,_⟩:=hμ a w hR
 refine wpIn_mono (hr _ n1 s1 hJ a w hI1) ?_
 rintro e a' w' ⟨n',s',hq,hI'⟩
 cases e with
 |normal=>
   obtain⟨m',hlt,hJ'⟩:=hq
   have hR':R a' w' m':=⟨n',s',hJ',hI'⟩
   exact⟨⟨m',hR'⟩,Nat.lt_of_le_of_lt ((hμ a' w' ⟨m',hR'⟩).2 m' hR') hlt⟩
 |exit id=>exact⟨n',s',hq,hI'⟩
 |goto l=>exact⟨n',s',hq,hI'⟩
 |ret=>exact⟨n',s',hq,hI'⟩
 |panic c=>exact⟨n',s',hq,hI'⟩
 |outgrown=>exact⟨n',s',hq,hI'⟩
theorem AW.mono{c:Code}{Q':Exit→Nat→AS→Prop}(h:AW P C c Q n s)(hq: ∀ e n s,Q e n s→Q' e n s):AW P C c Q' n s:=
 fun a w hI=>wpIn_mono (h a w hI) (fun e a' w' ⟨n',s',h1,h2⟩=>⟨n',s',hq _ _ _ h1,h2⟩)
theorem ZW{X:Nat→Prop}{w:World}{β:Gm}{hp hp':Hp}(hg:Good X w β hp)(hs: ∀ i e,hp' i=some e→hp i=some e):Good X w β hp'∧Frm w (Own X β hp) w (Own X β hp'):=by
 have hO: ∀ b,Own X β hp' b→Own X β hp b:=by
   rintro b (h|⟨i,e,hi,hb⟩)
   · exact .inl h
   · exact .inr ⟨i,e,hs i e hi,hb⟩
 have hf:Frm w (Own X β hp) w (Own X β hp'):=⟨rfl,rfl,rfl,Nat.le_refl _,fun _ _ _=>rfl,fun b hb=> .inl (hO b hb),fun _ _ h=>h⟩
 exact⟨Hr hg hf (CR _) (fun i j e f b hi hj=>hg.inj i j e f b (hs i e hi) (hs j f hj)) (fun j e hj=> .inr ⟨hs j e hj,fun _ _=>rfl⟩) (fun j e b hj=>hg.xdis j e b (hs j e hj)),hf⟩
theorem Dt.sub{s':St}{st:St}{a:Act}{w:World}(h:Dt C n st a w)(he: ∀ t,s'.env t=st.env t∨s'.env t= .any)(hh: ∀ i e,s'.hp i=some e→st.hp i=some e):Dt C n s' a w:=by
 obtain⟨β,hS,hn⟩:=h
 obtain⟨hg,hf⟩:=ZW hS.good hh
 refine⟨β,⟨hg,fun t=>?_,hS.size,hS.defers.frm hf,hS.frm.trans hf,hS.keepX,hS.ext⟩,hn⟩
 rcases he t with h|h
 · rw[h];exact Rep.mono (hf.stab (CR _)) _ _ (hS.env t)
 · rw[h];simp[Rep]
def IC:List AV→List Nat
 | []=>[]
 | .osl i _ _::r=>i::IC r
 | .ptr i _ _ _::r=>i::IC r
 |_::r=>IC r
def LI(hp:List (Nat×Option Ent)):AV→List Nat
 | .osl i _ _=>[i]
 | .ptr i _ _ _=>i::(match lkh hp i with
   |some e=>match e.es with
     | [cs]=>IC cs
     |_=>[]
   |none=>[])
 | .agg cs=>IC cs
 | .tup cs=>IC cs
 | .fn _ _ cs=>IC cs
 |_=>[]
def OK(l:List Nat):List Nat→List Nat
 | []=>l
 |x::r=>if x∈l then OK l r else OK (x::l) r
def VK(hp:List (Nat×Option Ent)):List (Nat×AV)→List Nat→List Nat
 | [],acc=>acc
 |(_,a)::r,acc=>VK hp r (OK acc (LI hp a))
def EB(env:List (Nat×AV)):List Nat→List (Nat×AV)
 | []=>[]
 |t::r=>(t,lk env t)::EB env r
def Mv(hp:List (Nat×Option Ent)):List Nat→List (Nat×Option Ent)
 | []=>[]
 |i::r=>(i,lkh hp i)::Mv hp r
def trim(keep:List Nat)(s:AS):AS:=⟨EB s.env keep,Mv s.hp (VK s.hp (EB s.env keep) [])⟩
theorem SJ(env:List (Nat×AV)): ∀ (l:List Nat) (t:Nat),lk (EB env l) t=lk env t∨lk (EB env l) t= .any
 | [],t=> .inr rfl
 |u::r,t=>by
   simp only[EB,lk]
   split
   · rename_i h;subst h;exact .inl rfl
   · exact SJ env r t
theorem R6(hp:List (Nat×Option Ent)): ∀ (l:List Nat) (i:Nat) (e:Ent),lkh (Mv hp l) i=some e→lkh hp i=some e
 | [],i,e,h=>by simp[Mv,lkh]at h
 |j::r,i,e,h=>by
   simp only[Mv,lkh]at h
   split at h
   · rename_i he;subst he;exact h
   · exact R6 hp r i e h
theorem Dt.trim{a:Act}{w:World}(keep:List Nat)(h:Dt C n s.st a w):Dt C n (Av.trim keep s).st a w:=
 h.sub (fun t=>SJ s.env keep t) (fun i e hi=>R6 s.hp _ i e hi)
theorem AW.region(hT:B4 P T)(hm:P.follows .mixedOrders=true){orc:Nat→Option Orc}{id:Nat}{ops:Array Oper}{draw:Bool}{N:Nat}(hN:C.N=N)(hok:Ct N ops draw=true)(keep:List Nat){s':AS}{ts:List Touch}{p:Prop}
   (hrun:Bv P T orc n ops ops.toList 0 s [] True=some (s',ts,p)) (ht:(!draw||BS (CA ops.toList []) ts)=true) (hp:p) (hQ:Q .normal (n+8*ops.size) (trim keep s')):AW P C (.region id ops draw) Q n s:=by
 intro a w hI
 subst hN
 refine E3 hT hm hrun hp hok (fun h=>by subst h;simpa using ht) hI ?_
 intro a' w' hI'
 exact⟨_,_,hQ,hI'.trim keep⟩
end
mutual
def wk(hp:Hp)(ids:List (Option Nat))(D:List Nat):AV→AV→Prop
 |_,.any=>True
 |c,.val v=>c= .val v
 |c,.agg as=> ∃ cs,c= .agg cs∧wkL hp ids D cs as
 |c,.tup as=> ∃ cs,c= .tup cs∧wkL hp ids D cs as
 |c,.fn f k as=> ∃ cs,c= .fn f k cs∧wkL hp ids D cs as
 |c,.sl sz es=>c= .sl sz es∨(∃ i n e,c= .osl i n sz∧i∈D∧hp i=some e∧e.es.length=n∧e.sz=sz∧es=e.es∧AB 0 e.es=true)∨(c= .val (.slice none 0 0)∧es=[])
 |c,.rp cs=>c= .rp cs∨ ∃ i sz k off e c',c= .ptr i sz k off∧i∈D∧hp i=some e∧e.es[k]? =some c'∧e.sz=sz∧cs=c'.drop off∧AB 0 e.es=true
 |c,.osl i n sz=>(∃ j,ids[i]? =some (some j)∧c= .osl j n sz)∨(ids[i]? =some none∧c= .val (.slice none 0 0)∧n=0)
 |c,.ptr i sz k off=> ∃ j,ids[i]? =some (some j)∧c= .ptr j sz k off
 |c,.osv i lo n sz=> ∃ j,ids[i]? =some (some j)∧c= .osv j lo n sz
def wkL(hp:Hp)(ids:List (Option Nat))(D:List Nat):List AV→List AV→Prop
 |cs,[]=>cs=[]
 |cs,a::as=> ∃ c r,cs=c::r∧wk hp ids D c a∧wkL hp ids D r as
end
def wkE(hp:Hp)(ids:List (Option Nat))(D:List Nat):List (List AV)→List (List AV)→Prop
 |cs,[]=>cs=[]
 |cs,a::as=> ∃ c r,cs=c::r∧wkL hp ids D c a∧wkE hp ids D r as
def Ak(hp:Hp)(ids:List (Option Nat))(D:List Nat)(e e':Ent):Prop:=
 e'.ty=e.ty∧e'.sz=e.sz∧((e'.es=e.es∧AB 0 e.es=true)∨wkE hp ids D e.es e'.es)
def AK(hp:Hp)(ids:List (Option Nat))(D:List Nat)(env:List (Nat×AV)):List (Nat×AV)→Prop
 | []=>True
 |(t,a)::r=>wk hp ids D (lk env t) a∧AK hp ids D env r
def Ai(hp:Hp)(ids:List (Option Nat))(D:List Nat)(i:Nat)(e':Ent):Prop:=
 (∃ j e,ids[i]? =some (some j)∧hp j=some e∧Ak hp ids D e e')∨(ids[i]? =some none∧e'.es=[])
def Am(hp:Hp)(ids:List (Option Nat))(D:List Nat):List (Nat×Option Ent)→Prop
 | []=>True
 |(_,none)::r=>Am hp ids D r
 |(i,some e')::r=>Ai hp ids D i e'∧Am hp ids D r
def Al(ids:List (Option Nat)):List (Nat×Option Ent)→List Nat
 | []=>[]
 |(_,none)::r=>Al ids r
 |(i,some _)::r=>match ids[i]? with
   |some (some j)=>j::Al ids r
   |_=>Al ids r
structure IdsOk(ids:List (Option Nat))(D:List Nat)(k:Nat)(l:List (Nat×Option Ent)):Prop where
 nd:(Al ids l).Nodup
 dis: ∀ j∈Al ids l,j∉D
 fst:ids.take k=(List.range k).map some
def CX(β:Gm)(ids:List (Option Nat)):Gm:=fun i=>match ids[i]? with
 |some (some j)=>β j
 |some none=>some none
 |none=>none
section core
variable {X : Nat → Prop} {w : World} {β : Gm} {hp hp' : Hp} {ids : List (Option Nat)} {D : List Nat} {k : Nat}
theorem Kt{ids:List (Option Nat)}: ∀ {l:List (Nat×Option Ent)} {i j:Nat} {e:Ent},lkh l i=some e→ids[i]? =some (some j)→j∈Al ids l
 | [],i,j,e,h,_=>by simp[lkh]at h
 |(i',none)::r,i,j,e,h,hj=>by
   simp only[lkh]at h
   split at h
   · simp at h
   · simp only[Al];exact Kt h hj
 |(i',some f)::r,i,j,e,h,hj=>by
   simp only[lkh]at h
   simp only[Al]
   split at h
   · rename_i he;subst he;simp[hj]
   · have:=Kt h hj
     split
     · exact List.mem_cons_of_mem _ this
     · exact this
theorem PH{ids:List (Option Nat)}: ∀ {l:List (Nat×Option Ent)},(Al ids l).Nodup→ ∀ {i i' j:Nat} {e e':Ent},lkh l i=some e→lkh l i'=some e'→ids[i]? =some (some j)→ids[i']? =some (some j)→i=i'
 | [],_,i,i',j,e,e',h,_,_,_=>by simp[lkh]at h
 |(k,none)::r,hnd,i,i',j,e,e',h,h',hj,hj'=>by
   simp only[lkh]at h h'
   split at h
   · simp at h
   · split at h'
     · simp at h'
     · exact PH (l:=r) hnd h h' hj hj'
 |(k,some f)::r,hnd,i,i',j,e,e',h,h',hj,hj'=>by
   have hnd':(Al ids r).Nodup:=by
     simp only[Al]at hnd
     split at hnd
     · exact(List.nodup_cons.1 hnd).2
     · exact hnd
   simp only[lkh]at h h'
   split at h
   · rename_i he
     split at h'
     · rename_i he';omega
     · subst he
       simp only[Al,hj]at hnd
       exact absurd (Kt h' hj') (List.nodup_cons.1 hnd).1
   · split at h'
     · rename_i he'
       subst he'
       simp only[Al,hj']at hnd
       exact absurd (Kt h hj) (List.nodup_cons.1 hnd).1
     · exact PH hnd' h h' hj hj'
theorem JK{l:List (Nat×Option Ent)}(hl:hp'=lkh l)(hg:Good X w β hp)(hi:IdsOk ids D k l)(hh: ∀ i e',hp' i=some e'→Ai hp ids D i e'):
   (∀ b,Own X (CX β ids) hp' b→Own X β hp b)∧(∀ c a v,wk hp ids D c a→Rep w β (Own X β hp) c v→Rep w (CX β ids) (Own X (CX β ids) hp') a v)∧Good X w (CX β ids) hp':=by
 have hlive: ∀ i e' b,hp' i=some e'→CX β ids i=some (some b)→ ∃ j e,ids[i]? =some (some j)∧hp j=some e∧Ak hp ids D e e'∧β j=some (some b)∧j∉D:=by
   intro i e' b he hb
   rcases hh i e' he with ⟨j,e,h1,h2,h3⟩|⟨h1,_⟩
   · refine⟨j,e,h1,h2,h3,by simpa [CX,h1] using hb,hi.dis j (Kt (by rw[← hl];exact he) h1)⟩
   · simp[CX,h1]at hb
 have hO: ∀ b,Own X (CX β ids) hp' b→Own X β hp b:=by
   rintro b (h|⟨i,e',he,hb⟩)
   · exact .inl h
   · obtain⟨j,e,_,h2,_,h4,_⟩:=hlive i e' b he hb
     exact .inr ⟨j,e,h2,h4⟩
 have hD: ∀ i e b,i∈D→hp i=some e→β i=some (some b)→ ¬ Own X (CX β ids) hp' b:=by
   rintro i e b hiD he hb (h|⟨i',e',he',hb'⟩)
   · exact hg.xdis i e b he hb h
   · obtain⟨j,e2,_,h2,_,h4,h5⟩:=hlive i' e' b he' hb'
     exact h5 (hg.inj j i e2 e b h2 he h4 hb ▸ hiD)
 have hst:Stab w w β β (Own X β hp) (Own X (CX β ids) hp'):=⟨Nat.le_refl _,fun _ _ h=>h,fun _ _ h=>h,fun b _ h=>⟨.inl rfl,fun h'=>h (hO b h')⟩⟩
 have key: ∀ (a c:AV) (v:Value),wk hp ids D c a→Rep w β (Own X β hp) c v→Rep w (CX β ids) (Own X (CX β ids) hp') a v:=by
   intro a
   refine AV.rec (motive_1:=fun a=> ∀ (c:AV) (v:Value),wk hp ids D c a→Rep w β (Own X β hp) c v→Rep w (CX β ids) (Own X (CX β ids) hp') a v)
     (motive_2:=fun as=> ∀ (cs:List AV) (vs:List Value),wkL hp ids D cs as→AJ w β (Own X β hp) cs vs→AJ w (CX β ids) (Own X (CX β ids) hp') as vs)
     (motive_3:=fun _=>True) ?_ ?_ ?_ ?_ ?_ ?_ ?_ ?_ ?_ ?_ ?_ ?_ ?_ ?_ a
   · intro c v _ _;simp[Rep]
   · intro u c v h hr;simp only[wk]at h;subst h;simpa [Rep] using hr
   · intro as ih c v h hr
     simp only[wk]at h
     obtain⟨cs,rfl,h⟩:=h
     simp only[Rep]at hr ⊢
     obtain⟨vs,rfl,hl⟩:=hr
     exact⟨vs,rfl,ih cs vs h hl⟩
   · intro as ih c v h hr
     simp only[wk]at h
     obtain⟨cs,rfl,h⟩:=h
     simp only[Rep]at hr ⊢
     obtain⟨vs,rfl,hl⟩:=hr
     exact⟨vs,rfl,ih cs vs h hl⟩
   · intro sz es _ c v h hr
     simp only[wk]at h
     rcases h with rfl|⟨i,n,e,rfl,hiD,he,hn,hsz,rfl,hid⟩|⟨rfl,rfl⟩
     · have:=Rep.mono hst _ _ hr
       simpa only[Rep] using this
     · simp only[Rep]at hr ⊢
       rcases hr with ⟨h1,rfl,rfl⟩|⟨b,cap,T',m,h1,rfl,h2,h3,h4⟩
       · exact .inl ⟨rfl,List.eq_nil_of_length_eq_zero hn⟩
       · rcases hg.ent i e he with ⟨hb',_⟩|⟨b',c,fr,vs,rest,hb',hh',hfr,hc,hre⟩
         · rw[h1]at hb';simp at hb'
         · obtain rfl:b=b':=by rw[h1]at hb';simpa using hb'
           subst hn
           refine .inr ⟨b,0,cap,vs,rfl,h2,Bp hh',hD i e b hiD he h1,CZ hh' hc,?_⟩
           rw[← hsz]
           exact Hk hid (AI.mono hst _ _ _ hre)
     · simp only[Rep]at hr ⊢
       exact .inl ⟨hr,trivial⟩
   · intro cs _ c v h hr
     simp only[wk]at h
     rcases h with rfl|⟨i,sz,k',off,e,c',rfl,hiD,he,hk',hsz,rfl,hid⟩
     · have:=Rep.mono hst _ _ hr
       simpa only[Rep] using this
     · simp only[Rep]at hr ⊢
       obtain⟨b,h1,rfl⟩:=hr
       rcases hg.ent i e he with ⟨hb',_⟩|⟨b',c,fr,vs,rest,hb',hh',hfr,hc,hre⟩
       · rw[h1]at hb';simp at hb'
       · obtain rfl:b=b':=by rw[h1]at hb';simpa using hb'
         subst hsz
         have hre':=Hk hid (AI.mono hst _ _ _ hre)
         obtain⟨v1,u,v2,rfl,hv1,hu,_⟩:=AI.at hre' k' c' hk'
         have hcb:Cl w b 0 (v1++u++v2):=CZ hh' hc
         have hu2:AJ w β0 (Own X (CX β ids) hp') (c'.take off++c'.drop off) u:=by rw[List.take_append_drop];exact hu
         obtain⟨u1,u2,rfl,g1,g2⟩:=AJ.split hu2
         by_cases hoff:off≤c'.length
         · have hu1:u1.length=off:=by rw[← g1.length,List.length_take];omega
           refine⟨b,k'*e.sz+off,u2,rfl,Bp hh',hD i e b hiD he h1,?_,g2⟩
           intro j x hx
           have:=hcb (k'*e.sz+off+j) x (by
             rw[List.append_assoc,List.append_assoc,List.getElem?_append_right oM,List.getElem?_append_right oM,List.getElem?_append_left (by have:=List.getElem?_eq_some_iff.1 hx;have:=this.1;omega)]
             rw[← hx];congr 1;omega)
           simpa using this
         · rw[List.drop_of_length_le oM]at g2 ⊢
           simp only[AJ]at g2
           subst g2
           exact⟨b,k'*e.sz+off,[],rfl,Bp hh',hD i e b hiD he h1,fun j x hx=>by simp at hx,by simp[AJ]⟩
   · intro i n sz c v h hr
     simp only[wk]at h
     rcases h with ⟨j,h1,rfl⟩|⟨h1,rfl,rfl⟩
     · simp only[Rep,CX,h1]at hr ⊢;exact hr
     · simp only[Rep,CX,h1]at hr ⊢;exact .inl ⟨trivial,hr,trivial⟩
   · intro i sz k' off c v h hr
     simp only[wk]at h
     obtain⟨j,h1,rfl⟩:=h
     simp only[Rep,CX,h1]at hr ⊢;exact hr
   · intro i lo n sz c v h hr
     simp only[wk]at h
     obtain⟨j,h1,rfl⟩:=h
     simp only[Rep,CX,h1]at hr ⊢;exact hr
   · intro f k' as ih c v h hr
     simp only[wk]at h
     obtain⟨cs,rfl,h⟩:=h
     simp only[Rep]at hr ⊢
     obtain⟨vs,rfl,hl⟩:=hr
     exact⟨vs,rfl,ih cs vs h hl⟩
   · intro cs vs h hr;simp only[wkL]at h;subst h;simpa [AJ] using hr
   · intro a as iha ihas cs vs h hr
     simp only[wkL]at h
     obtain⟨c,r,rfl,h1,h2⟩:=h
     simp only[AJ]at hr ⊢
     obtain⟨v,vr,rfl,g1,g2⟩:=hr
     exact⟨v,vr,rfl,iha c v h1 g1,ihas r vr h2 g2⟩
   · trivial
   · intros;trivial
 have keyL: ∀ (as cs:List AV) (vs:List Value),wkL hp ids D cs as→AJ w β (Own X β hp) cs vs→AJ w (CX β ids) (Own X (CX β ids) hp') as vs:=by
   intro as
   induction as with
   |nil=>intro cs vs h hr;simp only[wkL]at h;subst h;simpa [AJ] using hr
   |cons a as ih=>
     intro cs vs h hr
     simp only[wkL]at h
     obtain⟨c,r,rfl,h1,h2⟩:=h
     simp only[AJ]at hr ⊢
     obtain⟨v,vr,rfl,g1,g2⟩:=hr
     exact⟨v,vr,rfl,key a c v h1 g1,ih r vr h2 g2⟩
 have wkL_len: ∀ (as cs:List AV),wkL hp ids D cs as→as.length=cs.length:=by
   intro as
   induction as with
   |nil=>intro cs h;simp only[wkL]at h;subst h;rfl
   |cons a as ih=>intro cs h;simp only[wkL]at h;obtain⟨c,r,rfl,_,h2⟩:=h;simp[ih r h2]
 have keyE: ∀ (sz:Nat) (as cs:List (List AV)) (vs:List Value),wkE hp ids D cs as→AI w β (Own X β hp) sz cs vs→AI w (CX β ids) (Own X (CX β ids) hp') sz as vs:=by
   intro sz as
   induction as with
   |nil=>intro cs vs h hr;simp only[wkE]at h;subst h;simpa [AI] using hr
   |cons a as ih=>
     intro cs vs h hr
     simp only[wkE]at h
     obtain⟨c,r,rfl,h1,h2⟩:=h
     simp only[AI]at hr ⊢
     obtain⟨v,vr,rfl,g0,g1,g2⟩:=hr
     exact⟨v,vr,rfl,by rw[wkL_len a c h1];exact g0,keyL a c v h1 g1,ih r vr h2 g2⟩
 refine⟨hO,fun c a v=>key a c v,?_,?_,?_,hg.xlt,hg.laid.1,fun b hb=>⟨(hg.laid.2 b hb).1,fun h=>(hg.laid.2 b hb).2 (hO b h)⟩⟩
 · intro i i' e e' b hi1 hi2 hb1 hb2
   obtain⟨j,f,h1,h2,_,h4,_⟩:=hlive i e b hi1 hb1
   obtain⟨j',f',h1',h2',_,h4',_⟩:=hlive i' e' b hi2 hb2
   have:=hg.inj j j' f f' b h2 h2' h4 h4'
   subst this
   exact PH hi.nd (by rw[← hl];exact hi1) (by rw[← hl];exact hi2) h1 h1'
 · intro i e' he'
   rcases hh i e' he' with ⟨j,e,h1,h2,hty,hsz,hes⟩|⟨h1,h2⟩
   · have hgm:CX β ids i=β j:=by simp[CX,h1]
     rw[hgm]
     rcases hg.ent j e h2 with ⟨g1,g2⟩|⟨b,c,fr,vs,rest,g1,g2,g3,g4,g5⟩
     · refine .inl ⟨g1,?_⟩
       rcases hes with ⟨h,_⟩|h
       · rw[h,g2]
       · rw[g2]at h
         cases hx:e'.es with
         |nil=>rfl
         |cons a as=>rw[hx]at h;simp only[wkE]at h;obtain⟨c,r,h,_⟩:=h;simp at h
     · refine .inr ⟨b,c,fr,vs,rest,g1,by rw[hty];exact g2,g3,g4,?_⟩
       rw[hsz]
       rcases hes with ⟨h,hid⟩|h
       · rw[h];exact(Hk hid (AI.mono hst _ _ _ g5)).up
       · exact keyE _ _ _ _ h g5
   · exact .inl ⟨by simp[CX,h1],h2⟩
 · intro i e b he hb
   obtain⟨j,f,_,h2,_,h4,_⟩:=hlive i e b he hb
   exact hg.xdis j f b h2 h4
end core
section rules
variable {P : Program} {T : Tab} {C : Ctx} {Q : Exit → Nat → AS → Prop} {n : Nat} {s : AS}
theorem NT{hp:Hp}{ids:List (Option Nat)}{D:List Nat}{env:List (Nat×AV)}: ∀ {l:List (Nat×AV)},AK hp ids D env l→ ∀ t,wk hp ids D (lk env t) (lk l t)
 | [],_,t=>by simp[lk,wk]
 |(u,a)::r,h,t=>by
   simp only[AK]at h
   simp only[lk]
   split
   · rename_i he;subst he;exact h.1
   · exact NT h.2 t
theorem KA{hp:Hp}{ids:List (Option Nat)}{D:List Nat}: ∀ {l:List (Nat×Option Ent)},Am hp ids D l→ ∀ i e,lkh l i=some e→Ai hp ids D i e
 | [],_,i,e,h=>by simp[lkh]at h
 |(j,none)::r,hw,i,e,h=>by
   simp only[Am]at hw
   simp only[lkh]at h
   split at h
   · simp at h
   · exact KA hw i e h
 |(j,some f)::r,hw,i,e,h=>by
   simp only[Am]at hw
   simp only[lkh]at h
   split at h
   · rename_i he;subst he;simp at h;subst h;exact hw.1
   · exact KA hw.2 i e h
theorem So{β:Gm}{ids:List (Option Nat)}{D:List Nat}{l:List (Nat×Option Ent)}(hi:IdsOk ids D C.k l)(h:Cp C.βi β):Cp C.βi (CX β ids):=by
 intro i p hp
 have hlt:i<C.k:=by
   rcases Nat.lt_or_ge i C.k with h|h
   · exact h
   · rw[C.hk i h]at hp;cases hp
 have:ids[i]? =some (some i):=by
   have h1:(ids.take C.k)[i]? =some (some i):=by rw[hi.fst];simp[hlt]
   rwa [List.getElem?_take_of_lt hlt]at h1
 simp only[CX,this]
 exact h i p hp
theorem Lo{w:World}{O O':Nat→Prop}(h: ∀ b,O' b→O b):Frm w O w O':=⟨rfl,rfl,rfl,Nat.le_refl _,fun _ _ _=>rfl,fun b hb=> .inl (h b hb),fun _ _ h=>h⟩
theorem AW.weak{c:Code}(ids:List (Option Nat))(D:List Nat)(n':Nat)(s':AS){k:Nat}(hk:C.k=k)(hi:IdsOk ids D k s'.hp)(hn:ids.length≤n')(he:AK (lkh s.hp) ids D s.env s'.env)(hh:Am (lkh s.hp) ids D s'.hp)
   (h:AW P C c Q n' s'):AW P C c Q n s:=by
 intro a w hI
 subst hk
 refine h a w ?_
 obtain⟨β,hS,hnn⟩:=hI
 obtain⟨hO,hrep,hgood⟩:=JK (hp':=lkh s'.hp) rfl hS.good hi (KA hh)
 refine⟨CX β ids,⟨hgood,fun t=>hrep _ _ _ (NT he t) (hS.env t),hS.size,?_,?_,hS.keepX,So hi hS.ext⟩,fun j hj=>?_⟩
 · exact EN.frm (Lo hO) hS.defers
 · exact hS.frm.trans (Lo hO)
 · simp only[CX]
   rw[List.getElem?_eq_none oM]
def AY(T:Tab)(s:AS):List ResultVar→Option (List AV×Prop)
 | []=>some ([],True)
 | .tmp t::r=>match AY T s r with
   |some (l,p)=>some (lk s.env t::l,p)
   |none=>none
 | .cell x t::r=>match Ic T (lkh s.hp) t (lk s.env x),AY T s r with
   |some o,some (l,p)=>some (o.v::l,o.ob∧p)
   |_,_=>none
def Az:List AV→AV
 | [a]=>a
 |l=> .tup l
def V1(tmps:Array Value):ResultVar→Sem Value
 | .tmp t=>pure (tmps.getD t undef)
 | .cell a t=>do loadVar t (← asAddr (tmps.getD a undef))
theorem VQ(fn:Func)(tmps:Array Value):results fn tmps=(do let vs ← fn.results.mapM (V1 tmps);pure (if h:vs.size=1 then vs[0]else .tuple vs)):=by
 unfold results
 refine congrArg (fun(f:ResultVar→Sem Value)=>(do let vs ← fn.results.mapM f;pure (if h:vs.size=1 then vs[0]else Value.tuple vs):Sem Value)) ?_
 funext x;cases x<;>rfl
theorem L2(hT:B4 P T){X:Nat→Prop}{w:World}{β:Gm}{tmps:Array Value}(hg:Good X w β (lkh s.hp))(henv:DH w β (Own X β (lkh s.hp)) (lk s.env) tmps):
   ∀ (rs:List ResultVar) (l:List AV) (p:Prop),AY T s rs=some (l,p)→p→ ∃ vs,(rs.mapM (V1 tmps):Sem (List Value)).run P w= .ok vs w∧AJ w β (Own X β (lkh s.hp)) l vs
 | [],l,p,h,hp=>by
   simp only[AY,Option.some.injEq,Prod.mk.injEq]at h
   obtain⟨rfl,rfl⟩:=h
   exact⟨[],rfl,by simp[AJ]⟩
 | .tmp t::r,l,p,h,hp=>by
   simp only[AY]at h
   split at h
   · rename_i l' p' hl
     simp only[Option.some.injEq,Prod.mk.injEq]at h
     obtain⟨rfl,rfl⟩:=h
     obtain⟨vs,h1,h2⟩:=L2 hT hg henv r l' p' hl hp
     refine⟨tmps.getD t undef::vs,?_,by simp only[AJ];exact⟨_,_,rfl,henv t,h2⟩⟩
     simp only[List.mapM_cons,V1,run_bind,run_pure,h1]
   · simp at h
 | .cell x t::r,l,p,h,hp=>by
   simp only[AY]at h
   split at h
   · rename_i o l' p' ho hl
     simp only[Option.some.injEq,Prod.mk.injEq]at h
     obtain⟨rfl,rfl⟩:=h
     obtain⟨vs,h1,h2⟩:=L2 hT hg henv r l' p' hl hp.2
     obtain⟨z,h3,h4,_⟩:=KL hT hg ho hp.1 (henv x)
     refine⟨z::vs,?_,by simp only[AJ];exact⟨_,_,rfl,h4,h2⟩⟩
     have h5:(do loadVar t (← asAddr (tmps.getD x undef)):Sem Value).run P w= .ok z w:=by
       simp only[Instr.loadAt]at h3
       simp only[run_bind]at h3 ⊢
       cases hv:tmps.getD x undef with
       |pointer a=>
         cases a with
         |none=>rw[hv]at h3;simp[Instr.sureAddr,stuck,Sem.run]at h3
         |some a=>rw[hv]at h3;simpa [Instr.sureAddr,asAddr,run_pure] using h3
       |_=>rw[hv]at h3;simp[Instr.sureAddr,stuck,Sem.run]at h3
     simp only[List.mapM_cons,V1,run_bind,h1,run_pure]
     simp only[run_bind]at h5
     rw[h5]
     simp only[h1]
   · simp at h
def Di(T:Tab)(rv:List ResultVar)(r:AV)(hs':List (Option Ent))(k:Nat):Exit→Nat→AS→Prop:=fun e _ s=>
 (e= .ret∨e= .normal)∧ ∃ l p ids D,AY T s rv=some (l,p)∧p∧IdsOk ids D k (hs'.zipIdx.map fun x=>(x.2,x.1))∧ids.length=hs'.length∧wk (lkh s.hp) ids D (Az l) r∧Am (lkh s.hp) ids D (hs'.zipIdx.map fun x=>(x.2,x.1))
def Ei:Nat→List AV→List (Nat×AV)
 |_,[]=>[]
 |i,a::r=>(i,a)::Ei (i+1) r
def FN:Nat→List (Option Ent)→List (Nat×Option Ent)
 |_,[]=>[]
 |i,a::r=>(i,a)::FN (i+1) r
theorem SV: ∀ (as:List AV) (i t:Nat),lk (Ei i as) t=if i≤t then(as[t-i]?).getD .any else .any
 | [],i,t=>by simp[Ei,lk]
 |a::as,i,t=>by
   simp only[Ei,lk]
   by_cases h:i=t
   · subst h;simp
   · rw[if_neg h,SV as (i+1) t]
     by_cases h1:i≤t
     · rw[if_pos oM,if_pos h1,show t-i=(t- (i+1))+1 by omega];simp
     · rw[if_neg oM,if_neg h1]
theorem Sw: ∀ (hs:List (Option Ent)) (i j:Nat),lkh (FN i hs) j=if i≤j then(hs[j-i]?).join else none
 | [],i,j=>by simp[FN,lkh]
 |a::as,i,t=>by
   simp only[FN,lkh]
   by_cases h:i=t
   · subst h;simp
   · rw[if_neg h,Sw as (i+1) t]
     by_cases h1:i≤t
     · rw[if_pos oM,if_pos h1,show t-i=(t- (i+1))+1 by omega];simp
     · rw[if_neg oM,if_neg h1]
theorem Mf: ∀ (hs:List (Option Ent)) (i j:Nat),lkh ((hs.zipIdx i).map fun x=>(x.2,x.1)) j=if i≤j then(hs[j-i]?).join else none
 | [],i,j=>by simp[lkh]
 |a::as,i,t=>by
   simp only[List.zipIdx_cons,List.map_cons,lkh]
   by_cases h:i=t
   · subst h;simp
   · rw[if_neg h,Mf as (i+1) t]
     by_cases h1:i≤t
     · rw[if_pos oM,if_pos h1,show t-i=(t- (i+1))+1 by omega];simp
     · rw[if_neg oM,if_neg h1]
theorem InvS.shut{β:Gm}{st:St}{a:Act}{w:World}{d:Deferred}{ds:List Deferred}(hS:InvS C β st a w)(hd:a.defers=d::ds)(hCm:C.w0.heap.size≤C.m):
   ∃ D,d.target= .collected D∧(Instr.takeDeferred D).run P w= .ok [] (w.putObj D (.deferred none))∧InvS C β st {a with defers:=ds} (w.putObj D (.deferred none)):=by
 have hm:=hS.defers
 rw[hd]at hm
 obtain⟨⟨D,rfl,hmD,hOD,hhD,hne⟩,hm⟩:=hm
 have hlt:D<w.heap.size:=Bp hhD
 have hoth: ∀ b,b≠D→(w.putObj D (.deferred none)).heap[b]? =w.heap[b]? :=fun b hb=>World.putObj_heap_other hb
 have hcell: ∀ o,w.cell? ⟨D,o,none⟩=none:=fun o=>by simp[World.cell?,hhD]
 have hst:Stab w (w.putObj D (.deferred none)) β β (Own C.X β st.hp) (Own C.X β st.hp):=by
   refine⟨sP,fun _ _ h=>h,fun b s hs=>?_,fun b hb hO=>⟨?_,hO⟩⟩
   · by_cases h:b=D
     · subst h;simp[World.shape?,hhD]at hs
     · simp only[World.shape?,hoth b h]at hs ⊢;exact hs
   · by_cases h:b=D
     · subst h;exact .inr hcell
     · exact .inl (hoth b h)
 have hkp: ∀ b,Own C.X β st.hp b→(w.putObj D (.deferred none)).heap[b]? =w.heap[b]? :=fun b hb=>hoth b (fun h=>hOD (h ▸ hb))
 have hlw: ∀ b,lwB b→(w.putObj D (.deferred none)).heap[b]? =w.heap[b]? :=fun b hb=>hoth b (fun h=>by
   subst h
   obtain⟨c,t,fr,hc⟩:=Uu hS.good.laid.1 _ hb
   rw[hhD]at hc;cases hc)
 refine⟨D,rfl,run_takeDeferred hhD,⟨⟨hS.good.inj,fun i e hi=>(hS.good.ent i e hi).mono hst (fun b hb=>hkp b (.inr ⟨i,e,hi,hb⟩)),hS.good.xdis,fun b hb=>by simpa using hS.good.xlt b hb,OJ hlw hS.good.laid.1,fun b hb=>by simpa using hS.good.laid.2 b hb⟩,
   fun t=>Rep.mono hst _ _ (hS.env t),hS.size,?_,⟨hS.frm.os,hS.frm.tape,hS.frm.output,by simpa using hS.frm.size,fun b hb ho=>(hoth b oM).trans (hS.frm.same b hb ho),hS.frm.own,fun b s hs=>hst.shape b s (hS.frm.shape b s hs)⟩,fun b hb=>(hkp b (.inl hb)).trans (hS.keepX b hb),hS.ext⟩⟩
 show EN _ _ _ ds
 clear hd
 induction ds with
 |nil=>trivial
 |cons e ds ih=>
   obtain⟨⟨E,rfl,h1,h2,h3,h4⟩,h5⟩:=hm
   have hE:E≠D:=fun h=>hne ⟨.collected E,#[]⟩ sP (by rw[h])
   exact⟨⟨E,rfl,h1,h2,(hoth E hE).trans h3,h4⟩,ih h5 (fun e he=>hne e (List.mem_cons_of_mem _ he))⟩
def Y9(C:Ctx)(r:AV)(hs':List (Option Ent)):Ending→World→Prop:=fun e w'=> ∃ v' β'',e= .returned v'∧Rep w' β'' (Own C.X β'' (hpL hs')) r v'∧Good C.X w' β'' (hpL hs')∧
 Frm C.w0 C.O0 w' (Own C.X β'' (hpL hs'))∧(∀ b,C.X b→w'.heap[b]? =C.w0.heap[b]?)∧Cp C.βi β''∧(∀ i,hs'.length≤i→β'' i=none)
theorem Vi(hT:B4 P T){fn:Func}{r:AV}{hs':List (Option Ent)}{rv:List ResultVar}(hrv:fn.results=rv.toArray)(hCm:C.w0.heap.size≤C.m){e:Exit}{a':Act}{w':World}{n':Nat}{s':AS}{β':Gm}(hq:Di T rv r hs' C.k e n' s')(hS:InvS C β' s'.st a' w'):
   bodyPostM Fence.wide 0 P fn (Y9 C r hs') e a' w':=by
 obtain⟨he,l,p,ids,D,hl,hp,hids,hlen',hwk,hwh⟩:=hq
 have fin: ∀ (a':Act) (w':World),InvS C β' s'.st a' w'→ ∃ v,(results fn a'.tmps).run P w'= .ok v w'∧Y9 C r hs' (.returned v) w':=by
   intro a' w' hS
   obtain⟨vs',h1,h2⟩:=L2 (s:=s') hT hS.good hS.env rv l p hl hp
   have hrun:(results fn a'.tmps).run P w'= .ok (if h:vs'.toArray.size=1 then vs'.toArray[0]else .tuple vs'.toArray) w':=by
     rw[VQ,hrv,run_bind,Array.mapM_eq_mapM_toList]
     have e1: ∀ (m:Sem (List Value)),(Functor.map List.toArray m).run P w'=(m >>= fun a=>pure a.toArray).run P w':=fun m=>rfl
     rw[e1,run_bind,show rv.toArray.toList=rv from rfl,h1]
     simp only[run_pure]
   refine⟨_,hrun,_,CX β' ids,rfl,?_⟩
   have hhp':lkh (hs'.zipIdx.map fun x=>(x.2,x.1))=hpL hs':=by funext j;rw[Mf];simp[hpL]
   obtain⟨hO,hrep,hgood'⟩:=JK (hp':=hpL hs') hhp'.symm hS.good hids (fun i e' he'=>KA hwh i e' (by rw[hhp'];exact he'))
   refine⟨hrep _ _ _ hwk ?_,hgood',?_,hS.keepX,So (C:=C) hids hS.ext,fun i hi=>?_⟩
   · have hll:=h2.length
     match l,vs',h2,hll with
     | [],[],h2,_=>simp only[Az,Rep];exact⟨[],rfl,h2⟩
     | [a],[v],h2,_=>
       simp only[AJ]at h2
       obtain⟨v',r',h3,h4,_⟩:=h2
       simp at h3
       obtain⟨rfl,_⟩:=h3
       show Rep w' β' (Own C.X β' (lkh s'.hp)) a v
       exact h4
     |a::b::l,v::u::vs',h2,_=>
       simp only[Az,Rep]
       exact⟨v::u::vs',sP,h2⟩
   · exact hS.frm.trans (Lo hO)
   · simp only[CX];rw[List.getElem?_eq_none oM]
 have all: ∀ (ds:List Deferred) (a':Act) (w':World),a'.defers=ds→InvS C β' s'.st a' w'→LeavesInM Fence.wide 0 P fn a'.tmps (Y9 C r hs') ds .returning w':=by
   intro ds
   induction ds with
   |nil=>intro a' w' _ hS;exact fin a' w' hS
   |cons d ds ih=>
     intro a' w' hd hS
     obtain⟨D,h1,h2,h3⟩:=hS.shut (P:=P) hd hCm
     exact⟨sP,.inl ⟨D,_,h1,h2,ih {a' with defers:=ds} _ rfl h3⟩⟩
 rcases he with rfl|rfl
 · exact all _ a' w' rfl hS
 · exact all _ a' w' rfl hS
theorem Si{w:World}{β:Gm}{O:Nat→Prop}{as:List AV}{vs:List Value}(hargs:AJ w β O as vs)(N:Nat):DH w β O (lk (Ei 0 as)) (vs.toArray++Array.replicate (N-vs.toArray.size) undef):=by
 intro t
 simp only[SV,Nat.zero_le,if_true,Nat.sub_zero]
 cases ha:as[t]? with
 |none=>simp[Rep]
 |some a=>
   obtain⟨u,hu,hr⟩:=hargs.get t a ha
   have hlt:t<vs.length:=by
     rcases Nat.lt_or_ge t vs.length with h|h
     · exact h
     · rw[List.getElem?_eq_none h]at hu;cases hu
   have:(vs.toArray++Array.replicate (N-vs.toArray.size) undef).getD t undef=u:=by
     rw[Array.getD_eq_getD_getElem?,Array.getElem?_append_left (by simpa using hlt)]
     simp[hu]
   rw[this]
   simpa using hr
theorem Tj(hT:B4 P T){g:FuncId}{fn:Func}{c:Code}(hf:P.funcs[g]? =some fn)(hb:fn.body=some c)(hname:(fn.name== "runtime.NumGoroutine")=false){as:List AV}{hs hs':List (Option Ent)}{r:AV}{N:Nat}(hN:fn.ntmps=N)(has:as.length≤N)
   {rv:List ResultVar} (hrv:fn.results=rv.toArray)
   (h: ∀ C:Ctx,C.N=N→C.k=hs.length→C.y=none→AW P C c (Di T rv r hs' hs.length) hs.length ⟨Ei 0 as,FN 0 hs⟩):Ad P g as hs r hs':=by
 refine⟨⟨fn,hf,by rw[hb];rfl,hname⟩,?_⟩
 intro X w β vs hargs hgood hnone
 let C:Ctx:=⟨X,w,Own X β (hpL hs),β,N,hs.length,hnone,none,w.heap.size,Nat.le_refl _,sP,none,sP⟩
 have hlen:=hargs.length
 have hhp:lkh (FN 0 hs)=hpL hs:=by funext j;rw[Sw];simp[hpL]
 have hI:Dt C hs.length (⟨Ei 0 as,FN 0 hs⟩:AS).st {tmps:=vs.toArray++Array.replicate (fn.ntmps-vs.toArray.size) undef,defers:=[]} w:=by
   refine⟨β,⟨?_,?_,?_,trivial,?_,fun _ _=>rfl,CR _⟩,hnone⟩
   · simp only[AS.st,hhp];exact hgood
   · simp only[AS.st,hhp];exact Si hargs _
   · simp only[C,Array.size_append,List.size_toArray,Array.size_replicate];omega
   · simp only[AS.st,hhp];exact Gv _ _
 refine(callsIn_wide (n:=0)).1 (callsIn_of_wp_marks (F:=Fence.wide) hf hb trivial (wpIn_mono (h C rfl rfl rfl _ w hI) ?_))
 rintro e a' w' ⟨n',s',hq,β',hS,hn'⟩
 exact Vi (C:=C) hT hrv (Nat.le_refl _) hq hS
end rules
def SD(P:Program):TypeDesc→Bool
 | .struct fs=>fs.toList.all (fun f=>(P.info? f.type).isSome)
 |_=>true
def Ao(P:Program):Tab:=fun t=>
 match P.info? t,P.underlying t with
 |some i,some d=>match i.zero with
   |some z=>if z.cells.toList.length=i.size∧SD P d=true then some ⟨i.size,i.bytes,d,z.cells.toList⟩else none
   |none=>none
 |_,_=>none
theorem BU(P:Program):B4 P (Ao P):=by
 intro t ti h
 unfold Ao at h
 split at h
 · rename_i i d hi hd
   split at h
   · rename_i z hz
     split at h
     · rename_i hc
       simp only[Option.some.injEq]at h
       subst h
       refine⟨i,z,hi,rfl,rfl,hz,rfl,hd,hc.1,fun fs hfs f hf=>?_⟩
       simp only at hfs
       subst hfs
       have:=hc.2
       simp only[SD,List.all_eq_true]at this
       have:=this f hf
       cases hx:P.info? f.type with
       |none=>rw[hx]at this;simp at this
       |some j=>exact⟨j,rfl⟩
     · simp at h
   · simp at h
 · simp at h
def dsc(P:Program)(t:TypeId):TypeDesc:=match P.underlying t with
 |some d=>d
 |none=> .invalid
def Vw(P:Program)(T:Tab)(orc:Nat→Option Orc)(n:Nat)(ops:Array Oper)(draw:Bool)(keep:List Nat)(Q:Exit→Nat→AS→Prop)(s:AS):Prop:=
 match Bv P T orc n ops ops.toList 0 s [] True with
 |some (s',ts,p)=>(!draw||BS (CA ops.toList []) ts)=true∧p∧Q .normal (n+8*ops.size) (trim keep s')
 |none=>False
theorem Ags{P:Program}{C:Ctx}{Q:Exit→Nat→AS→Prop}{n:Nat}{s:AS}(hm:P.follows .mixedOrders=true){N:Nat}(hN:C.N=N)(orc:Nat→Option Orc)(keep:List Nat){id:Nat}{ops:Array Oper}{draw:Bool}(hok:Ct N ops draw=true)
   (h:Vw P (Ao P) orc n ops draw keep Q s):AW P C (.region id ops draw) Q n s:=by
 unfold Vw at h
 split at h
 · rename_i s' ts p hrun
   exact AW.region (BU P) hm hN hok keep hrun h.1 h.2.1 h.2.2
 · exact h.elim
end Go.Av
