/- Part 14 of the proof of PlanSkipsOnlyWhatCannotMatch. -/
import Derived.Test.YtpkhodjlnodagaaGreatDoorB12
import Derived.Test.YtpkhodjlnodagaaGreatDoorB13
set_option linter.unusedSimpArgs false
set_option linter.unusedVariables false
set_option linter.unusedSectionVars false
namespace Go.Av
section put
variable {X : Nat → Prop} {w : World} {β : Gm} {hp : Hp} {D : Nat} {O : Nat → Prop}
structure NC(w:World)(D:Nat):Prop where
 cell: ∀ o,w.cell? ⟨D,o,none⟩=none
 shape:w.shape? D=none
 lw: ∀ c t fr,w.heap[D]? ≠some (.cells c t fr)
theorem H2{r:Loop}(h:w.heap[D]? =some (.loop r)):NC w D:=⟨fun o=>by simp[World.cell?,h],by simp[World.shape?,h],fun c t fr=>by rw[h];simp⟩
theorem JC(o:Obj)(h:NC w D):Stab w (w.putObj D o) β β O O:=by
 refine⟨sP,fun _ _ h=>h,fun b s hs=>?_,fun b hb hO=>⟨?_,hO⟩⟩
 · by_cases hd:b=D
   · subst hd;rw[h.shape]at hs;cases hs
   · simp only[World.shape?,World.putObj_heap_other hd]at hs ⊢;exact hs
 · by_cases hd:b=D
   · subst hd;exact .inr h.cell
   · exact .inl (World.putObj_heap_other hd)
theorem NV(o:Obj)(h:NC w D)(hO: ¬ Own X β hp D)(hg:Good X w β hp):Good X (w.putObj D o) β hp:=by
 have hk: ∀ b,Own X β hp b→(w.putObj D o).heap[b]? =w.heap[b]? :=fun b hb=>World.putObj_heap_other (fun e=>hO (e ▸ hb))
 refine⟨hg.inj,fun i e hi=>(hg.ent i e hi).mono (JC o h) (fun b hb=>hk b (.inr ⟨i,e,hi,hb⟩)),hg.xdis,fun b hb=>by simpa using hg.xlt b hb,OJ (fun b hb=>World.putObj_heap_other (fun e=>?_)) hg.laid.1,fun b hb=>by simpa using hg.laid.2 b hb⟩
 subst e
 obtain⟨c,t,fr,hc⟩:=Uu hg.laid.1 _ hb
 exact h.lw c t fr hc
theorem LB{m:Nat}{o:Obj}{r:Loop}(h:w.heap[D]? =some (.loop r)): ∀ {ds:List Deferred},EN m w O ds→EN m (w.putObj D o) O ds
 | [],_=>trivial
 |d::ds,⟨⟨E,h1,h2,h3,h4,h5⟩,h6⟩=>by
   have hE:E≠D:=fun e=>by subst e;rw[h]at h4;simp at h4
   exact⟨⟨E,h1,h2,h3,(World.putObj_heap_other hE).trans h4,h5⟩,LB h h6⟩
theorem Ad1{w0:World}{O0:Nat→Prop}(o:Obj)(h:NC w D)(hf:Frm w0 O0 w O)(hD:w0.heap.size≤D):Frm w0 O0 (w.putObj D o) O:=
 ⟨hf.os,hf.tape,hf.output,by simpa using hf.size,fun b hb ho=>(World.putObj_heap_other oM).trans (hf.same b hb ho),hf.own,fun b s hs=>(JC (β:=β0) (O:=O) o h).shape b s (hf.shape b s hs)⟩
theorem Fz(o:Obj){b:Nat}(h:b<w.heap.size):(w.alloc o).heap[b]? =w.heap[b]? :=by
 show(w.heap.push o)[b]? =_
 rw[Array.getElem?_push,if_neg oM]
theorem QZ(hg:Good X w β hp){b:Nat}(h:Own X β hp b):b<w.heap.size:=by
 rcases h with h|⟨i,e,h1,h2⟩
 · exact hg.xlt b h
 · rcases hg.ent i e h1 with ⟨h3,_⟩|⟨b',c,fr,vs,rest,h3,h4,_⟩
   · rw[h2]at h3;simp at h3
   · rw[h2]at h3;simp at h3;subst h3;exact Bp h4
theorem J4(o:Obj)(hlt: ∀ b,O b→b<w.heap.size):Frm w O (w.alloc o) O:=
 ⟨rfl,rfl,rfl,sP,fun b hb _=>Fz o hb,fun b hb=> .inl hb,fun b s hs=>by
   have hb:b<w.heap.size:=by
     rcases Nat.lt_or_ge b w.heap.size with h|h
     · exact h
     · simp[World.shape?,Array.getElem?_eq_none h]at hs
   simp only[World.shape?,Fz o hb]at hs ⊢;exact hs⟩
theorem Li(o:Obj)(hg:Good X w β hp):Good X (w.alloc o) β hp:=
 Hr hg (J4 o (fun b hb=>QZ hg hb)) (CR _) hg.inj (fun j e hj=> .inr ⟨hj,fun b hb=>Fz o (QZ hg (.inr ⟨j,e,hj,hb⟩))⟩) hg.xdis
end put
def Fi:List (Nat×AV)→List (Nat×AV)→List (Nat×AV)
 | [],e=>e
 |x::r,e=>Fi r (x::e)
theorem RK{w:World}{β:Gm}{O:Nat→Prop}: ∀ (ps:List Tmp) (avs:List AV) (vs:List Value) (env:List (Nat×AV)) (tmps:Array Value),AJ w β O avs vs→DH w β O (lk env) tmps→(∀ p∈ps,p<tmps.size)→
   DH w β O (lk (Fi (ps.zip avs) env)) ((ps.zip vs).foldl (fun t (x:Tmp×Value)=>t.setIfInBounds x.1 x.2) tmps)∧((ps.zip vs).foldl (fun t (x:Tmp×Value)=>t.setIfInBounds x.1 x.2) tmps).size=tmps.size
 | [],avs,vs,env,tmps,_,he,_=>by simpa [Fi] using he
 |p::ps,[],vs,env,tmps,hr,he,_=>by simp only[AJ]at hr;subst hr;simpa [Fi] using he
 |p::ps,a::avs,vs,env,tmps,hr,he,hp=>by
   simp only[AJ]at hr
   obtain⟨v,r,rfl,h1,h2⟩:=hr
   have hlt:p<tmps.size:=hp p sP
   have he':DH w β O (lk ((p,a)::env)) (tmps.setIfInBounds p v):=by
     intro t
     simp only[lk,K0 hlt]
     by_cases h:p=t
     · subst h;simpa using h1
     · simp only[if_neg h];exact he t
   have:=RK ps avs r ((p,a)::env) (tmps.setIfInBounds p v) h2 he' (fun q hq=>by simpa using hp q (by simp[hq]))
   refine⟨by simpa [Fi] using this.1,by simpa using this.2⟩
def RD(P:Program)(N k:Nat)(c:Code)(n:Nat)(s:AS)(n':Nat)(s':AS):Prop:= ∀ C:Ctx,C.N=N→C.k=k→C.y=none→AW P C c (fun e _ t=>e= .normal∧Wk k t n' s') n s
section
variable {P : Program} {C : Ctx} {Q : Exit → Nat → AS → Prop} {n k : Nat} {s : AS} {ops : Array Oper}
theorem OW.yield{z:YL}{cenv:List (Nat×AV)}(hy:C.y=some z)(hz:z.env=lk cenv){ps:List Tmp}(hps:z.ps=ps.toArray)(hpN: ∀ p∈ps,p<z.N){o:Oper}{d t:Nat}{args:List Operand}{aty:Array TypeId}(ho:ops[k]? =some o)
   (hop:o.op= .call ⟨.value (.tmp t),args.toArray,aty⟩) (hgd:BM ops (lk s.env) o=some true) (hd:o.dst=some d) (hdN:d<C.N) (ht:lk s.env t= .val (.func (.yield z.l) #[] #[])) (hlen:args.length=ps.length)
   {nB nC:Nat} {sB sC:AS} (h1:RD P z.N n z.assign n ⟨Fi (ps.zip (args.map (evA (lk s.env)))) cenv,s.hp⟩ nB sB) (h2:RD P z.N n z.body nB sB nC sC)
   (h:OW P C ops Q (k+1) nC ⟨(d,.val (.bool true))::s.env,sC.hp⟩):OW P C ops Q k n s:=by
 intro a w hI
 have hk:k<ops.size:=Bp ho
 obtain⟨β,hS,hn⟩:=hI
 rw[show ops.size-k=(ops.size- (k+1))+1 by omega,List.range'_succ,wpOpsIn_cons]
 unfold wpOpIn
 simp only[ho]
 have hw:Region.wanted o (yielded ops a.tmps)=true:=J7 hS hgd
 rw[if_pos hw]
 unfold Oper.wpIn
 refine⟨fun _ _=>trivial,?_⟩
 rw[Oper.semAt_eq _ _ _ (by intro c hc;rw[hop]at hc;cases hc)]
 obtain⟨r,hr1,hr2,hr3,hr4,hr5,hr6,hr7,hr8,hr9,hr10⟩:=C.hy z hy
 have hout: ∀ {w1 w2:World} {O1 O2:Nat→Prop} {l:Nat},Frm w1 O1 w2 O2→l<w1.heap.size→ ¬ O1 l→ ¬ O2 l:=fun hf hl ho h=>(hf.own _ h).elim ho (fun hh=>by omega)
 have hlO: ¬ Own C.X β (lkh s.hp) z.l:=hout hS.frm hr1 hr2
 have hlw:w.heap[z.l]? =some (.loop r):=(hS.frm.same z.l hr1 hr2).trans hr3
 have hll:z.l<w.heap.size:=Bp hlw
 have henv:DH w β (Own C.X β (lkh s.hp)) (lk cenv) r.tmps:=fun t=>Rep.mono (hS.frm.stab hS.ext) _ _ (by have:=hr10 t;rw[hz]at this;exact this)
 have hargs:AJ w β (Own C.X β (lkh s.hp)) (args.map (evA (lk s.env))) (args.map a.eval):=Iz hS.env args
 have hfv:a.eval (.tmp t)= .func (.yield z.l) #[] #[]:=by
   have:=DB hS.env (.tmp t)
   have e:evA s.st.env (.tmp t)= .val (.func (.yield z.l) #[] #[]):=ht
   rw[e]at this
   simpa [Rep] using this
 obtain⟨henv',hsz'⟩:=RK ps (args.map (evA (lk s.env))) (args.map a.eval) cenv r.tmps hargs henv (fun p hp=>by rw[hr9];exact hpN p hp)
 have hrun:(execOp a.eval o).run P w= .ok (.round z.l r.fn ((ps.zip (args.map a.eval)).foldl (fun t (x:Tmp×Value)=>t.setIfInBounds x.1 x.2) r.tmps) r.assign r.body) w:=by
   simp only[execOp,hop,resolve,run_bind,run_pure,hfv,Deferred.ofValue]
   have e1:(#[]:Array Value)++args.toArray.map a.eval=(args.map a.eval).toArray:=by simp
   simp only[invoke,e1]
   rw[run_yield hlw (by rw[hr6,hps];simp[hlen])]
   rw[hr6,hps]
   simp
 rw[hrun]
 refine⟨fun hh=>by simp[rdF,Fence.wide]at hh,?_⟩
 refine roundIn_of_wpIn trivial ?_
 rw[hr7,hr8]
 let Ca:Ctx:={X:=C.X,w0:=w,O0:=Own C.X β (lkh s.hp),βi:=β,N:=z.N,k:=n,hk:=hn,rd:=some z.l,m:=w.heap.size,hm:=Nat.le_refl _,hrd:=fun l hl=>by simp only[Option.some.injEq]at hl;subst hl;exact⟨hll,hlO,r,hlw⟩,y:=none,hy:=by simp}
 have hIa:Dt Ca n (⟨Fi (ps.zip (args.map (evA (lk s.env)))) cenv,s.hp⟩:AS).st {tmps:=(ps.zip (args.map a.eval)).foldl (fun t (x:Tmp×Value)=>t.setIfInBounds x.1 x.2) r.tmps,defers:=[]} w:=
   ⟨β,⟨hS.good,henv',hsz'.trans hr9,trivial,Gv _ _,fun _ _=>rfl,CR _⟩,hn⟩
 refine wpIn_mono (h1 Ca rfl rfl rfl _ w hIa) ?_
 rintro e a1 w1 ⟨m1,t1,⟨rfl,hwk1⟩,hI1⟩
 obtain⟨β1,hS1,hn1⟩:=hI1.weak hwk1
 have hl1:w1.heap[z.l]? =some (.loop r):=(hS1.frm.same z.l hll hlO).trans hlw
 have hlO1: ¬ Own C.X β1 (lkh sB.hp) z.l:=hout hS1.frm hll hlO
 have hll1:z.l<w1.heap.size:=Bp hl1
 refine⟨w1.putObj z.l (.loop {r with state:= .busy}),run_beginRound hl1 hr4,?_⟩
 have hl2:(w1.putObj z.l (.loop {r with state:= .busy})).heap[z.l]? =some (.loop {r with state:= .busy}):=World.putObj_heap_same hll1
 have hsz1:w.heap.size≤w1.heap.size:=hS1.frm.size
 let Cb:Ctx:={X:=C.X,w0:=w1.putObj z.l (.loop {r with state:= .busy}),O0:=Own C.X β1 (lkh sB.hp),βi:=β,N:=z.N,k:=n,hk:=hn,rd:=some z.l,m:=w.heap.size,hm:=by simpa using hsz1,hrd:=fun l hl=>by simp only[Option.some.injEq]at hl;subst hl;exact⟨by simpa using hll1,hlO1,_,hl2⟩,y:=none,hy:=by simp}
 have hIb:Dt Cb nB sB.st a1 (w1.putObj z.l (.loop {r with state:= .busy})):=
   ⟨β1,⟨NV _ (H2 hl1) hlO1 hS1.good,fun t=>Rep.mono (JC _ (H2 hl1)) _ _ (hS1.env t),hS1.size,LB hl1 hS1.defers,Gv _ _,fun _ _=>rfl,hS1.ext⟩,hn1⟩
 refine wpIn_mono (h2 Cb rfl rfl rfl _ _ hIb) ?_
 rintro e a3 w3 ⟨m3,t3,⟨rfl,hwk3⟩,hI3⟩
 obtain⟨β3,hS3,hn3⟩:=hI3.weak hwk3
 have hl3:w3.heap[z.l]? =some (.loop {r with state:= .busy}):=(hS3.frm.same z.l (by simpa [Cb] using hll1) hlO1).trans hl2
 have hlO3: ¬ Own C.X β3 (lkh sC.hp) z.l:=hout hS3.frm (by simpa [Cb] using hll1) hlO1
 have hll3:z.l<w3.heap.size:=Bp hl3
 have hre:({{r with state:= .busy}with state:= .ready,pending:=none}:Loop)=r:=by
   cases r;simp only at hr4 hr5;subst hr4 hr5;rfl
 refine⟨.bool true,w3.putObj z.l (.loop r),by rw[run_endRound none hl3];simp only[Option.isNone_none,if_true,hre],?_⟩
 have hl4:(w3.putObj z.l (.loop r)).heap[z.l]? =some (.loop r):=World.putObj_heap_same hll3
 have F3:Frm (w1.putObj z.l (.loop {r with state:= .busy})) (Own C.X β1 (lkh sB.hp)) w3 (Own C.X β3 (lkh sC.hp)):=hS3.frm
 have F1:Frm w (Own C.X β (lkh s.hp)) w1 (Own C.X β1 (lkh sB.hp)):=hS1.frm
 have FW:Frm w (Own C.X β (lkh s.hp)) (w3.putObj z.l (.loop r)) (Own C.X β3 (lkh sC.hp)):=by
   refine⟨F3.os.trans F1.os,F3.tape.trans F1.tape,F3.output.trans F1.output,?_,fun b hb ho=>?_,fun b hb=>?_,fun b sh hs=>?_⟩
   · have:=F3.size;simp only[World.putObj_size]at this ⊢;omega
   · by_cases he:b=z.l
     · subst he;rw[hl4,hlw]
     · rw[World.putObj_heap_other he,F3.same b (by simp only[World.putObj_size];omega) (hout F1 hb ho),World.putObj_heap_other he,F1.same b hb ho]
   · rcases F3.own b hb with h|h
     · exact F1.own b h
     · right;simp only[World.putObj_size]at h;omega
   · exact(JC (β:=β0) (O:=Own C.X β (lkh s.hp)) _ (H2 hl3)).shape b sh (F3.shape b sh ((JC (β:=β0) (O:=Own C.X β (lkh s.hp)) _ (H2 hl1)).shape b sh (F1.shape b sh hs)))
 have hext:Cp β β3:=hS3.ext
 have hX: ∀ b,C.X b→b≠z.l:=fun b hb e=>hlO (e ▸ .inl hb)
 refine h _ _ ⟨β3,⟨NV _ (H2 hl3) hlO3 hS3.good,fun u=>?_,by simp[Act.put,hd,hS.size],by rw[hd];exact hS.defers.frm FW,hS.frm.trans FW,fun b hb=>?_,hS.ext.trans hext⟩,hn3⟩
 · rw[hd]
   have hlt:d<a.tmps.size:=by rw[hS.size];exact hdN
   simp only[AS.st,Act.put,K0 hlt,lk]
   by_cases he:d=u
   · subst he;simp[Rep]
   · simp only[if_neg he];exact Rep.mono (FW.stab hext) _ _ (hS.env u)
 · rw[World.putObj_heap_other (hX b hb)]
   have k3:w3.heap[b]? =(w1.putObj z.l (.loop {r with state:= .busy})).heap[b]? :=hS3.keepX b hb
   have k1:w1.heap[b]? =w.heap[b]? :=hS1.keepX b hb
   rw[k3,World.putObj_heap_other (hX b hb),k1]
   exact hS.keepX b hb
theorem Tl{w:World}(fn:FuncId)(tmps:Array Value)(ps:Array Tmp)(assign body:Code){m:Nat}{O:Nat→Prop}{ds:List Deferred}(hm:m≤w.heap.size)(hlt: ∀ b,O b→b<w.heap.size)(hds:EN m w O ds):
   ∃ l mark w1 r,(Instr.enterLoop fn tmps ps assign body none).run P w= .ok (l,mark) w1∧Frm w O w1 O∧w.heap.size≤l∧w1.heap[l]? =some (.loop r)∧r.state= .ready∧r.pending=none∧r.params=ps∧r.assign=assign∧r.body=body∧r.tmps=tmps∧EN m w1 O (mark++ds)∧
     (∀ X β hp,Good X w β hp→Good X w1 β hp)∧ ∀ b,b<w.heap.size→w1.heap[b]? =w.heap[b]? :=by
 have f1:=J4 (w:=w) (O:=O) (.deferred (some [])) hlt
 have hlt': ∀ b,O b→b<(w.alloc (.deferred (some []))).heap.size:=fun b hb=>by have:=hlt b hb;simp;omega
 have f2:=J4 (w:=w.alloc (.deferred (some []))) (O:=O) (.loop {state:= .ready,pending:=none,fn,tmps,params:=ps,assign,body,defers:=w.heap.size}) hlt'
 have hD:(w.alloc (.deferred (some []))).heap[w.heap.size]? =some (.deferred (some [])):=World.alloc_heap_new w _
 refine⟨_,_,_,{state:= .ready,pending:=none,fn,tmps,params:=ps,assign,body,defers:=w.heap.size},run_enterLoop_outer fn tmps ps assign body,f1.trans f2,oM,?_,rfl,rfl,rfl,rfl,rfl,rfl,⟨⟨w.heap.size,rfl,hm,fun h=>by have:=hlt _ h;omega,?_,?_⟩,hds.frm (f1.trans f2)⟩,fun X β hp hg=>Li _ (Li _ hg),fun b hb=>(Fz _ sO).trans (Fz _ hb)⟩
 · have:=World.alloc_heap_new (w.alloc (.deferred (some []))) (.loop {state:= .ready,pending:=none,fn,tmps,params:=ps,assign,body,defers:=w.heap.size})
   simpa using this
 · exact(Fz _ sP).trans hD
 · intro e he
   have key: ∀ (ds:List Deferred),EN m w O ds→ ∀ e∈ds,e.target≠ .collected w.heap.size:=by
     intro ds
     induction ds with
     |nil=>intro _ e he;simp at he
     |cons d ds ih=>
       rintro⟨⟨E,rfl,h1,h2,h3,h4⟩,h5⟩ e he
       rcases List.mem_cons.1 he with rfl|he
       · intro h
         simp only[Target.collected.injEq]at h
         have:=Bp h3
         omega
       · exact ih h5 e he
   exact key ds hds e he
theorem Tp{w:World}{l0:Nat}{r0:Loop}(h0:w.heap[l0]? =some (.loop r0))(fn:FuncId)(tmps:Array Value)(ps:Array Tmp)(assign body:Code){m:Nat}{O:Nat→Prop}{ds:List Deferred}(hlt: ∀ b,O b→b<w.heap.size)(hds:EN m w O ds):
   ∃ l mark w1 r,(Instr.enterLoop fn tmps ps assign body (some l0)).run P w= .ok (l,mark) w1∧Frm w O w1 O∧w.heap.size≤l∧w1.heap[l]? =some (.loop r)∧r.state= .ready∧r.pending=none∧r.params=ps∧r.assign=assign∧r.body=body∧r.tmps=tmps∧EN m w1 O (mark++ds)∧
     (∀ X β hp,Good X w β hp→Good X w1 β hp)∧ ∀ b,b<w.heap.size→w1.heap[b]? =w.heap[b]? :=by
 have hrun:(Instr.enterLoop fn tmps ps assign body (some l0)).run P w= .ok (w.heap.size,[]) (w.alloc (.loop {state:= .ready,pending:=none,fn,tmps,params:=ps,assign,body,defers:=r0.defers})):=by
   unfold Instr.enterLoop
   simp only[Sem.run_bind,run_getLoop h0,run_newObj_alloc,Result.andThen,Sem.run_pure]
 have f1:=J4 (w:=w) (O:=O) (.loop {state:= .ready,pending:=none,fn,tmps,params:=ps,assign,body,defers:=r0.defers}) hlt
 exact⟨_,_,_,{state:= .ready,pending:=none,fn,tmps,params:=ps,assign,body,defers:=r0.defers},hrun,f1,Nat.le_refl _,World.alloc_heap_new w _,rfl,rfl,rfl,rfl,rfl,rfl,by simpa using hds.frm f1,fun X β hp hg=>Li _ hg,fun b hb=>Fz _ hb⟩
theorem AhY{g:Operand}{ps:Array Tmp}{assign body:Code}{gf kk:Nat}{cs:List AV}{fn:Func}{c:Code}{Ni:Nat}{hs':List (Option Ent)}(hg:evA (lk s.env) g= .fn gf kk cs)(hf:P.funcs[gf]? =some fn)(hb:fn.body=some c)(hname:(fn.name== "runtime.NumGoroutine")=false)
   (hN:fn.ntmps=Ni) (has:cs.length+1≤Ni) (hrv:fn.results= #[])
   (hit: ∀ l,@EX ⟨some ⟨l,C.N,lk s.env,ps,assign,body⟩⟩ Ni n (fun x=>x=(.tup [],hs')) fun x C=>AW P C c (Di (Ao P) [] x.1 x.2 n) n ⟨Ei 0 (cs.take kk++ .val (.func (.yield l) #[] #[])::cs.drop kk),s.hp⟩)
   (h:Q .normal hs'.length ⟨s.env,hs'.zipIdx.map fun x=>(x.2,x.1)⟩):AW P C (.rangeFunc g ps assign body) Q n s:=by
 intro a w hI
 obtain⟨β,hS,hn⟩:=hI
 refine wpIn_rangeFunc ?_
 intro fid _
 have hgood:Good C.X w β (lkh s.hp):=hS.good
 have hlt: ∀ b,Own C.X β (lkh s.hp) b→b<w.heap.size:=fun b hb=>QZ hgood hb
 have hent: ∃ l mark w1 r,(Instr.enterLoop fid a.tmps ps assign body C.F.round).run P w= .ok (l,mark) w1∧Frm w (Own C.X β (lkh s.hp)) w1 (Own C.X β (lkh s.hp))∧w.heap.size≤l∧w1.heap[l]? =some (.loop r)∧r.state= .ready∧r.pending=none∧r.params=ps∧r.assign=assign∧r.body=body∧r.tmps=a.tmps∧EN C.m w1 (Own C.X β (lkh s.hp)) (mark++a.defers)∧
     (∀ X β hp,Good X w β hp→Good X w1 β hp)∧ ∀ b,b<w.heap.size→w1.heap[b]? =w.heap[b]? :=by
   show ∃ l mark w1 r,(Instr.enterLoop fid a.tmps ps assign body C.rd).run P w=_∧_
   cases hrd:C.rd with
   |none=>exact Tl fid a.tmps ps assign body (Nat.le_trans C.hm hS.frm.size) hlt hS.defers
   |some l0=>
     obtain⟨_,_,r0,h0⟩:=C.rdK hS.frm l0 hrd
     exact Tp h0 fid a.tmps ps assign body hlt hS.defers
 obtain⟨l,mark,w1,r,he,hf1,hl,hr1,hr2,hr3,hr4,hr5,hr6,hr7,hmk,hgd,hhp⟩:=hent
 have hgv: ∃ vs:List Value,a.eval g= .func (.func gf) (vs.take kk).toArray (vs.drop kk).toArray∧AJ w β (Own C.X β (lkh s.hp)) cs vs:=by
   have:=DB hS.env g
   rw[show evA s.st.env g= .fn gf kk cs from hg]at this
   simp only[Rep]at this
   exact this
 obtain⟨vs,hgv,hcs⟩:=hgv
 have hcs1:AJ w1 β (Own C.X β (lkh s.hp)) cs vs:=AJ.mono (hf1.stab (CR _)) _ _ hcs
 have hargs:AJ w1 β (Own C.X β (lkh s.hp)) (cs.take kk++ .val (.func (.yield l) #[] #[])::cs.drop kk) (vs.take kk++ .func (.yield l) #[] #[]::vs.drop kk):=
   (hcs1.take kk).append (by simp only[AJ];exact⟨_,_,rfl,by simp[Rep],hcs1.drop kk⟩)
 have hll:l<w1.heap.size:=Bp hr1
 have hlO: ¬ Own C.X β (lkh s.hp) l:=fun hh=>by have:=hlt l hh;omega
 refine⟨l,mark,w1,{target:= .fn (.func gf) (vs.drop kk).toArray,args:=(vs.take kk).toArray++ #[.func (.yield l) #[] #[]]},w1,gf,(vs.take kk++ .func (.yield l) #[] #[]::vs.drop kk).toArray,w1,he,?_,fun _ _=>trivial,?_,fun hh=>by simp[rdF,Fence.wide]at hh,?_⟩
 · simp only[resolve,rangeCall,hgv,Deferred.ofValue,run_pure]
   simp[Act.eval]
 · simp only[invoke,callFunc,run_bind,Fe,hf,hname,Bool.false_eq_true,if_false,run_pure,hb]
   simp
 · let z:YL:=⟨l,C.N,lk s.env,ps,assign,body⟩
   have hzy: ∀ z',some z=some z'→ ∃ r:Loop,z'.l<w1.heap.size∧ ¬ Own C.X β (lkh s.hp) z'.l∧w1.heap[z'.l]? =some (.loop r)∧r.state= .ready∧r.pending=none∧r.params=z'.ps∧r.assign=z'.assign∧r.body=z'.body∧r.tmps.size=z'.N∧DH w1 β (Own C.X β (lkh s.hp)) z'.env r.tmps:=by
     intro z' hz'
     simp only[Option.some.injEq]at hz';subst hz'
     exact⟨r,hll,hlO,hr1,hr2,hr3,hr4,hr5,hr6,by rw[hr7];exact hS.size,by rw[hr7];exact fun t=>Rep.mono (hf1.stab (CR _)) _ _ (hS.env t)⟩
   let Ci:Ctx:={X:=C.X,w0:=w1,O0:=Own C.X β (lkh s.hp),βi:=β,N:=Ni,k:=n,hk:=hn,rd:=none,m:=w1.heap.size,hm:=Nat.le_refl _,hrd:=by simp,y:=some z,hy:=hzy}
   obtain⟨x,rfl,hx⟩:=hit l
   have hI0:Dt Ci n (⟨Ei 0 (cs.take kk++ .val (.func (.yield l) #[] #[])::cs.drop kk),s.hp⟩:AS).st {tmps:=(vs.take kk++ .func (.yield l) #[] #[]::vs.drop kk).toArray++Array.replicate (fn.ntmps- (vs.take kk++ .func (.yield l) #[] #[]::vs.drop kk).toArray.size) undef,defers:=[]} w1:=by
     refine⟨β,⟨hgd _ _ _ hgood,Si hargs _,?_,trivial,Gv _ _,fun _ _=>rfl,CR _⟩,hn⟩
     have:=hargs.length
     have:=hcs.length
     simp only[Ci,Array.size_append,List.size_toArray,Array.size_replicate,List.length_append,List.length_cons,List.length_take,List.length_drop];omega
   have hc:=callsIn_of_wp_marks (F:=Fence.wide) (n:=0) hf hb trivial (wpIn_mono (hx Ci rfl rfl rfl _ w1 hI0) (fun e a' w' hh=>by
     obtain⟨n',s',hq,β',hS',hn'⟩:=hh
     exact Vi (C:=Ci) (fn:=fn) (rv:=[]) (BU P) (by rw[hrv]) (Nat.le_refl _) hq hS'))
   refine(show CallsIn C.F 0 P gf _ w1 _ from hc).mono ?_
   rintro e w2 ⟨v',β2,rfl,_,hg2,hf2,hk2,hx2,hn2⟩
   have f2:Frm w1 (Own C.X β (lkh s.hp)) w2 (Own C.X β2 (hpL hs')):=hf2
   have x2:Cp β β2:=hx2
   have hl2:w2.heap[l]? =some (.loop r):=(f2.same l hll hlO).trans hr1
   have hlO2: ¬ Own C.X β2 (hpL hs') l:=fun hh=>(f2.own l hh).elim hlO (fun hq=>by omega)
   have f02:Frm w (Own C.X β (lkh s.hp)) w2 (Own C.X β2 (hpL hs')):=hf1.trans f2
   refine⟨none,w2.putObj l (.loop {r with state:= .exhausted}),by rw[run_endLoop hl2 (by rw[hr2];simp),hr3],?_⟩
   have hH:lkh (hs'.zipIdx.map fun x=>(x.2,x.1))=hpL hs':=by funext j;rw[Mf];simp[hpL]
   have hgood2:Good C.X w2 β2 (hpL hs'):=hg2
   have FP:Frm w (Own C.X β (lkh s.hp)) (w2.putObj l (.loop {r with state:= .exhausted})) (Own C.X β2 (hpL hs')):=Ad1 _ (H2 hl2) f02 hl
   refine⟨_,_,h,β2,?_,hn2⟩
   refine⟨?_,?_,hS.size,?_,?_,fun b hb=>?_,hS.ext.trans x2⟩
   · simp only[AS.st,hH];exact NV _ (H2 hl2) hlO2 hgood2
   · simp only[AS.st,hH];exact fun t=>Rep.mono (FP.stab x2) _ _ (hS.env t)
   · simp only[AS.st,hH];exact LB hl2 (hmk.frm f2)
   · simp only[AS.st,hH];exact hS.frm.trans FP
   · have hbl:b≠l:=fun e=>hlO (e ▸ .inl hb)
     have hlw:b<w.heap.size:=hlt b (.inl hb)
     have k2:w2.heap[b]? =w1.heap[b]? :=hk2 b hb
     rw[World.putObj_heap_other hbl,k2]
     have kc:w.heap[b]? =C.w0.heap[b]? :=hS.keepX b hb
     rw[← kc]
     exact hhp b hlw
end
section
variable [Yl] {P : Program} {N kk : Nat} {R : Res → Prop} {rv : List ResultVar} {st : List Fr} {n k : Nat} {s : AS} {l : List Oper}
def XOW(P:Program)(N kk:Nat)(R:Res→Prop)(rv:List ResultVar)(l:List Oper)(st:List Fr)(k n:Nat)(s:AS):Prop:=EX N kk R fun x C=>OW P C l.toArray (FQ P rv kk x C st) k n s
theorem XOW.start(id:Nat)(h:XOW P N kk R rv l st 0 n s):XH P N kk R rv (.c (.region id l.toArray false)) st n s:=EX.step (fun _ _ _ _ h=>ME h) h
theorem XOW.run(m:Nat)(keep:List Nat){n':Nat}{s' s1:AS}{ts1:List Touch}{p:Prop}(h:XOW P N kk R rv l st (k+m) n' s')
   (hr:Bv P (Ao P) noc n l.toArray ((l.drop k).take m) k s [] True=some (s1,ts1,p):=by(try simp only[go_sem,seval]);(iterate 3 (first|(simp only[hx];try simp only[go_sem,seval])|skip);(first|(simp only[hx2];try simp only[go_sem,seval])|skip);(first|(simp only[hx3];try simp only[go_sem,seval])|skip);(try(simp (disch:=omega) only[au];try simp only[go_sem,seval])));rfl) (hp:p:=by(repeat' (with_reducible refine And.intro ?_ ?_))<;>first|with_reducible exact True.intro|omega|exact CE _|with_reducible assumption|decide|(simp;done)|(simp;omega)|(simp[*];done)|(simp[*];omega))
   (hs:((E4 (List.range kk) keep s1).length,G8 (List.range kk) keep s1)=(n',s'):=by(try simp only[go_sem,seval]);rfl) (hm:k+m≤l.length:=by decide) (hok:FZ N l=true:=by decide+kernel):XOW P N kk R rv l st k n s:=by
 refine EX.step (fun x C hN hkk h=>?_) h
 refine OW.run hN hkk noc (List.range kk) keep rfl m (by simpa using hm) (by simpa using hok) (fun K hK=>?_)
 unfold Px
 have e:(List.drop k l.toArray.toList).take m=(l.drop k).take m:=by simp
 rw[e,hr]
 simp only[Prod.mk.injEq]at hs
 obtain⟨rfl,rfl⟩:=hs
 exact⟨hp,hK _ _ h⟩
theorem XOW.done{c':Hd}{st':List Fr}(h:XH P N kk R rv c' st' n s)(hn:CU 60 .n st=(c',st'):=by rfl)(hk:l.length≤k:=by decide):XOW P N kk R rv l st k n s:=by
 have hq:XH P N kk R rv .n st n s:=DQ (by rw[hn];exact h)
 exact EX.step (fun x C hN hkk hq=>OW.done (by simpa using hk) hq) (show XQ P N kk R rv .normal st _ _ from hq)
end
section
variable {P : Program} {N kk : Nat} {R : Res → Prop} {rv : List ResultVar} {st : List Fr} {n k : Nat} {s : AS} {l : List Oper}
theorem XOW.yield{l0 Nc:Nat}{cenv:List (Nat×AV)}{psA:Array Tmp}{ps:List Tmp}{assign body:Code}{d t:Nat}{args:List Operand}{aty:Array TypeId}{o:Oper}{nB nC:Nat}{sB sC:AS}
   (h1:RD P Nc n assign n ⟨Fi (ps.zip (args.map (evA (lk s.env)))) cenv,s.hp⟩ nB sB) (h2:RD P Nc n body nB sB nC sC)
   (h: @XOW ⟨some ⟨l0,Nc,lk cenv,psA,assign,body⟩⟩ P N kk R rv l st (k+1) nC ⟨(d,.val (.bool true))::s.env,sC.hp⟩)
   (ho:l.toArray[k]? =some o:=by rfl) (hop:o.op= .call ⟨.value (.tmp t),args.toArray,aty⟩:=by rfl) (hgd:BM l.toArray (lk s.env) o=some true:=by rfl) (hd:o.dst=some d:=by rfl) (hps:psA=ps.toArray:=by rfl)
   (hdN:d<N:=by decide) (ht:lk s.env t= .val (.func (.yield l0) #[] #[]):=by rfl) (hlen:args.length=ps.length:=by rfl) (hpN: ∀ p∈ps,p<Nc:=by decide):
   @XOW ⟨some ⟨l0,Nc,lk cenv,psA,assign,body⟩⟩ P N kk R rv l st k n s:=by
 letI Y:Yl:=⟨some ⟨l0,Nc,lk cenv,psA,assign,body⟩⟩
 refine AaM (Y:=Y) (fun x C hN hkk hy h=>?_) h
 exact OW.yield (z:=⟨l0,Nc,lk cenv,psA,assign,body⟩) hy rfl hps hpN ho hop hgd hd (hN ▸ hdN) ht hlen h1 h2 h
theorem QR [Yl]{g:Operand}{ps:Array Tmp}{assign body:Code}{gf j:Nat}{cs:List AV}{fn:Func}{c:Code}{Ni:Nat}{c':Hd}{st':List Fr}(hs':List (Option Ent))(hf:P.funcs[gf]? =some fn)(hb:fn.body=some c)(hname:(fn.name== "runtime.NumGoroutine")=false)
   (hNi:fn.ntmps=Ni) (has:cs.length+1≤Ni) (hrv:fn.results= #[])
   (hit: ∀ l,@XW ⟨some ⟨l,N,lk s.env,ps,assign,body⟩⟩ P Ni n (fun x=>x=(.tup [],hs')) [] c [] n ⟨Ei 0 (cs.take j++ .val (.func (.yield l) #[] #[])::cs.drop j),s.hp⟩)
   (h:XH P N kk R rv c' st' hs'.length ⟨s.env,hs'.zipIdx.map fun x=>(x.2,x.1)⟩) (hg:evA (lk s.env) g= .fn gf j cs:=by rfl) (hn:CU 60 .n st=(c',st'):=by rfl):
   XH P N kk R rv (.c (.rangeFunc g ps assign body)) st n s:=by
 have hq:XH P N kk R rv .n st hs'.length ⟨s.env,hs'.zipIdx.map fun x=>(x.2,x.1)⟩:=DQ (by rw[hn];exact h)
 refine EX.step (fun x C hN hkk hq=>?_) (show XQ P N kk R rv .normal st _ _ from hq)
 exact AhY hg hf hb hname hNi has hrv (fun l=>by rw[hN];exact hit l) hq
theorem JG{c:Code}{n':Nat}{s':AS}{h':Hd}{st':List Fr}(h: @XH ylNone P N k (fun x=>x=(.val undef,[])) [] h' st' n s)(hn:CU 60 (.c c) [.l fun _ _ _ t=>Wk k t n' s']=(h',st'):=by rfl):RD P N k c n s n' s':=by
 intro C hN hk hy
 have hq: @XH ylNone P N k (fun x=>x=(.val undef,[])) [] (.c c) [.l fun _ _ _ t=>Wk k t n' s'] n s:= @DQ ylNone _ _ _ _ _ _ _ _ _ _ (by rw[hn];exact h)
 obtain⟨x,rfl,hx⟩:=hq
 refine AW.mono (hx C hN hk hy) ?_
 intro e m t hh
 cases e with
 |normal=>exact⟨rfl,hh⟩
 |ret=>
   obtain⟨_,l,p,ids,D,h1,_,_,_,h2,_⟩:=(show Di (Ao P) [] (.val undef) [] k .ret m t from hh)
   simp only[AY,Option.some.injEq,Prod.mk.injEq]at h1
   obtain⟨rfl,_⟩:=h1
   simp[Az,wk]at h2
 |_=>
   have:=(show Di (Ao P) [] (.val undef) [] k _ m t from hh).1
   simp at this
theorem XH.rd{n':Nat}{s':AS}(h:Wk k s n' s'): @XH ylNone P N k (fun x=>x=(.val undef,[])) rv .n (.l (fun _ _ _ t=>Wk k t n' s')::st) n s:=⟨_,rfl,fun _ _ _ _=>h⟩
end
end Go.Av
namespace Go.Av
def AU(P:Program)(g:FuncId)(sz:Nat)(xs:List AV)(e:Ent)(R:AV→Ent→Prop):Prop:=
 ∃ r e',R r e'∧AF 0 xs=true∧AN 0 r=true∧AB 0 e.es=true∧AB 0 e'.es=true∧Ad P g (.ptr 0 sz 0 0::xs) [some e] r [some e']
def RO(R:AV→Ent→Prop):Res→Prop:=fun x=> ∃ e',R x.1 e'∧AN 0 x.1=true∧AB 0 e'.es=true∧x.2=[some e']
mutual
theorem Ac9(k:Nat): ∀ a,AN 0 a=true→AN k a=true
 | .any,_=>rfl
 | .val _,_=>rfl
 | .agg cs,h=>by simp only[AN]at h ⊢;exact EK k cs h
 | .tup cs,h=>by simp only[AN]at h ⊢;exact EK k cs h
 | .fn _ _ cs,h=>by simp only[AN]at h ⊢;exact EK k cs h
 | .sl _ _,_=>rfl
 | .rp _,_=>rfl
 | .osl i _ _,h=>by simp[AN]at h
 | .ptr i _ _ _,h=>by simp[AN]at h
 | .osv i _ _ _,h=>by simp[AN]at h
theorem EK(k:Nat): ∀ l,AF 0 l=true→AF k l=true
 | [],_=>rfl
 |a::l,h=>by
   simp only[AF,Bool.and_eq_true]at h ⊢
   exact⟨Ac9 k a h.1,EK k l h.2⟩
end
theorem K4(k:Nat){es:List (List AV)}(h:AB 0 es=true):AB k es=true:=by
 simp only[AB,List.all_eq_true]at h ⊢
 exact fun c hc=>EK k c (h c hc)
theorem Cr(ρ:Nat→Nat){e:Ent}(h:AB 0 e.es=true):Cy ρ e=e:=by
 simp only[Cy,DT ρ h]
section
variable {P : Program} {n k : Nat} {ops : Array Oper} {s0 s : AS} {G : Prop} {rem : List Oper} {ts : List Touch}
theorem AgX(i:Nat){o:Oper}{g:FuncId}{sz:Nat}{xs az:List AV}{e:Ent}{R:AV→Ent→Prop}(q:AU P g sz xs e R)
   (hx: ∀ orc:Orc,orc.raw=none→CG P (Ao P) (some orc) (n+8*k) (lk s.env) (lkh s.hp) o.op=some (Bd P g az (lkh s.hp) (n+8*k) orc)) (hgd:BM ops (lk s.env) o=some true)
   (ha:az= .ptr i sz 0 0::xs) (he:lkh s.hp i=some e)
   (h: ∀ r e',R r e'→XO P n ops s0 G (k+1) rem ⟨BV o.dst r s.env,(i,some e')::s.hp⟩ ((k,[i],[i])::ts)):XO P n ops s0 G k (o::rem) s ts:=by
 obtain⟨r,e',h1,h2,h3,h4,h5,h6⟩:=q
 have hρ:(⟨[i],[e],.ptr 0 sz 0 0::xs,r,[some e'],[],none⟩:Orc).ρ (n+8*k)=Bu [i] (n+8*k):=rfl
 have e0:Bu [i] (n+8*k) 0=i:=rfl
 have hr:=KS (Bu [i] (n+8*k)) r h3
 have hob:(Bd P g az (lkh s.hp) (n+8*k) ⟨[i],[e],.ptr 0 sz 0 0::xs,r,[some e'],[],none⟩).ob:=by
   refine DS ⟨h6,?_,sP,⟨?_,K4 _ h4,trivial⟩,sP,sP,trivial,trivial,?_⟩
   · rw[hρ,ha]
     simp only[BK,ren,e0,CJ _ _ h2]
     exact Cq _ _
   · rw[he,hρ,Cr _ h4]
   · simp only[AF,AN,Bool.and_eq_true]
     exact⟨sP,EK _ _ h2⟩
 have hw:DK (Bu [i] (n+8*k)) 0 [some e']=[(i,some e')]:=by
   simp only[DK,Option.map_some,e0,Cr _ h5]
 refine C0 (orc:=fun _=>some ⟨[i],[e],.ptr 0 sz 0 0::xs,r,[some e'],[],none⟩) 1 sP (rem':=rem) rfl (s':=⟨BV o.dst r s.env,(i,some e')::s.hp⟩) (ts':=(k,[i],[i])::ts) (p:=True∧_) ?_ ⟨trivial,hob⟩ (h r e' h1)
 have hx':=hx ⟨[i],[e],.ptr 0 sz 0 0::xs,r,[some e'],[],none⟩ rfl
 simp only[List.take_succ_cons,List.take_zero,Bv,hgd,hx']
 have e1:(Bd P g az (lkh s.hp) (n+8*k) ⟨[i],[e],.ptr 0 sz 0 0::xs,r,[some e'],[],none⟩).v=r:=by rw[Ho,hρ];exact hr
 have e2:(Bd P g az (lkh s.hp) (n+8*k) ⟨[i],[e],.ptr 0 sz 0 0::xs,r,[some e'],[],none⟩).hw=[(i,some e')]:=by rw[HW,hρ,hw]
 have e3:(Bd P g az (lkh s.hp) (n+8*k) ⟨[i],[e],.ptr 0 sz 0 0::xs,r,[some e'],[],none⟩).hr=[i]:=by rw[Jl];simp
 rw[e1,e2]
 simp only[DG,e2,e3]
 rfl
theorem BW(i:Nat){o:Oper}{g:FuncId}{sz:Nat}{xs:List AV}{e:Ent}{R:AV→Ent→Prop}(q:AU P g sz xs e R)
   (h: ∀ r e',R r e'→XO P n ops s0 G (k+1) rem ⟨BV o.dst r s.env,(i,some e')::s.hp⟩ ((k,[i],[i])::ts)) (hcal:FB o=some g:=by rfl) (hgd:BM ops (lk s.env) o=some true:=by rfl)
   (ha:BX o (lk s.env)= .ptr i sz 0 0::xs:=by rfl) (he:lkh s.hp i=some e:=by rfl):XO P n ops s0 G k (o::rem) s ts:=
 AgX i q (fun orc hraw=>by
   unfold FB at hcal
   split at hcal
   · rename_i c hop
     split at hcal
     · rename_i g' hcl
       simp only[Option.some.injEq]at hcal
       subst hcal
       simp only[CG,FH,hraw,Bj,hop,hcl,evA,BX]
     · simp at hcal
   · simp at hcal) hgd ha he h
end
section
variable {P : Program} {g : FuncId} {sz : Nat} {xs : List AV} {e : Ent} {R : AV → Ent → Prop} {N n : Nat} {rv : List ResultVar} {st : List Fr} {s : AS}
theorem Eb(N:Nat){fn:Func}{c:Code}(hf:P.funcs[g]? =some fn)(hb:fn.body=some c)(hname:(fn.name== "runtime.NumGoroutine")=false)(hN:fn.ntmps=N)(has:xs.length+1≤N)
   {rv:List ResultVar} (hrv:fn.results=rv.toArray) {h':Hd} {st':List Fr} (h: @XH ylNone P N 1 (RO R) rv h' st' 1 ⟨Ei 0 (.ptr 0 sz 0 0::xs),[(0,some e)]⟩) (hxs:AF 0 xs=true:=by rfl) (he:AB 0 e.es=true:=by rfl) (hn:CU 60 (.c c) []=(h',st'):=by rfl):AU P g sz xs e R:=by
 obtain⟨⟨r,hs'⟩,⟨e',h1,h2,h3,h4⟩,h5⟩:=Sd (R:=RO R) (as:= .ptr 0 sz 0 0::xs) (hs:=[some e]) N 1 hf hb hname hN (by simpa using has) rfl hrv (DQ (h:= .c c) (by rw[hn];exact h))
 simp only at h4
 subst h4
 exact⟨r,e',h1,hxs,h2,he,h3,h5⟩
theorem Sn{hp:Hp}{D:List Nat}{e:Ent}(h:hp 0=some e)(hi:AB 0 e.es=true):Am hp [some 0] D [(0,some e)]:=
 ⟨.inl ⟨0,e,rfl,h,rfl,rfl,.inl ⟨rfl,hi⟩⟩,trivial⟩
theorem XR.ret(D:List Nat)(r:AV)(e':Ent)(hR:R r e'){l:List AV}{p:Prop}(hres:AY (Ao P) s rv=some (l,p):=by(try simp only[AY,go_sem,seval]);rfl)(hwk:wk (lkh s.hp) [some 0] D (Az l) r:=by simp[Az,lk,lkh,wk,wkL,wkE])(hwh:Am (lkh s.hp) [some 0] D [(0,some e')])
   (hD:0∉D:=by simp) (hp:p:=by(repeat' (with_reducible refine And.intro ?_ ?_))<;>first|with_reducible exact True.intro|omega|exact CE _|with_reducible assumption|decide|(simp;done)|(simp;omega)|(simp[*];done)|(simp[*];omega)) (hi:AN 0 r=true:=by first|rfl|simp[AN,AF]) (hie:AB 0 e'.es=true:=by first|rfl|simp):XH P N 1 (RO R) rv (.c .ret) st n s:=
 XW.ret r [some e'] ⟨e',hR,hi,hie,rfl⟩ ⟨.inl rfl,l,p,[some 0],D,hres,hp,⟨by simp[Al],by simpa [Al] using hD,sP⟩,rfl,hwk,hwh⟩
theorem Agm(D:List Nat)(r:AV)(e':Ent)(hR:R r e'){l:List AV}{p:Prop}(hres:AY (Ao P) s rv=some (l,p):=by(try simp only[AY,go_sem,seval]);rfl)(hwk:wk (lkh s.hp) [some 0] D (Az l) r:=by simp[Az,lk,lkh,wk,wkL,wkE])(hwh:Am (lkh s.hp) [some 0] D [(0,some e')])
   (hD:0∉D:=by simp) (hp:p:=by(repeat' (with_reducible refine And.intro ?_ ?_))<;>first|with_reducible exact True.intro|omega|exact CE _|with_reducible assumption|decide|(simp;done)|(simp;omega)|(simp[*];done)|(simp[*];omega)) (hi:AN 0 r=true:=by first|rfl|simp[AN,AF]) (hie:AB 0 e'.es=true:=by first|rfl|simp):XH P N 1 (RO R) rv .n [] n s:=
 XQ.ret r [some e'] ⟨e',hR,hi,hie,rfl⟩ ⟨.inr rfl,l,p,[some 0],D,hres,hp,⟨by simp[Al],by simpa [Al] using hD,sP⟩,rfl,hwk,hwh⟩
theorem Ag5{l:List AV}{p:Prop}{r:AV}{e':Ent}(hR:R r e')(hres:AY (Ao P) s rv=some (l,p):=by(try simp only[AY,go_sem,seval]);rfl)(hr:Az l=r:=by rfl)(he:lkh s.hp 0=some e':=by rfl)(hp:p:=by(repeat' (with_reducible refine And.intro ?_ ?_))<;>first|with_reducible exact True.intro|omega|exact CE _|with_reducible assumption|decide|(simp;done)|(simp;omega)|(simp[*];done)|(simp[*];omega))
   (hi:AN 0 r=true:=by first|rfl|simp[AN,AF]) (hie:AB 0 e'.es=true:=by first|rfl|simp):XH P N 1 (RO R) rv (.c .ret) st n s:=by
 subst hr
 refine XR.ret [] _ e' hR hres ?_ (Sn he hie) sP hp hi hie
 have:=Fg (hp:=lkh s.hp) (ids:=[some 0]) (D:=[]) [Az l] (by simp[AF,hi])
 simpa using this
theorem XR.es{l:List AV}{p:Prop}{r:AV}{e':Ent}(hR:R r e')(hres:AY (Ao P) s rv=some (l,p):=by(try simp only[AY,go_sem,seval]);rfl)(hr:Az l=r:=by rfl)(he:lkh s.hp 0=some e':=by rfl)(hp:p:=by(repeat' (with_reducible refine And.intro ?_ ?_))<;>first|with_reducible exact True.intro|omega|exact CE _|with_reducible assumption|decide|(simp;done)|(simp;omega)|(simp[*];done)|(simp[*];omega))
   (hi:AN 0 r=true:=by first|rfl|simp[AN,AF]) (hie:AB 0 e'.es=true:=by first|rfl|simp):XH P N 1 (RO R) rv .n [] n s:=by
 subst hr
 refine Agm [] _ e' hR hres ?_ (Sn he hie) sP hp hi hie
 have:=Fg (hp:=lkh s.hp) (ids:=[some 0]) (D:=[]) [Az l] (by simp[AF,hi])
 simpa using this
theorem XR.ro{i m sz T:Nat}{es:List (List AV)}{p:Prop}{e':Ent}(hR:R (.sl sz es) e')(hres:AY (Ao P) s rv=some ([.osl i m sz],p):=by(try simp only[AY,go_sem,seval]);rfl)(he:lkh s.hp i=some ⟨T,sz,es⟩:=by rfl)(he':lkh s.hp 0=some e':=by rfl)(hp:p:=by trivial)
   (hm:es.length=m:=by simp) (hid:AB 0 es=true:=by simp) (hi:i≠0:=by decide) (hie:AB 0 e'.es=true:=by first|rfl|simp):XH P N 1 (RO R) rv (.c .ret) st n s:=
 XR.ret [i] _ e' hR hres (by simp only[Az,wk];exact .inr (.inl ⟨i,m,_,rfl,sP,he,hm,rfl,rfl,hid⟩)) (Sn he' hie) (by simpa using Ne.symm hi) hp rfl hie
end
end Go.Av
namespace Go.Av
section
variable {P : Program} {N n : Nat} {rv : List ResultVar} {st : List Fr} {s : AS}
theorem Bo{Rg:AV→Prop}{l:List AV}{p:Prop}(hR:Rg (Az l))(hres:AY (Ao P) s rv=some (l,p):=by(try simp only[AY,go_sem,seval]);rfl)(hp:p:=by(repeat' (with_reducible refine And.intro ?_ ?_))<;>first|with_reducible exact True.intro|omega|exact CE _|with_reducible assumption|decide|(simp;done)|(simp;omega)|(simp[*];done)|(simp[*];omega))
   (hi:AN 0 (Az l)=true:=by first|rfl|simp[Az,AN,AF]):XH P N 0 (RP Rg) rv (.c .ret) st n s:=Bi hR hres rfl hp hi
theorem G4{R:AV→Ent→Prop}{l:List AV}{p:Prop}{e':Ent}(hR:R (Az l) e')(hres:AY (Ao P) s rv=some (l,p):=by(try simp only[AY,go_sem,seval]);rfl)(he:lkh s.hp 0=some e':=by rfl)(hp:p:=by(repeat' (with_reducible refine And.intro ?_ ?_))<;>first|with_reducible exact True.intro|omega|exact CE _|with_reducible assumption|decide|(simp;done)|(simp;omega)|(simp[*];done)|(simp[*];omega))
   (hi:AN 0 (Az l)=true:=by first|rfl|simp[Az,AN,AF]) (hie:AB 0 e'.es=true:=by first|rfl|simp):XH P N 1 (RO R) rv (.c .ret) st n s:=Ag5 hR hres rfl he hp hi hie
end
end Go.Av
namespace Go.Av
section
variable [Yl] {P : Program} {N kk : Nat} {R : Res → Prop} {rv : List ResultVar} {st : List Fr} {n k : Nat} {s : AS} {ops : Array Oper} {s0 : AS} {G : Prop} {rem : List Oper} {ts : List Touch}
theorem AC(t:Nat){a b:Code}{p:Prop}[Decidable p]{c1 c2:Hd}{st1 st2:List Fr}(ht:p→XH P N kk R rv c1 st1 n s)(hf: ¬ p→XH P N kk R rv c2 st2 n s)(hc:lk s.env t= .val (.bool (decide p)):=by rfl)(hn1:CU 60 (.c a) st=(c1,st1):=by rfl)(hn2:CU 60 (.c b) st=(c2,st2):=by rfl):
   XH P N kk R rv (.c (.cond (.tmp t) a b)) st n s:=Bx t (fun h=>ht (of_decide_eq_true h)) (fun h=>hf (of_decide_eq_false h)) hc hn1 hn2
theorem Cn(t:Nat){p:Prop}[Decidable p](ht:p→XO P n ops s0 G k rem ⟨(t,.val (.bool true))::s.env,s.hp⟩ ts)(hf: ¬ p→XO P n ops s0 G k rem ⟨(t,.val (.bool false))::s.env,s.hp⟩ ts)(hb:lk s.env t= .val (.bool (decide p)):=by rfl):XO P n ops s0 G k rem s ts:=
 XO.split t (fun h=>ht (of_decide_eq_true h)) (fun h=>hf (of_decide_eq_false h)) hb
end
end Go.Av
namespace Go.Av
theorem Ae.toA{P:Program}{g:FuncId}{as:List AV}{r:AV}(h:Ae P g as (fun x=>x=r)):Ad P g as [] r []:=by
 obtain⟨_,rfl,_,h⟩:=h
 exact h
end Go.Av
namespace Go.Av
section
variable {P : Program} {N n : Nat} {rv : List ResultVar} {st : List Fr} {s : AS}
theorem Agq{Rg:AV→Prop}{i m sz T:Nat}{es:List (List AV)}{a:AV}{v:Value}{p:Prop}(hR:Rg (.tup [a,.sl sz es,.val v]))(hres:AY (Ao P) s rv=some ([a,.osl i m sz,.val v],p):=by(try simp only[AY,go_sem,seval]);rfl)(he:lkh s.hp i=some ⟨T,sz,es⟩:=by rfl)
   (hp:p:=by(repeat' (with_reducible refine And.intro ?_ ?_))<;>first|trivial|decide|(simp;done)) (hm:es.length=m:=by simp) (hid:AB 0 es=true:=by simp) (ha:AN 0 a=true:=by first|rfl|simp[AN,AF]):XH P N 0 (RP Rg) rv (.c .ret) st n s:=
 XP.ret [i] _ hR hres hp (by
   simp only[Az,wk,wkL]
   refine⟨_,rfl,_,_,rfl,?_,_,_,rfl,.inr (.inl ⟨i,m,_,rfl,sP,he,hm,rfl,rfl,hid⟩),_,_,rfl,rfl,rfl⟩
   have:=Fg (hp:=lkh s.hp) (ids:=[]) (D:=[i]) [a] (by simp[AF,ha])
   simpa using this) (by simp[AN,AF,ha])
end
end Go.Av
namespace Go.Av
section
variable {P : Program} {n k : Nat} {ops : Array Oper} {s0 s : AS} {G : Prop} {rem : List Oper} {ts : List Touch}
theorem HO{o:Oper}{g:FuncId}{xa:List AV}{r r':AV}{e:Ent}(q:Ad P g xa [] r [some e])
   (h':XO P n ops s0 G (k+1) rem ⟨BV o.dst r' s.env,(n+8*k,some e)::s.hp⟩ ((k,[],[n+8*k])::ts)) (hr:ren (Bu [] (n+8*k)) r=r':=by(simp only[ren,BK,Bu,List.length_nil,Nat.not_lt_zero,if_false,Nat.sub_zero,go_sem,seval];rfl)) (hei:AB 0 e.es=true:=by rfl) (hcal:FB o=some g:=by rfl) (hgd:BM ops (lk s.env) o=some true:=by rfl)
   (ha:BX o (lk s.env)=xa:=by rfl) (hid:AF 0 xa=true:=by rfl):XO P n ops s0 G k (o::rem) s ts:=by
 have h:XO P n ops s0 G (k+1) rem ⟨BV o.dst (ren (Bu [] (n+8*k)) r) s.env,(n+8*k,some (Cy (Bu [] (n+8*k)) e))::s.hp⟩ ((k,[],[n+8*k])::ts):=by rw[hr,Cr _ hei];exact h'
 have hx:CG P (Ao P) (some ⟨[],[],xa,r,[some e],[],none⟩) (n+8*k) (lk s.env) (lkh s.hp) o.op=some (Bd P g (BX o (lk s.env)) (lkh s.hp) (n+8*k) ⟨[],[],xa,r,[some e],[],none⟩):=by
   unfold FB at hcal
   split at hcal
   · rename_i c hop
     split at hcal
     · rename_i g' hcl
       simp only[Option.some.injEq]at hcal
       subst hcal
       simp only[CG,FH,Bj,hop,hcl,evA,BX]
     · simp at hcal
   · simp at hcal
 have hρ:(⟨[],[],xa,r,[some e],[],none⟩:Orc).ρ (n+8*k)=Bu [] (n+8*k):=rfl
 have hob:(Bd P g (BX o (lk s.env)) (lkh s.hp) (n+8*k) ⟨[],[],xa,r,[some e],[],none⟩).ob:=
   DS ⟨q,by rw[hρ,ha,CJ _ _ hid];exact Cq _ _,sP,trivial,sP,sP,trivial,trivial,hid⟩
 refine C0 (orc:=fun _=>some ⟨[],[],xa,r,[some e],[],none⟩) 1 sP (rem':=rem) rfl (s':=⟨BV o.dst (ren (Bu [] (n+8*k)) r) s.env,(n+8*k,some (Cy (Bu [] (n+8*k)) e))::s.hp⟩) (ts':=(k,[],[n+8*k])::ts) (p:=True∧_) ?_ ⟨trivial,hob⟩ h
 simp only[List.take_succ_cons,List.take_zero,Bv,hgd,hx]
 have e1:(Bd P g (BX o (lk s.env)) (lkh s.hp) (n+8*k) ⟨[],[],xa,r,[some e],[],none⟩).v=ren (Bu [] (n+8*k)) r:=by rw[Ho,hρ]
 have e0:Bu [] (n+8*k) 0=n+8*k:=by simp[Bu]
 have e2:(Bd P g (BX o (lk s.env)) (lkh s.hp) (n+8*k) ⟨[],[],xa,r,[some e],[],none⟩).hw=[(n+8*k,some (Cy (Bu [] (n+8*k)) e))]:=by rw[HW,hρ];simp only[DK,Option.map_some,e0]
 have e3:(Bd P g (BX o (lk s.env)) (lkh s.hp) (n+8*k) ⟨[],[],xa,r,[some e],[],none⟩).hr=[]:=by rw[Jl];simp
 rw[e1,e2]
 simp only[DG,e2,e3]
 rfl
end
end Go.Av
namespace Go.Av
theorem QV [Yl]{P:Program}{N kk:Nat}{R:Res→Prop}{rv:List ResultVar}{st:List Fr}{n:Nat}{s:AS}{c:Code}{h':Hd}{st':List Fr}(h:XH P N kk R rv h' st' n s)(hn:CU 60 (.c c) st=(h',st'):=by rfl):XW P N kk R rv c st n s:=DQ (h:= .c c) (by rw[hn];exact h)
end Go.Av
