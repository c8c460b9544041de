/- Part 2 of the proof of PlanSkipsOnlyWhatCannotMatch. -/
import Derived.Test.YtpkhodjlnodagaaGreatDoorB01
set_option linter.unusedSimpArgs false
set_option linter.unusedVariables false
set_option linter.unusedSectionVars false
namespace Go.Av
section mem
variable {X : Nat → Prop} {P : Program} {T : Tab} {w w' : World} {β β' : Gm} {hp hp' : Hp} {nb : Nat}
theorem I7(hT:B4 P T)(hg:Good X w β hp)(hn:β nb=none){env:Env}{a:Act}(henv:DH w β (Own X β hp) env a.tmps){t e:TypeId}{te:TI}(he:elemOf T t=some (e,te)){len:Nat}{parts:Array (Nat×Operand)}{es:List (List AV)}
   (h1:HQ 0 parts.toList=true) (h2:DC env parts.toList=some es) (h3:es.length=len) (h4: ∀ c∈es,c.length=te.size) (h5:len*te.size≤2^24):
   ∃ v w',(Instr.buildSlice t len (parts.map fun(i,x)=>(i,a.eval x))).run P w= .ok v w'∧
     ∀ ob,Post X w β hp nb {v:= .osl nb len te.size,hw:=[(nb,some ⟨e,te.size,es⟩)],ob:=ob} v w' (Ce β nb (some w.heap.size)):=by
 obtain⟨hu,hte⟩:=F5 hT he
 obtain⟨i,z,hi,hisz,hby,hz,hzc,hud,hzl⟩:=tab hT hte
 have hpl: ∀ (ps:List (Nat×Operand)) (es:List (List AV)),DC env ps=some es→es.length=ps.length:=by
   intro ps
   induction ps with
   |nil=>intro es h;simp[DC]at h;subst h;rfl
   |cons p ps ih=>
     intro es h
     simp only[DC]at h
     split at h
     · rename_i c cs hc hcs
       simp at h;subst h
       simp[ih cs hcs]
     · simp at h
 have hlen:parts.toList.length=len:=by rw[← h3,hpl _ _ h2]
 have key: ∀ zero:Array Value,∃ vs,Instr.fill (fun i=>some (i*te.size,te.size)) ((Array.range (len*te.size)).map (fun j=>zero[j%zero.size]!)) (parts.toList.map fun(i,x)=>(i,a.eval x))=some vs.toArray∧AI w β (Own X β hp) te.size es vs:=by
   intro zero
   obtain⟨vs,hv1,hv2⟩:=O4 henv (sz:=te.size) parts.toList 0 es [] ((Array.range (len*te.size)).map (fun j=>zero[j%zero.size]!)).toList h1 h2 h4 sP (by simp[hlen])
   refine⟨vs,?_,hv2⟩
   rw[List.nil_append,List.nil_append,Array.toArray_toList]at hv1
   exact hv1
 have hmap:(parts.map fun(i,x)=>(i,a.eval x)).toList=parts.toList.map fun(i,x)=>(i,a.eval x):=by simp
 have fin: ∀ vs:List Value,AI w β (Own X β hp) te.size es vs→ ∀ ob,Post X w β hp nb {v:= .osl nb len te.size,hw:=[(nb,some ⟨e,te.size,es⟩)],ob:=ob} (.slice (some ⟨w.heap.size,0,none⟩) len len) {w with heap:=w.heap.push (.cells vs.toArray e)} (Ce β nb (some w.heap.size)):=by
   intro vs hv ob
   refine Gy hg hn (fr:=(0,0)) (c:=vs.toArray) (vs:=vs) (rest:=[]) rfl (by intro o _;exact .inl rfl) sP hv rfl rfl rfl rfl ?_
   intro O' hs
   simp only[Rep]
   refine .inr ⟨w.heap.size,len,_,_,Df,rfl,Nat.le_refl _,hs,?_⟩
   simp[hv.length,h3]
 by_cases h0:len*te.size=0
 · obtain⟨vs,hv1,hv2⟩:=key #[]
   refine⟨_,{w with heap:=w.heap.push (.cells vs.toArray e)},?_,fin vs hv2⟩
   simp only[Instr.buildSlice,run_bind,At hu,Cc hi,hisz]
   rw[if_neg oM]
   simp only[run_bind,run_pure,h0,if_true,hmap]
   rw[h0]at hv1
   simp only[hv1,newRow,newObj,run_bind,run_pure]
   rfl
 · obtain⟨vs,hv1,hv2⟩:=key z.cells
   refine⟨_,{w with heap:=w.heap.push (.cells vs.toArray e)},?_,fin vs hv2⟩
   simp only[Instr.buildSlice,run_bind,At hu,Cc hi,hisz]
   rw[if_neg oM]
   simp only[run_bind,run_pure,h0,if_false,Gq hi hz,hmap]
   simp only[hv1,newRow,newObj,run_bind,run_pure]
   rfl
theorem S5{env:Env}{t:TypeId}: ∀ (ps:List (Nat×Operand)) (cells cs:List AV) (ob p:Prop),FF T t env cells ob ps=some (cs,p)→p→ob
 | [],cells,cs,ob,p,h,hp=>by
   simp only[FF,Option.some.injEq,Prod.mk.injEq]at h
   rw[h.2];exact hp
 |(f,x)::ps,cells,cs,ob,p,h,hp=>by
   simp only[FF]at h
   split at h
   · exact(S5 ps _ _ _ _ h hp).1
   · simp at h
theorem Nl(hT:B4 P T){env:Env}{a:Act}{O:Nat→Prop}(henv:DH w β O env a.tmps){t:TypeId}{fs:Array Field}(hd:P.underlying t=some (.struct fs)){sizes:Nat→Option (Nat×Nat)}
   (hs: ∀ f fd tf,fs[f]? =some fd→T fd.type=some tf→sizes f=some (fd.offset,tf.size)): ∀ (ps:List (Nat×Operand)) (cells cs:List AV) (vals:List Value) (ob p:Prop),FF T t env cells ob ps=some (cs,p)→p→
   AJ w β O cells vals→ ∃ vs,Instr.fill sizes vals.toArray (ps.map fun(i,x)=>(i,a.eval x))=some vs.toArray∧AJ w β O cs vs
 | [],cells,cs,vals,ob,p,h,hp,hr=>by
   simp only[FF,Option.some.injEq,Prod.mk.injEq]at h
   obtain⟨rfl,_⟩:=h
   exact⟨vals,rfl,hr⟩
 |(f,x)::ps,cells,cs,vals,ob,p,h,hp,hr=>by
   simp only[FF]at h
   split at h
   · rename_i o tf xs hf hxs
     obtain⟨fs',fd,hu,hfd,rfl,htf⟩:=HB hT hf
     obtain rfl:fs=fs':=by rw[hd]at hu;simpa using hu
     obtain⟨_,hlen,hle⟩:=S5 ps _ _ _ _ h hp
     have hx:=Ik hxs (DB henv x)
     have hxl:=hx.length
     have hcl:=hr.length
     have hr':=hr.splice hx hle
     obtain⟨vs,h1,h2⟩:=Nl hT henv hd hs ps _ _ _ _ _ h hp hr'
     refine⟨vs,?_,h2⟩
     simp only[List.map_cons,Instr.fill,hs f fd tf hfd htf]
     have hc: ¬ ((decide ((a.eval x).cells.size≠tf.size)||decide (fd.offset+(a.eval x).cells.size>vals.toArray.size))=true):=by
       have:(a.eval x).cells.size=xs.length:=by rw[hxl];simp
       simp[this,hlen];omega
     rw[if_neg hc,← h1]
     congr 1
     refine(Qd _ _ _).trans ?_
     apply Array.ext'
     rw[Ft _ _ _ (by simp at hxl ⊢;omega)]
   · simp at h
theorem YG{fs:List Field}:(∀ f∈fs,∃ j,P.info? f.type=some j)→(fs.mapM (fun f=>do pure (f.offset,← Go.sizeOf f.type)):Sem (List (Nat×Nat))).run P w= .ok (fs.map fun f=>(f.offset,P.cellsOf f.type)) w:=by
 induction fs with
 |nil=>intro _;rfl
 |cons f fs ih=>
   intro h
   obtain⟨j,hj⟩:=h f sP
   have hc:P.cellsOf f.type=j.size:=by simp[Program.cellsOf,hj]
   simp only[List.mapM_cons,run_bind,Cc hj,run_pure,ih (fun g hg=>h g (by simp[hg])),List.map_cons,hc]
theorem TE(hT:B4 P T){env:Env}{a:Act}{O:Nat→Prop}(henv:DH w β O env a.tmps){t:TypeId}{ti:TI}(ht:T t=some ti){parts:Array (Nat×Operand)}{cs:List AV}{p:Prop}
   (h:FF T t env (ti.zero.map .val) True parts.toList=some (cs,p)) (hp:p) (hagg: ∃ fs,ti.desc= .struct fs):
   ∃ z,(Instr.build t (parts.map fun(i,x)=>(i,a.eval x))).run P w= .ok z w∧Rep w β O (.agg cs) z:=by
 obtain⟨i,z,hi,hisz,hby,hz,hzc,hud,hzl,hflds⟩:=hT t ti ht
 obtain⟨fs,hfs⟩:=hagg
 rw[hfs]at hud
 have hs: ∀ (f:Nat) (fd:Field) (tf:TI),fs[f]? =some fd→T fd.type=some tf→((fs.map fun f=>(f.offset,P.cellsOf f.type))[f]?)=some (fd.offset,tf.size):=by
   intro f fd tf h1 h2
   obtain⟨j,z',hj,hjs,_⟩:=tab hT h2
   simp[h1,Program.cellsOf,hj,hjs]
 obtain⟨vs,h1,h2⟩:=Nl hT henv hud hs parts.toList _ _ _ _ _ h hp (Gg (w:=w) (β:=β) (O:=O) ti.zero)
 refine⟨.agg vs.toArray,?_,by simp only[Rep];exact⟨vs,rfl,h2⟩⟩
 have hm:(fs.mapM (fun f=>do pure (f.offset,← Go.sizeOf f.type)):Sem (Array (Nat×Nat))).run P w= .ok (fs.map fun f=>(f.offset,P.cellsOf f.type)) w:=by
   have:=YG (P:=P) (w:=w) (fs:=fs.toList) (hflds fs hfs)
   rw[Array.mapM_eq_mapM_toList]
   have e: ∀ (m:Sem (List (Nat×Nat))),(Functor.map List.toArray m).run P w=(m >>= fun a=>pure a.toArray).run P w:=fun m=>rfl
   rw[e,run_bind,this]
   simp[run_pure]
   apply Array.ext';simp
 have hmap:(parts.map fun(i,x)=>(i,a.eval x)).toList=parts.toList.map fun(i,x)=>(i,a.eval x):=by simp
 have hzz:z.cells=ti.zero.toArray:=by rw[← hzc]
 simp only[Instr.build,run_bind,Gq hi hz,At hud,run_pure,hm,hmap,hzz,h1]
structure Stp(X:Nat→Prop)(w:World)(β:Gm)(hp:Hp)(nb:Nat)(w':World)(β':Gm)(hp':Hp):Prop where
 good:Good X w' β' hp'
 frm:Frm w (Own X β hp) w' (Own X β' hp')
 ext:Cp β β'
 keepX: ∀ b,X b→w'.heap[b]? =w.heap[b]?
 new: ∀ i,β' i≠none→β i≠none∨(nb≤i∧i<nb+8)
theorem Stp.trans{w1 w2 w3:World}{β1 β2 β3:Gm}{hp1 hp2 hp3:Hp}(h:Stp X w1 β1 hp1 nb w2 β2 hp2)(k:Stp X w2 β2 hp2 nb w3 β3 hp3):Stp X w1 β1 hp1 nb w3 β3 hp3:=by
 refine⟨k.good,h.frm.trans k.frm,h.ext.trans k.ext,fun b hb=>(k.keepX b hb).trans (h.keepX b hb),fun i hi=>?_⟩
 rcases k.new i hi with h1|h1
 · exact h.new i h1
 · exact .inr h1
theorem Post.stp{r:Out}{v:Value}(h:Post X w β hp nb r v w' β'):Stp X w β hp nb w' β' (BP hp r.hw):=⟨h.good,h.frm,h.ext,h.keepX,h.new⟩
theorem Stp.post{r:Out}{v:Value}(h:Stp X w β hp nb w' β' (BP hp r.hw))(hr:Rep w' β' (Own X β' (BP hp r.hw)) r.v v):Post X w β hp nb r v w' β':=⟨hr,h.good,h.frm,h.ext,h.keepX,h.new⟩
theorem S8(hg:Good X w β hp)(i:Nat):Stp X w β hp nb w β (By hp i none):=by
 have hO: ∀ b,Own X β (By hp i none) b→Own X β hp b:=by
   rintro b (hX|⟨j,e,hj,hb⟩)
   · exact .inl hX
   by_cases h:j=i
   · subst h;simp at hj
   · rw[BT h]at hj;exact .inr ⟨j,e,hj,hb⟩
 have hf:Frm w (Own X β hp) w (Own X β (By hp i none)):=⟨rfl,rfl,rfl,Nat.le_refl _,fun _ _ _=>rfl,fun b hb=> .inl (hO b hb),fun _ _ h=>h⟩
 have hlive: ∀ j e,By hp i none j=some e→hp j=some e:=by
   intro j e hj
   by_cases h:j=i
   · subst h;simp at hj
   · rwa [BT h]at hj
 refine⟨Hr hg hf (CR _) (fun j k e f b hj hk=>hg.inj j k e f b (hlive j e hj) (hlive k f hk)) (fun j e hj=> .inr ⟨hlive j e hj,fun _ _=>rfl⟩) (fun j e b hj hb=>hg.xdis j e b (hlive j e hj) hb),hf,CR _,fun _ _=>rfl,fun _ h=> .inl h⟩
theorem OT(hg:Good X w β hp){i:Nat}{e:Ent}(hi:hp i=some e)(hn:β nb=none){p:Option Nat}(hp':β i=some p):Stp X w β hp nb w (Ce β nb p) (By (By hp i none) nb (some e)):=by
 have hne:i≠nb:=fun h=>by rw[h]at hp';rw[hn]at hp';cases hp'
 have hO: ∀ b,Own X (Ce β nb p) (By (By hp i none) nb (some e)) b↔Own X β hp b:=by
   intro b
   constructor
   · rintro(hX|⟨j,f,hj,hb⟩)
     · exact .inl hX
     by_cases h:j=nb
     · subst h;simp at hb;exact .inr ⟨i,e,hi,by rw[hp',hb]⟩
     · rw[BT h]at hj;rw[Ec h]at hb
       by_cases h':j=i
       · subst h';simp at hj
       · rw[BT h']at hj;exact .inr ⟨j,f,hj,hb⟩
   · rintro(hX|⟨j,f,hj,hb⟩)
     · exact .inl hX
     by_cases h':j=i
     · subst h';exact .inr ⟨nb,e,sP,by rw[Df,← hp',hb]⟩
     · have h:j≠nb:=fun h=>by rw[h]at hb;rw[hn]at hb;cases hb
       exact .inr ⟨j,f,by rw[BT h,BT h'];exact hj,by rw[Ec h];exact hb⟩
 have hf:Frm w (Own X β hp) w (Own X (Ce β nb p) (By (By hp i none) nb (some e))):=⟨rfl,rfl,rfl,Nat.le_refl _,fun _ _ _=>rfl,fun b hb=> .inl ((hO b).1 hb),fun _ _ h=>h⟩
 have hx:Cp β (Ce β nb p):=LG hn
 have back: ∀ j f,By (By hp i none) nb (some e) j=some f→ ∃ j',hp j'=some f∧Ce β nb p j=β j'∧(j=nb∧j'=i∨j=j'∧j≠i∧j≠nb):=by
   intro j f hj
   by_cases h:j=nb
   · subst h;simp at hj;subst hj;exact⟨i,hi,by simp[hp'],.inl ⟨rfl,rfl⟩⟩
   · rw[BT h]at hj
     by_cases h':j=i
     · subst h';simp at hj
     · rw[BT h']at hj;exact⟨j,hj,Ec h,.inr ⟨rfl,h',h⟩⟩
 refine⟨Hr hg hf hx ?_ ?_ ?_,hf,hx,fun _ _=>rfl,Lv (Nat.le_refl _) oM⟩
 · intro j k f g b hj hk hbj hbk
   obtain⟨j',h1,h2,h3⟩:=back j f hj
   obtain⟨k',h4,h5,h6⟩:=back k g hk
   rw[h2]at hbj;rw[h5]at hbk
   have:=hg.inj j' k' f g b h1 h4 hbj hbk
   rcases h3 with ⟨a,b⟩|⟨a,b,c⟩<;>rcases h6 with ⟨d,e'⟩|⟨d,e',f'⟩<;>omega
 · intro j f hj
   obtain⟨j',h1,h2,h3⟩:=back j f hj
   left
   have:=(hg.ent j' f h1)
   rw[h2]
   rcases this with ⟨g1,g2⟩|⟨b,c,fr,vs,rest,g1,g2,g3,g4,g5⟩
   · exact .inl ⟨g1,g2⟩
   · exact .inr ⟨b,c,fr,vs,rest,g1,g2,g3,g4,AI.mono (hf.stab hx) _ _ _ g5⟩
 · intro j f b hj hb
   obtain⟨j',h1,h2,h3⟩:=back j f hj
   rw[h2]at hb
   exact hg.xdis j' f b h1 hb
theorem PX(hg:Good X w β hp)(hn:β nb=none)(e:Ent)(he:e.es=[]):Stp X w β hp nb w (Ce β nb none) (By hp nb (some e)):=by
 have hnone:=hg.fresh hn
 have hO: ∀ b,Own X (Ce β nb none) (By hp nb (some e)) b→Own X β hp b:=by
   rintro b (hX|⟨j,f,hj,hb⟩)
   · exact .inl hX
   by_cases h:j=nb
   · subst h;simp at hb
   · rw[BT h]at hj;rw[Ec h]at hb;exact .inr ⟨j,f,hj,hb⟩
 have hf:Frm w (Own X β hp) w (Own X (Ce β nb none) (By hp nb (some e))):=⟨rfl,rfl,rfl,Nat.le_refl _,fun _ _ _=>rfl,fun b hb=> .inl (hO b hb),fun _ _ h=>h⟩
 have hx:Cp β (Ce β nb none):=LG hn
 refine⟨Hr hg hf hx ?_ ?_ ?_,hf,hx,fun _ _=>rfl,Lv (Nat.le_refl _) oM⟩
 · intro j k f g b hj hk hbj hbk
   by_cases h:j=nb
   · subst h;simp at hbj
   · by_cases h':k=nb
     · subst h';simp at hbk
     · rw[BT h]at hj;rw[Ec h]at hbj;rw[BT h']at hk;rw[Ec h']at hbk
       exact hg.inj j k f g b hj hk hbj hbk
 · intro j f hj
   by_cases h:j=nb
   · subst h;simp at hj;subst hj;exact .inl (.inl ⟨Df,he⟩)
   · rw[BT h]at hj;exact .inr ⟨hj,fun _ _=>rfl⟩
 · intro j f b hj hb
   by_cases h:j=nb
   · subst h;simp at hb
   · rw[BT h]at hj;rw[Ec h]at hb;exact hg.xdis j f b hj hb
end mem
section mem
variable {X : Nat → Prop} {P : Program} {T : Tab} {w w' : World} {β β' : Gm} {hp hp' : Hp} {nb : Nat}
theorem JX{O:Nat→Prop}: ∀ (l:List UInt8),AI w β O 1 (Ab l) (l.map fun b=> .int .u8 b.toNat)
 | []=>by simp[Ab,AI]
 |b::l=>by
   simp only[Ab,List.map_cons,AI]
   refine⟨[.int .u8 b.toNat],_,rfl,rfl,?_,JX l⟩
   simp only[FE,AJ]
   exact⟨_,[],rfl,by simp[Rep],rfl⟩
theorem Iq(hg:Good X w β hp){sz:Nat}{y:AV}{v:Value}{es:List (List AV)}{rs:List Nat}{p:Prop}(h:Ig hp sz y=some (es,rs,p))(hpp:p)(hy:Rep w β (Own X β hp) y v):
   ∃ vs,AI w β (Own X β hp) sz es vs∧(∀ w1:World,(Builtin.lenOf v).run P w1= .ok es.length w1)∧(∀ w1:World,w1.heap=w.heap→(Builtin.firstCells sz es.length v).run P w1= .ok vs.toArray w1):=by
 unfold Ig at h
 split at h
 · rename_i s es'
   simp only[Option.some.injEq,Prod.mk.injEq]at h
   obtain⟨rfl,rfl,rfl⟩:=h
   subst hpp
   simp only[Rep]at hy
   rcases hy with ⟨rfl,rfl⟩|⟨b,off,cap,vs,rfl,h1,h2,h3,h4,h5⟩
   · exact⟨[],by simp[AI],fun w1=>rfl,fun w1 _=>rfl⟩
   · refine⟨vs,h5.up,fun w1=>rfl,fun w1 hw=>?_⟩
     simp only[Builtin.firstCells]
     exact DU (w:=w1) (h4.keep (by rw[hw])) h5.length.symm
 · rename_i i n s
   split at h
   · rename_i e he
     simp only[Option.some.injEq,Prod.mk.injEq]at h
     obtain⟨rfl,rfl,rfl⟩:=h
     obtain⟨hl,rfl,hs⟩:=hpp
     simp only[Rep]at hy
     rcases hy with ⟨hb,rfl,rfl⟩|⟨b,cap,T',m,hb,rfl,h1,h2,h3⟩
     · have:e.es=[]:=List.eq_nil_of_length_eq_zero hl
       rw[this]
       exact⟨[],by simp[AI],fun w1=>rfl,fun w1 _=>rfl⟩
     · rcases hg.ent i e he with ⟨hb',_⟩|⟨b',c,fr,vs,rest,hb',hh,hfr,hc,hr⟩
       · rw[hb]at hb';simp at hb'
       · obtain rfl:b=b':=by rw[hb]at hb';simpa using hb'
         rw[hs]at hr
         refine⟨vs,hr,fun w1=>by rw[hl];rfl,fun w1 hw=>?_⟩
         simp only[Builtin.firstCells]
         have hca:Cl w b 0 vs:=CZ hh hc
         exact DU (w:=w1) (hca.keep (by rw[hw])) hr.length.symm
   · simp at h
 · rename_i i lo n s
   split at h
   · rename_i e he
     simp only[Option.some.injEq,Prod.mk.injEq]at h
     obtain⟨rfl,rfl,rfl⟩:=h
     obtain⟨hl,rfl,hs⟩:=hpp
     simp only[Rep]at hy
     have hlen:((e.es.drop lo).take n).length=n:=by simp;omega
     rcases hy with ⟨hb,rfl,rfl⟩|⟨b,off,cap,T',m,hb,rfl,h1,h5,h2,h3⟩
     · exact⟨[],by simp[AI],fun w1=>by simp;rfl,fun w1 _=>by simp;rfl⟩
     · rcases hg.ent i e he with ⟨hb',_⟩|⟨b',c,fr,vs,rest,hb',hh,hfr,hc,hr⟩
       · rw[hb]at hb';simp at hb'
       · obtain rfl:b=b':=by rw[hb]at hb';simpa using hb'
         rw[hs]at hr
         obtain⟨v1,cu,v2,rfl,hv1,hcu⟩:=hr.cut (l:=lo) (k:=lo+n) oM hl
         have e1:(e.es.take (lo+n)).drop lo=(e.es.drop lo).take n:=by rw[List.drop_take];congr 1;omega
         rw[e1]at hcu
         refine⟨cu,hcu,fun w1=>by rw[hlen];rfl,fun w1 hw=>?_⟩
         rw[hlen]
         simp only[Builtin.firstCells]
         have hcl:cu.length=n*s:=by rw[hcu.length,hlen]
         by_cases hn0:n=0
         · subst hn0
           have:cu=[]:=List.eq_nil_of_length_eq_zero oM
           subst this
           exact DU (w:=w1) (vs:=[]) (fun j v hv=>by simp at hv) sP
         · have ho:off=lo*s:=by
             rcases h5 with h|⟨h,_⟩
             · exact h
             · omega
           have hca:Cl w b 0 (v1++cu++v2):=CZ hh hc
           have hcm:=hca.mid
           rw[hv1,Nat.zero_add,← ho]at hcm
           exact DU (w:=w1) (hcm.keep (by rw[hw])) hcl.symm
   · simp at h
 · simp only[Option.some.injEq,Prod.mk.injEq]at h
   obtain⟨rfl,rfl,rfl⟩:=h
   simp only[Rep]at hy
   subst hy
   exact⟨[],by simp[AI],fun w1=>rfl,fun w1 _=>rfl⟩
 · rename_i s
   simp only[Option.some.injEq,Prod.mk.injEq]at h
   obtain⟨rfl,rfl,rfl⟩:=h
   subst hpp
   simp only[Rep]at hy
   subst hy
   have hl:(Ab (bl s)).length=s.size:=by simp[Ab,bl]
   refine⟨_,JX (bl s),fun w1=>by rw[hl];rfl,fun w1 _=>?_⟩
   rw[hl]
   simp only[Builtin.firstCells,run_pure]
   congr 1
   apply Array.ext'
   simp[bl,Lu]
   rw[List.take_of_length_le sP]
 · simp at h
theorem YT(need cap:Nat)(h:cap<need):Builtin.nextslicecap need cap≤2*need:=by
 have hg: ∀ (r c:Nat),256≤c→c<2*need→Builtin.growBy need r c≤2*need:=by
   intro r
   induction r with
   |zero=>intro c h1 h2;simp only[Builtin.growBy];omega
   |succ r ih=>
     intro c h1 h2
     simp only[Builtin.growBy]
     split
     · omega
     · by_cases h3:c+(c+768) / 4<2*need
       · exact ih _ oM h3
       · omega
 unfold Builtin.nextslicecap
 split
 · omega
 · split
   · omega
   · exact hg 4 cap oM oM
theorem GS{t u ty e:TypeId}{ti:TypeInfo}{e':TypeId}(hu:P.underlying t=some (.slice e))(hi:P.info? e=some ti)(hd:P.underlying u=some (.slice e')∨P.underlying u=some .string)
   {base:Option Addr} {sLen sCap n:Nat} {vy:Value} {vs:List Value} (hl: ∀ w1:World,(Builtin.lenOf vy).run P w1= .ok n w1) (hf: ∀ w1:World,w1.heap=w.heap→(Builtin.firstCells ti.size n vy).run P w1= .ok vs.toArray w1) (hfit:sLen+n≤sCap):
   (Builtin.append_ #[t,u] ty #[.slice base sLen sCap,vy]).run P w=match base with
     |some a=>match (storeCells (a.add (sLen*ti.size)) vs).run P w with
       | .ok _ w'=> .ok (.slice base (sLen+n) sCap) w'
       | .halt h w'=> .halt h w'
     |none=> .ok (.slice base (sLen+n) sCap) w:=by
 unfold Builtin.append_
 rcases hd with hd|hd
 all_goals
   simp only[List.getElem?_toArray,List.getElem?_cons_zero,List.getElem?_cons_succ,run_bind,At hu,Cc hi,At hd,run_pure,Bool.false_eq_true,if_false,hl,Bool.not_false,if_true,hfit,hf w rfl]
   cases base with
   |none=>simp only[run_pure]
   |some a=>simp only[run_bind,run_pure];split<;>simp_all
theorem Gx{t u ty e:TypeId}{ti:TypeInfo}{z:Value}{e':TypeId}(hu:P.underlying t=some (.slice e))(hi:P.info? e=some ti)(hz:ti.zero=some z)(hd:P.underlying u=some (.slice e')∨P.underlying u=some .string)
   {base:Option Addr} {sLen sCap n:Nat} {vy:Value} {old vs:List Value} (hl: ∀ w1:World,(Builtin.lenOf vy).run P w1= .ok n w1) (hf: ∀ w1:World,w1.heap=w.heap→(Builtin.firstCells ti.size n vy).run P w1= .ok vs.toArray w1)
   (ho: ∀ w1:World,w1.heap=w.heap→(Builtin.firstCells ti.size sLen (.slice base sLen sCap)).run P w1= .ok old.toArray w1) (hfit: ¬ sLen+n≤sCap) (hb:(sLen+n)*ti.bytes≤2^47) (hb0:ti.bytes≠0):
   ∃ cap,sLen+n≤cap∧(Builtin.append_ #[t,u] ty #[.slice base sLen sCap,vy]).run P w= .ok (.slice (some ⟨w.heap.size,0,none⟩) (sLen+n) cap) {w with drawn:=w.drawn+1,heap:=w.heap.push (.cells (old.toArray++vs.toArray++Builtin.zeroCells z.cells (cap- (sLen+n))) e)}:=by
 refine⟨(Question.appendCap (sLen+n) sCap e).cut (w.tape w.drawn (.appendCap (sLen+n) sCap e)),by simp[Question.cut],?_⟩
 unfold Builtin.append_
 have h1: ¬ (((sLen+n:Nat):Int)>IntKind.i64.max∧(false=true∨ti.bytes=0)):=fun h=>by rcases h.2 with h|h<;>simp_all
 have h2: ¬ (Builtin.nextslicecap (sLen+n) sCap*ti.bytes>2^48):=by
   have:=Nat.mul_le_mul_right ti.bytes (YT (sLen+n) sCap oM)
   have e:2*(sLen+n)*ti.bytes=2*((sLen+n)*ti.bytes):=by rw[Nat.mul_assoc]
   omega
 have hch: ∀ q:Question,q.forced=false→(choose q).run P w= .ok (q.cut (w.tape w.drawn q)) {w with drawn:=w.drawn+1}:=by
   intro q hq;simp[choose,Sem.run,hq]
 have har: ∀ (m:Nat) (w1:World),(askRoom m).run P w1= .ok () w1:=by intro m w1;unfold askRoom;split<;>rfl
 rcases hd with hd|hd
 all_goals
   simp only[List.getElem?_toArray,List.getElem?_cons_zero,List.getElem?_cons_succ,run_bind,At hu,Cc hi,At hd,run_pure,Bool.false_eq_true,if_false,hl,Bool.not_false,if_true,hfit,I9 hi,false_or]
   rw[if_neg (by simpa using h1)]
   simp only[run_bind,run_pure,I9 hi,h2,if_false,hch (.appendCap (sLen+n) sCap e) rfl,har]
   rw[ho {w with drawn:=w.drawn+1} rfl]
   simp only[run_bind]
   rw[hf {w with drawn:=w.drawn+1} rfl]
   simp only[run_bind,Gq hi hz,newRow,newObj,run_pure]
   rfl
theorem IA(hg:Good X w β hp)(hn:β nb=none){e:TypeId}{sz m cap:Nat}{es:List (List AV)}{vs:List Value}(hv:AI w β (Own X β hp) sz es vs)(hm:es.length=m){z:Array Value}(hz:z.size=sz)(hcap:m≤cap){ob:Prop}{hr:List Nat}:
   Post X w β hp nb {v:= .osl nb m sz,hw:=[(nb,some ⟨e,sz,es⟩)],hr:=hr,ob:=ob} (.slice (some ⟨w.heap.size,0,none⟩) m cap) {w with drawn:=w.drawn+1,heap:=w.heap.push (.cells (vs.toArray++Builtin.zeroCells z (cap-m)) e)} (Ce β nb (some w.heap.size)):=by
 refine Gy hg hn (fr:=(0,0)) (c:=vs.toArray++Builtin.zeroCells z (cap-m)) (vs:=vs) (rest:=(Builtin.zeroCells z (cap-m)).toList) rfl (by intro o _;exact .inl rfl) sP hv rfl rfl rfl rfl ?_
 intro O' hs
 simp only[Rep]
 refine .inr ⟨w.heap.size,cap,_,_,Df,rfl,hcap,hs,?_⟩
 have:(Builtin.zeroCells z (cap-m)).size=(cap-m)*sz:=by simp[Builtin.zeroCells,hz]
 have h2:vs.length=m*sz:=by rw[hv.length,hm]
 simp only[Array.size_append,List.size_toArray,this,h2]
 rw[← Nat.add_mul]
 exact Nat.mul_le_mul_right _ oM
theorem I1{O:Nat→Prop}{sz:Nat}: ∀ {es:List (List AV)} {vs:List Value},es.all (fun c=>c.all CC)=true→AI w β O sz es vs→ ∀ v∈vs,Gf v=true
 | [],vs,h,hr,v,hv=>by simp only[AI]at hr;subst hr;simp at hv
 |c::es,vs,h,hr,v,hv=>by
   simp only[AI]at hr
   obtain⟨u,r,rfl,_,h1,h2⟩:=hr
   simp only[List.all_cons,Bool.and_eq_true]at h
   rcases List.mem_append.1 hv with hv|hv
   · exact HF h.1 h1 v hv
   · exact I1 h.2 h2 v hv
theorem Nf{i:Nat}{a b:Option Ent}:By (By hp i a) i b=By hp i b:=by
 funext j;unfold By;split<;>rfl
theorem HG(hT:B4 P T)(hg:Good X w β hp)(hn:β nb=none){t u ty:TypeId}{x y:AV}{vx vy:Value}{r:Out}(h:Hn T hp nb t x y=some r)(hob:r.ob)
   (hd:(∃ e,Bl T u=some (.slice e))∨Bl T u=some .string) (hx:Rep w β (Own X β hp) x vx) (hy:Rep w β (Own X β hp) y vy):
   ∃ v w' β',(Builtin.append_ #[t,u] ty #[vx,vy]).run P w= .ok v w'∧Post X w β hp nb r v w' β':=by
 obtain⟨e',hd'⟩: ∃ e',P.underlying u=some (.slice e')∨P.underlying u=some .string:=by
   rcases hd with ⟨e',h⟩|h
   · exact⟨e',.inl (Bq hT h)⟩
   · exact⟨0,.inr (Bq hT h)⟩
 unfold Hn at h
 split at h
 · simp at h
 · rename_i e te he
   obtain⟨hu,hte⟩:=F5 hT he
   obtain⟨ti,z,hi,hisz,hby,hz,hzc,hud,hzl⟩:=tab hT hte
   have hzsz:z.cells.size=te.size:=by rw[← Array.length_toList,hzc,hzl]
   split at h
   · simp at h
   · rename_i es rs p hsrc
     split at h
     · simp only[Option.some.injEq]at h
       subst h
       simp only at hob
       obtain⟨hpp,hs0,hb0,hbd⟩:=hob
       obtain⟨vs,hvs,hlen,hfirst⟩:=Iq (P:=P) hg hsrc hpp hy
       simp only[Rep]at hx
       subst hx
       by_cases hz0:es.length=0
       · have hes:es=[]:=List.eq_nil_of_length_eq_zero hz0
         refine⟨.slice none (0+es.length) 0,w,Ce β nb none,?_,?_⟩
         · rw[GS hu hi hd' hlen (by rw[hisz];exact hfirst) oM]
         · refine Stp.post (PX hg hn _ hes) ?_
           simp only[Rep]
           exact .inl ⟨Df,by rw[hz0],hz0⟩
       · obtain⟨cap,hcap,hrun⟩:=Gx (ty:=ty) hu hi hz hd' (base:=none) (sLen:=0) (sCap:=0) (old:=[]) hlen (by rw[hisz];exact hfirst) (fun w1 _=>rfl) oM (by rw[hby,Nat.zero_add];exact hbd) (by rw[hby];omega)
         simp only[Nat.zero_add]at hcap hrun
         refine⟨_,_,Ce β nb (some w.heap.size),hrun,?_⟩
         have:=IA (ob:=p∧0<te.size∧0<te.bytes∧es.length*te.bytes≤2^47) (hr:=rs) hg hn (e:=e) hvs rfl hzsz hcap
         simpa using this
     · rename_i i n sz
       split at h
       · rename_i en hen
         simp only[Option.some.injEq]at h
         subst h
         simp only at hob
         obtain⟨hpp,hst0,hs0,hb0,hbd,hel,rfl,hesz,rfl⟩:=hob
         obtain⟨vs,hvs,hlen,hfirst⟩:=Iq (P:=P) hg hsrc hpp hy
         have hdrop:=S8 (nb:=nb) hg i
         have hhp: ∀ a:Option Ent,BP hp [(i,none),(nb,a)]=By (By hp i none) nb a:=fun _=>rfl
         simp only[Rep]at hx
         rcases hx with ⟨hbi,rfl,rfl⟩|⟨b,cap,T',m,hbi,rfl,hnc,hshape,hcap⟩
         · have hen0:en.es=[]:=List.eq_nil_of_length_eq_zero hel
           by_cases hz0:es.length=0
           · have hes:es=[]:=List.eq_nil_of_length_eq_zero hz0
             refine⟨.slice none (0+es.length) 0,w,Ce β nb none,?_,?_⟩
             · rw[GS hu hi hd' hlen (by rw[hisz];exact hfirst) oM]
             · refine Stp.post ?_ ?_
               · rw[hhp]
                 exact hdrop.trans (PX hdrop.good hn _ (by simp[hen0,hes]))
               · simp only[Rep]
                 exact .inl ⟨Df,by rw[hz0],oM⟩
           · obtain⟨cap,hcap,hrun⟩:=Gx (ty:=ty) hu hi hz hd' (base:=none) (sLen:=0) (sCap:=0) (old:=[]) hlen (by rw[hisz];exact hfirst) (fun w1 _=>rfl) oM (by rw[hby];exact hbd) (by rw[hby];omega)
             refine⟨_,_,Ce β nb (some w.heap.size),hrun,?_⟩
             have hvs':=AI.mono (hdrop.frm.stab hdrop.ext) _ _ _ hvs
             have hg1:=IA (m:=0+es.length) (ob:=True) (hr:=[]) hdrop.good hn (e:=en.ty) (es:=en.es++es) (by rw[hen0];exact hvs') (by simp[hen0]) hzsz hcap
             refine Stp.post ?_ ?_
             · rw[hhp]
               have:=hdrop.trans hg1.stp
               simpa [Dl] using this
             · have:=hg1.rep
               rw[hhp]
               simpa [Dl] using this
         · rcases hg.ent i en hen with ⟨hb',_⟩|⟨b',c,fr,old,rest,hb',hh,hfr,hc,hr⟩
           · rw[hbi]at hb';simp at hb'
           · obtain rfl:b=b':=by rw[hbi]at hb';simpa using hb'
             have hcs:m=c.size:=by
               have:w.shape? b=some (en.ty,c.size):=by simp[World.shape?,hh]
               rw[this]at hshape;simp at hshape;exact hshape.2.symm
             rw[hesz]at hr
             have hol:old.length=n*te.size:=by rw[hr.length,hel]
             have hvl:vs.length=es.length*te.size:=hvs.length
             by_cases hfit:n+es.length≤cap
             · have hroom:0+n*te.size+vs.length≤c.size:=by
                 have:=Nat.mul_le_mul_right te.size hfit
                 rw[Nat.add_mul]at this
                 omega
               have hplain: ∀ v∈vs,Gf v=true:=I1 hst0 hvs
               have hst:=EI (P:=P) (b:=b) (off:=n*te.size) vs 0 w c hh oM hfr hplain
               refine⟨.slice (some ⟨b,0,none⟩) (n+es.length) cap,CO w b (.cells (Ey c (n*te.size+0) vs) en.ty fr),Ce β nb (some b),?_,?_⟩
               · rw[GS hu hi hd' hlen (by rw[hisz];exact hfirst) hfit]
                 simp only[Eh,hisz,Nat.zero_add,hst]
               · have hpw:Post X w β hp nb {v:= .any,hw:=[(i,some ⟨en.ty,te.size,en.es++es⟩)]} undef (CO w b (.cells (Ey c (n*te.size+0) vs) en.ty fr)) β:=by
                   refine HE (e':=⟨en.ty,te.size,en.es++es⟩) (vs:=old++vs) (rest:=rest.drop vs.length) hg hen hbi hh hfr rfl (Fs _ _ _) ?_ (hr.append hvs) rfl (fun _ _=>by simp[Rep])
                   rw[Ft _ _ _ oM,hc,Nat.add_zero,← hol]
                   simp
                 have h1:=hpw.stp
                 have h2:=OT (i:=i) (e:=⟨en.ty,te.size,en.es++es⟩) h1.good (by show By hp i _ i=_;simp) hn hbi
                 have h3:=h1.trans h2
                 have e1:By (By (BP hp [(i,some (⟨en.ty,te.size,en.es++es⟩:Ent))]) i none) nb (some ⟨en.ty,te.size,en.es++es⟩)=By (By hp i none) nb (some ⟨en.ty,te.size,en.es++es⟩):=by
                   show By (By (By hp i _) i none) nb _=_
                   rw[Nf]
                 rw[e1]at h3
                 refine Stp.post (by rw[hhp];exact h3) ?_
                 simp only[Rep]
                 exact .inr ⟨b,cap,T',m,Df,rfl,hfit,by rw[HK hh (Fs _ _ _)];exact hshape,hcap⟩
             · have hold: ∀ w1:World,w1.heap=w.heap→(Builtin.firstCells ti.size n (.slice (some ⟨b,0,none⟩) n cap)).run P w1= .ok old.toArray w1:=by
                 intro w1 hw
                 simp only[Builtin.firstCells]
                 have hca:Cl w b 0 old:=CZ hh hc
                 exact DU (w:=w1) (hca.keep (by rw[hw])) (by rw[hol,hisz])
               obtain⟨cap',hcap',hrun⟩:=Gx (ty:=ty) hu hi hz hd' hlen (by rw[hisz];exact hfirst) hold hfit (by rw[hby];exact hbd) (by rw[hby];omega)
               refine⟨_,_,Ce β nb (some w.heap.size),hrun,?_⟩
               have hvs':=AI.mono (hdrop.frm.stab hdrop.ext) _ _ _ (hr.append hvs)
               have hg1:=IA (m:=n+es.length) (ob:=True) (hr:=[]) hdrop.good hn (e:=en.ty) (es:=en.es++es) hvs' (by simp[hel]) hzsz hcap'
               refine Stp.post ?_ ?_
               · rw[hhp]
                 have:=hdrop.trans hg1.stp
                 simpa [Dl] using this
               · have:=hg1.rep
                 rw[hhp]
                 simpa [Dl] using this
       · simp at h
     · rename_i i n sz
       split at h
       · rename_i en hen
         simp only[Option.some.injEq]at h
         subst h
         simp only at hob
         obtain⟨hpp,hst0,hs0,hb0,hbd,hel,rfl,hesz,rfl⟩:=hob
         obtain⟨vs,hvs,hlen,hfirst⟩:=Iq (P:=P) hg hsrc hpp hy
         have hdrop:=S8 (nb:=nb) hg i
         have hhp: ∀ a:Option Ent,BP hp [(i,none),(nb,a)]=By (By hp i none) nb a:=fun _=>rfl
         simp only[Rep]at hx
         rcases hx with ⟨hbi,rfl,rfl⟩|⟨b,off0,cap,T',m,hbi,rfl,hnc,hoff,hshape,hcap⟩
         · have hen0:en.es.take 0=[]:=rfl
           by_cases hz0:es.length=0
           · have hes:es=[]:=List.eq_nil_of_length_eq_zero hz0
             refine⟨.slice none (0+es.length) 0,w,Ce β nb none,?_,?_⟩
             · rw[GS hu hi hd' hlen (by rw[hisz];exact hfirst) oM]
             · refine Stp.post ?_ ?_
               · rw[hhp]
                 exact hdrop.trans (PX hdrop.good hn _ (by simp[hen0,hes]))
               · simp only[Rep]
                 exact .inl ⟨Df,by rw[hz0],oM⟩
           · obtain⟨cap,hcap,hrun⟩:=Gx (ty:=ty) hu hi hz hd' (base:=none) (sLen:=0) (sCap:=0) (old:=[]) hlen (by rw[hisz];exact hfirst) (fun w1 _=>rfl) oM (by rw[hby];exact hbd) (by rw[hby];omega)
             refine⟨_,_,Ce β nb (some w.heap.size),hrun,?_⟩
             have hvs':=AI.mono (hdrop.frm.stab hdrop.ext) _ _ _ hvs
             have hg1:=IA (m:=0+es.length) (ob:=True) (hr:=[]) hdrop.good hn (e:=en.ty) (es:=en.es.take 0++es) (by rw[hen0];exact hvs') (by simp[hen0]) hzsz hcap
             refine Stp.post ?_ ?_
             · rw[hhp]
               have:=hdrop.trans hg1.stp
               simpa [Dl] using this
             · have:=hg1.rep
               rw[hhp]
               simpa [Dl] using this
         · rcases hg.ent i en hen with ⟨hb',_⟩|⟨b',c,fr,old,rest,hb',hh,hfr,hc,hr⟩
           · rw[hbi]at hb';simp at hb'
           · obtain rfl:b=b':=by rw[hbi]at hb';simpa using hb'
             obtain rfl:off0=0:=by rcases hoff with h|⟨_,_,h⟩<;>omega
             rw[Nat.zero_add]at hcap
             have hcs:m=c.size:=by
               have:w.shape? b=some (en.ty,c.size):=by simp[World.shape?,hh]
               rw[this]at hshape;simp at hshape;exact hshape.2.symm
             rw[hesz]at hr
             have hel2:(en.es.take n).length=n:=by simp;omega
             obtain⟨v0,old',rest',hsp,hv0,hr'⟩:=hr.cut (l:=0) (k:=n) (Nat.zero_le _) hel
             obtain rfl:v0=[]:=List.eq_nil_of_length_eq_zero oM
             rw[List.drop_zero]at hr'
             rw[hsp,List.nil_append,List.append_assoc]at hc
             clear hsp hr
             have hr:=hr'
             have hol:old'.length=n*te.size:=by rw[hr.length,hel2]
             have hvl:vs.length=es.length*te.size:=hvs.length
             by_cases hfit:n+es.length≤cap
             · have hroom:0+n*te.size+vs.length≤c.size:=by
                 have:=Nat.mul_le_mul_right te.size hfit
                 rw[Nat.add_mul]at this
                 omega
               have hplain: ∀ v∈vs,Gf v=true:=I1 hst0 hvs
               have hst:=EI (P:=P) (b:=b) (off:=n*te.size) vs 0 w c hh oM hfr hplain
               refine⟨.slice (some ⟨b,0,none⟩) (n+es.length) cap,CO w b (.cells (Ey c (n*te.size+0) vs) en.ty fr),Ce β nb (some b),?_,?_⟩
               · rw[GS hu hi hd' hlen (by rw[hisz];exact hfirst) hfit]
                 simp only[Eh,hisz,Nat.zero_add,hst]
               · have hpw:Post X w β hp nb {v:= .any,hw:=[(i,some ⟨en.ty,te.size,en.es.take n++es⟩)]} undef (CO w b (.cells (Ey c (n*te.size+0) vs) en.ty fr)) β:=by
                   refine HE (e':=⟨en.ty,te.size,en.es.take n++es⟩) (vs:=old'++vs) (rest:=(rest'++rest).drop vs.length) hg hen hbi hh hfr rfl (Fs _ _ _) ?_ (hr.append hvs) rfl (fun _ _=>by simp[Rep])
                   rw[Ft _ _ _ oM,hc,Nat.add_zero,← hol]
                   simp
                 have h1:=hpw.stp
                 have h2:=OT (i:=i) (e:=⟨en.ty,te.size,en.es.take n++es⟩) h1.good (by show By hp i _ i=_;simp) hn hbi
                 have h3:=h1.trans h2
                 have e1:By (By (BP hp [(i,some (⟨en.ty,te.size,en.es.take n++es⟩:Ent))]) i none) nb (some ⟨en.ty,te.size,en.es.take n++es⟩)=By (By hp i none) nb (some ⟨en.ty,te.size,en.es.take n++es⟩):=by
                   show By (By (By hp i _) i none) nb _=_
                   rw[Nf]
                 rw[e1]at h3
                 refine Stp.post (by rw[hhp];exact h3) ?_
                 simp only[Rep]
                 exact .inr ⟨b,cap,T',m,Df,rfl,hfit,by rw[HK hh (Fs _ _ _)];exact hshape,hcap⟩
             · have hold: ∀ w1:World,w1.heap=w.heap→(Builtin.firstCells ti.size n (.slice (some ⟨b,0,none⟩) n cap)).run P w1= .ok old'.toArray w1:=by
                 intro w1 hw
                 simp only[Builtin.firstCells]
                 have hca:Cl w b 0 old':=CZ hh hc
                 exact DU (w:=w1) (hca.keep (by rw[hw])) (by rw[hol,hisz])
               obtain⟨cap',hcap',hrun⟩:=Gx (ty:=ty) hu hi hz hd' hlen (by rw[hisz];exact hfirst) hold hfit (by rw[hby];exact hbd) (by rw[hby];omega)
               refine⟨_,_,Ce β nb (some w.heap.size),hrun,?_⟩
               have hvs':=AI.mono (hdrop.frm.stab hdrop.ext) _ _ _ (hr.append hvs)
               have hg1:=IA (m:=n+es.length) (ob:=True) (hr:=[]) hdrop.good hn (e:=en.ty) (es:=en.es.take n++es) hvs' (by simp[hel2]) hzsz hcap'
               refine Stp.post ?_ ?_
               · rw[hhp]
                 have:=hdrop.trans hg1.stp
                 simpa [Dl] using this
               · have:=hg1.rep
                 rw[hhp]
                 simpa [Dl] using this
       · simp at h
     · simp at h
theorem V0(hT:B4 P T)(hg:Good X w β hp)(hn:β nb=none){src dst:TypeId}{x:AV}{u:Value}{r:Out}(h:KV T hp nb src dst x=some r)(hob:r.ob)(hx:Rep w β (Own X β hp) x u):
   ∃ v w' β',(convert src dst u).run P w= .ok v w'∧Post X w β hp nb r v w' β':=by
 have hu8: ∀ e,Ly T e=true→P.underlying e=some (.int .u8):=by
   intro e he
   unfold Ly at he
   split at he
   · rename_i ti hti
     obtain⟨_,_,_,_,_,_,_,hud,_⟩:=tab hT hti
     split at he
     · rename_i hd;rw[hud,hd]
     · simp at he
   · simp at he
 have hbs: ∀ (b off:Nat) (es:List (List AV)) (vs:List Value) (n:Nat),Cl w b off vs→ ∀ β',AI w β' (Own X β hp) 1 es vs→(∀ c∈es,Gu c=true)→n=es.length→ ∀ cap,
     (Conv.bytesToString (.slice (some ⟨b,off,none⟩) n cap)).run P w= .ok (.string ⟨(FY es).toArray⟩) w:=by
   intro b off es vs n hc β' hr hb hn cap
   have hl:n=vs.length:=by rw[hr.length,hn];simp
   simp only[Conv.bytesToString,run_bind,DU hc hl]
   rw[← Array.forIn_toList,Qg (fun n r=>rfl) es vs ByteArray.empty hr hb]
   rfl
 unfold KV at h
 split at h
 · rename_i k' k k'' n h1 h2
   simp only[out,Option.some.injEq]at h
   subst h
   simp only[Rep]at hx
   subst hx
   exact⟨_,w,β,by simp only[convert,run_bind,At (Bq hT h1),At (Bq hT h2),Conv.intToInt,run_pure];rfl,Dh hg rfl (by simp[Rep])⟩
 · rename_i s h1 h2
   simp only[out,Option.some.injEq]at h
   subst h
   simp only[Rep]at hx
   subst hx
   exact⟨_,w,β,by simp only[convert,run_bind,At (Bq hT h1),At (Bq hT h2),run_pure];rfl,Dh hg rfl (by simp[Rep])⟩
 · rename_i e s h1 h2
   split at h
   · rename_i he
     simp only[Option.some.injEq]at h
     subst h
     simp only[Rep]at hx
     subst hx
     let cap:=(Question.appendCap s.size 0 e).cut (w.tape w.drawn (.appendCap s.size 0 e))
     have hcap:s.size≤cap:=by simp[cap,Question.cut]
     let c:Array Value:=s.data.map (fun b=> .int .u8 b.toNat)++Array.replicate (cap-s.size) (.int .u8 0)
     have hcs:c.size=cap:=by
       show(s.data.map _++Array.replicate _ _).size=_
       simp
       show s.size+(cap-s.size)=cap
       omega
     refine⟨.slice (some ⟨w.heap.size,0,none⟩) s.size cap,{w with drawn:=w.drawn+1,heap:=w.heap.push (.cells c e (cap,cap+1))},Ce β nb (some w.heap.size),?_,?_⟩
     · simp only[convert,run_bind,At (Bq hT h1),At (Bq hT h2),At (hu8 e he),Conv.stringToBytes]
       have hch: ∀ q:Question,q.forced=false→(choose q).run P w= .ok (q.cut (w.tape w.drawn q)) {w with drawn:=w.drawn+1}:=by
         intro q hq;simp[choose,Sem.run,hq]
       simp only[hch (.appendCap s.size 0 e) rfl,newRow,newObj,run_bind,run_pure,markStringish,shape]
       have hsh:World.shape? {w with drawn:=w.drawn+1,heap:=w.heap.push (.cells c e)} w.heap.size=some (e,c.size):=by simp[World.shape?]
       have hfz:World.freeze {w with drawn:=w.drawn+1,heap:=w.heap.push (.cells c e)} ⟨w.heap.size,c.size,none⟩ 1={w with drawn:=w.drawn+1,heap:=w.heap.push (.cells c e (cap,cap+1))}:=by
         simp only[World.freeze,Nat.one_ne_zero,if_false]
         congr 1
         apply Array.ext_getElem?
         intro j
         simp only[Array.getElem?_modify,Array.getElem?_push]
         by_cases hj:w.heap.size=j
         · subst hj;simp[hcs]
         · rw[if_neg hj,if_neg (fun h=>hj h.symm),if_neg (fun h=>hj h.symm)]
       simp only[c,cap]at hsh hfz ⊢
       simp only[Sem.run,hsh,freeze,hfz]
     · refine Gy hg hn (c:=c) (fr:=(cap,cap+1)) (vs:=(bl s).map fun b=> .int .u8 b.toNat) (rest:=List.replicate (cap-s.size) (.int .u8 0)) rfl (by intro o ho;rw[hcs]at ho;simp;omega) ?_ (JX _) rfl rfl rfl rfl ?_
       · show(s.data.map _++Array.replicate _ _).toList=_
         simp[bl]
       · intro O' hsh
         simp only[Rep]
         exact .inr ⟨w.heap.size,cap,_,_,Df,rfl,hcap,hsh,by rw[hcs];omega⟩
   · simp at h
 · rename_i e e' i n sz h1 h2
   split at h
   · rename_i en he hsd hen
     simp only[Option.some.injEq]at h
     subst h
     simp only at hob
     obtain⟨hnl,hn0⟩:=hob
     obtain rfl:src=dst:=by simpa using hsd
     obtain rfl:e=e':=by rw[h1]at h2;simpa using h2
     simp only[Rep]at hx
     rcases hx with ⟨_,rfl,rfl⟩|⟨b,cap,T',m,hbi,rfl,hnc,hsh,hcap⟩
     · omega
     · rcases hg.ent i en hen with ⟨hb',_⟩|⟨b',c,fr,vs,rest,hb',hh,hfr,hc,hr⟩
       · rw[hbi]at hb';simp at hb'
       · obtain rfl:b=b':=by rw[hbi]at hb';simpa using hb'
         let fr':Nat×Nat:=if fr.1==fr.2 then(c.size,c.size+1)else(min fr.1 c.size,max fr.2 (c.size+1))
         have hfz:World.freeze w ⟨b,c.size,none⟩ 1=CO w b (.cells c en.ty fr'):=by
           simp only[World.freeze,Nat.one_ne_zero,if_false,CO]
           congr 1
           apply Array.ext_getElem?
           intro j
           have hb:=Bp hh
           simp only[Array.getElem?_modify,Array.getElem?_setIfInBounds]
           by_cases hj:b=j
           · subst hj
             simp only[if_true,hh,hb,Option.map_some,fr']
           · simp[hj]
         have hf': ∀ o,o<c.size→fr'.1=fr'.2∨o<fr'.1:=by
           intro o ho
           simp only[fr']
           split
           · exact .inr ho
           · rename_i hne
             have:=hfr o ho
             simp only[beq_iff_eq]at hne
             refine .inr ?_
             simp only;omega
         have hshape:World.shape? w b=some (en.ty,c.size):=by simp[World.shape?,hh]
         have hrun:(convert src src (.slice (some ⟨b,0,none⟩) n cap)).run P w= .ok (.slice (some ⟨b,0,none⟩) n cap) (CO w b (.cells c en.ty fr')):=by
           simp only[convert,run_bind,At (Bq hT h1),At (hu8 e he),beq_self_eq_true,markStringish,shape,run_pure]
           simp only[Sem.run,hshape,freeze,hfz]
         refine⟨_,_,β,hrun,Nn (e:=en) (e':=en) (vs:=vs) (rest:=rest) hg hen hbi hh hf' rfl rfl hc hr rfl (fun O'=>?_)⟩
         simp only[Rep]
         exact .inr ⟨b,cap,T',m,hbi,rfl,hnc,by rw[HK hh rfl];exact hsh,hcap⟩
   · simp at h
 · rename_i e sz es h1 h2
   split at h
   · rename_i he
     simp only[out,Option.some.injEq]at h
     subst h
     simp only at hob
     simp only[Rep]at hx
     rcases hx with ⟨rfl,rfl⟩|⟨b,off,cap,vs,rfl,g1,g2,g3,g4,g5⟩
     · exact⟨.string ByteArray.empty,w,β,by simp only[convert,run_bind,At (Bq hT h1),At (Bq hT h2),At (hu8 e he),Conv.bytesToString,run_pure],Dh hg rfl (by simp[Rep,FY];rfl)⟩
     · refine⟨.string ⟨(FY es).toArray⟩,w,β,?_,Dh hg rfl (by simp only[Rep])⟩
       simp only[convert,run_bind,At (Bq hT h1),At (Bq hT h2),At (hu8 e he)]
       exact hbs b off es vs _ g4 _ (KO g5 hob) hob rfl cap
   · simp at h
 · rename_i e i n sz h1 h2
   split at h
   · rename_i en he hen
     simp only[Option.some.injEq]at h
     subst h
     simp only at hob
     obtain⟨hb,hl,hs⟩:=hob
     simp only[Rep]at hx
     rcases hx with ⟨_,rfl,rfl⟩|⟨b,cap,T',m,hbi,rfl,_⟩
     · have:en.es=[]:=List.eq_nil_of_length_eq_zero hl
       exact⟨.string ByteArray.empty,w,β,by simp only[convert,run_bind,At (Bq hT h1),At (Bq hT h2),At (hu8 e he),Conv.bytesToString,run_pure],Dh hg rfl (by simp[Rep,FY,this];rfl)⟩
     · rcases hg.ent i en hen with ⟨hb',_⟩|⟨b',c,fr,vs,rest,hb',hh,hfr,hc,hr⟩
       · rw[hbi]at hb';simp at hb'
       · obtain rfl:b=b':=by rw[hbi]at hb';simpa using hb'
         refine⟨.string ⟨(FY en.es).toArray⟩,w,β,?_,Dh hg rfl (by simp only[Rep])⟩
         simp only[convert,run_bind,At (Bq hT h1),At (Bq hT h2),At (hu8 e he)]
         exact hbs b 0 en.es vs _ (CZ hh hc) _ (KO hr hb) hb hl.symm cap
   · simp at h
 · rename_i e h1 h2
   split at h
   · rename_i he
     simp only[out,Option.some.injEq]at h
     subst h
     simp only[Rep]at hx
     subst hx
     exact⟨.string ByteArray.empty,w,β,by simp only[convert,run_bind,At (Bq hT h1),At (Bq hT h2),At (hu8 e he),Conv.bytesToString,run_pure],Dh hg rfl (by simp[Rep];rfl)⟩
   · simp at h
 · simp at h
end mem
mutual
theorem UR{w:World}{β1 β2:Gm}{O:Nat→Prop}{ρ:Nat→Nat}(h: ∀ i p,β1 i=some p→β2 (ρ i)=some p): ∀ (a:AV) (v:Value),Rep w β1 O a v→Rep w β2 O (ren ρ a) v
 | .any,v,_=>by simp[ren,Rep]
 | .val u,v,hr=>by simpa [ren,Rep] using hr
 | .agg cs,v,hr=>by
   simp only[ren,Rep]at hr ⊢
   obtain⟨vs,rfl,hl⟩:=hr
   exact⟨vs,rfl,Jh h cs vs hl⟩
 | .tup cs,v,hr=>by
   simp only[ren,Rep]at hr ⊢
   obtain⟨vs,rfl,hl⟩:=hr
   exact⟨vs,rfl,Jh h cs vs hl⟩
 | .fn f k cs,v,hr=>by
   simp only[ren,Rep]at hr ⊢
   obtain⟨vs,rfl,hl⟩:=hr
   exact⟨vs,rfl,Jh h cs vs hl⟩
 | .sl sz es,v,hr=>by simpa only[ren,Rep] using hr
 | .rp cs,v,hr=>by simpa only[ren,Rep] using hr
 | .osl i n sz,v,hr=>by
   simp only[ren,Rep]at hr ⊢
   rcases hr with ⟨h1,h2⟩|⟨b,cap,T,m,h1,h2⟩
   · exact .inl ⟨h _ _ h1,h2⟩
   · exact .inr ⟨b,cap,T,m,h _ _ h1,h2⟩
 | .ptr i sz k off,v,hr=>by
   simp only[ren,Rep]at hr ⊢
   obtain⟨b,h1,h2⟩:=hr
   exact⟨b,h _ _ h1,h2⟩
 | .osv i lo n sz,v,hr=>by
   simp only[ren,Rep]at hr ⊢
   rcases hr with ⟨h1,h2⟩|⟨b,off,cap,T,m,h1,h2⟩
   · exact .inl ⟨h _ _ h1,h2⟩
   · exact .inr ⟨b,off,cap,T,m,h _ _ h1,h2⟩
theorem Jh{w:World}{β1 β2:Gm}{O:Nat→Prop}{ρ:Nat→Nat}(h: ∀ i p,β1 i=some p→β2 (ρ i)=some p): ∀ (a:List AV) (v:List Value),AJ w β1 O a v→AJ w β2 O (BK ρ a) v
 | [],v,hr=>by simpa [BK,AJ] using hr
 |c::cs,v,hr=>by
   simp only[BK,AJ]at hr ⊢
   obtain⟨u,r,h1,h2,h3⟩:=hr
   exact⟨u,r,h1,UR h c u h2,Jh h cs r h3⟩
end
mutual
theorem LM{w:World}{β1 β2:Gm}{O:Nat→Prop}{ρ:Nat→Nat}{k:Nat}(h: ∀ i,i<k→β1 i=β2 (ρ i)): ∀ (a:AV) (v:Value),AN k a=true→Rep w β2 O (ren ρ a) v→Rep w β1 O a v
 | .any,v,_,_=>by simp[Rep]
 | .val u,v,_,hr=>by simpa [ren,Rep] using hr
 | .agg cs,v,hk,hr=>by
   simp only[ren,Rep]at hr ⊢
   obtain⟨vs,rfl,hl⟩:=hr
   exact⟨vs,rfl,Hx h cs vs (by simpa [AN] using hk) hl⟩
 | .tup cs,v,hk,hr=>by
   simp only[ren,Rep]at hr ⊢
   obtain⟨vs,rfl,hl⟩:=hr
   exact⟨vs,rfl,Hx h cs vs (by simpa [AN] using hk) hl⟩
 | .fn f k' cs,v,hk,hr=>by
   simp only[ren,Rep]at hr ⊢
   obtain⟨vs,rfl,hl⟩:=hr
   exact⟨vs,rfl,Hx h cs vs (by simpa [AN] using hk) hl⟩
 | .sl sz es,v,_,hr=>by simpa only[ren,Rep] using hr
 | .rp cs,v,_,hr=>by simpa only[ren,Rep] using hr
 | .osl i n sz,v,hk,hr=>by
   have hi:i<k:=by simpa [AN] using hk
   simp only[ren,Rep]at hr ⊢
   rw[h i hi];exact hr
 | .ptr i sz k' off,v,hk,hr=>by
   have hi:i<k:=by simpa [AN] using hk
   simp only[ren,Rep]at hr ⊢
   rw[h i hi];exact hr
 | .osv i lo n sz,v,hk,hr=>by
   have hi:i<k:=by simpa [AN] using hk
   simp only[ren,Rep]at hr ⊢
   rw[h i hi];exact hr
theorem Hx{w:World}{β1 β2:Gm}{O:Nat→Prop}{ρ:Nat→Nat}{k:Nat}(h: ∀ i,i<k→β1 i=β2 (ρ i)): ∀ (a:List AV) (v:List Value),AF k a=true→AJ w β2 O (BK ρ a) v→AJ w β1 O a v
 | [],v,_,hr=>by simpa [BK,AJ] using hr
 |c::cs,v,hk,hr=>by
   simp only[BK,AJ]at hr ⊢
   simp only[AF,Bool.and_eq_true]at hk
   obtain⟨u,r,h1,h2,h3⟩:=hr
   exact⟨u,r,h1,LM h c u hk.1 h2,Hx h cs r hk.2 h3⟩
end
theorem Ib(ρ:Nat→Nat): ∀ cs:List AV,(BK ρ cs).length=cs.length
 | []=>rfl
 |c::cs=>by simp[BK,Ib ρ cs]
theorem RA{w:World}{β1 β2:Gm}{O:Nat→Prop}{ρ:Nat→Nat}(h: ∀ i p,β1 i=some p→β2 (ρ i)=some p){sz:Nat}: ∀ (a:List (List AV)) (v:List Value),AI w β1 O sz a v→AI w β2 O sz (a.map (BK ρ)) v
 | [],v,hr=>by simpa [AI] using hr
 |c::cs,v,hr=>by
   simp only[List.map_cons,AI]at hr ⊢
   obtain⟨u,r,h1,h2,h3,h4⟩:=hr
   exact⟨u,r,h1,by rw[Ib];exact h2,Jh h c u h3,RA h cs r h4⟩
theorem IQ{w:World}{β1 β2:Gm}{O:Nat→Prop}{ρ:Nat→Nat}{k:Nat}(h: ∀ i,i<k→β1 i=β2 (ρ i)){sz:Nat}: ∀ (a:List (List AV)) (v:List Value),AB k a=true→AI w β2 O sz (a.map (BK ρ)) v→AI w β1 O sz a v
 | [],v,_,hr=>by simpa [AI] using hr
 |c::cs,v,hk,hr=>by
   simp only[List.map_cons,AI]at hr ⊢
   simp only[AB,List.all_cons,Bool.and_eq_true]at hk
   obtain⟨u,r,h1,h2,h3,h4⟩:=hr
   exact⟨u,r,h1,by rw[Ib]at h2;exact h2,Hx h c u hk.1 h3,IQ h cs r hk.2 h4⟩
mutual
theorem WJ: ∀ a:AV,ren (fun i=>i) a=a
 | .osv i lo n sz=>rfl
 | .any=>rfl
 | .val u=>rfl
 | .agg cs=>by simp[ren,I6 cs]
 | .tup cs=>by simp[ren,I6 cs]
 | .fn f k cs=>by simp[ren,I6 cs]
 | .sl sz es=>rfl
 | .rp cs=>rfl
 | .osl i n sz=>rfl
 | .ptr i sz k off=>rfl
theorem I6: ∀ a:List AV,BK (fun i=>i) a=a
 | []=>rfl
 |c::cs=>by simp[BK,WJ c,I6 cs]
end
theorem Hk{w:World}{β:Gm}{O:Nat→Prop}{sz:Nat}{a:List (List AV)}{v:List Value}(hk:AB 0 a=true)(h:AI w β O sz a v):AI w β0 O sz a v:=by
 refine IQ (ρ:=fun i=>i) (k:=0) (β2:=β) (fun i hi=>by omega) a v hk ?_
 have:a.map (BK fun i=>i)=a:=(List.map_congr_left (fun c _=>I6 c)).trans (List.map_id a)
 rw[this];exact h
mutual
theorem RQ{w:World}{β:Gm}{O O':Nat→Prop}: ∀ (a:AV) (v:Value),ER a=true→Rep w β O a v→Rep w β O' a v
 | .any,v,_,_=>by simp[Rep]
 | .val u,v,_,hr=>by simpa [Rep] using hr
 | .agg cs,v,hk,hr=>by
   simp only[Rep]at hr ⊢
   obtain⟨vs,rfl,hl⟩:=hr
   exact⟨vs,rfl,Im cs vs (by simpa [ER] using hk) hl⟩
 | .tup cs,v,hk,hr=>by
   simp only[Rep]at hr ⊢
   obtain⟨vs,rfl,hl⟩:=hr
   exact⟨vs,rfl,Im cs vs (by simpa [ER] using hk) hl⟩
 | .fn f k cs,v,hk,hr=>by
   simp only[Rep]at hr ⊢
   obtain⟨vs,rfl,hl⟩:=hr
   exact⟨vs,rfl,Im cs vs (by simpa [ER] using hk) hl⟩
 | .sl sz es,v,hk,hr=>by simp[ER]at hk
 | .rp cs,v,hk,hr=>by simp[ER]at hk
 | .osl i n sz,v,_,hr=>by simpa only[Rep] using hr
 | .ptr i sz k off,v,_,hr=>by simpa only[Rep] using hr
 | .osv i lo n sz,v,_,hr=>by simpa only[Rep] using hr
theorem Im{w:World}{β:Gm}{O O':Nat→Prop}: ∀ (a:List AV) (v:List Value),Ie a=true→AJ w β O a v→AJ w β O' a v
 | [],v,_,hr=>by simpa [AJ] using hr
 |c::cs,v,hk,hr=>by
   simp only[AJ]at hr ⊢
   simp only[Ie,Bool.and_eq_true]at hk
   obtain⟨u,r,h1,h2,h3⟩:=hr
   exact⟨u,r,h1,RQ c u hk.1 h2,Im cs r hk.2 h3⟩
end
theorem P5{w:World}{β:Gm}{O O':Nat→Prop}{sz:Nat}: ∀ (a:List (List AV)) (v:List Value),EC a=true→AI w β O sz a v→AI w β O' sz a v
 | [],v,_,hr=>by simpa [AI] using hr
 |c::cs,v,hk,hr=>by
   simp only[AI]at hr ⊢
   simp only[EC,List.all_cons,Bool.and_eq_true]at hk
   obtain⟨u,r,h1,h2,h3,h4⟩:=hr
   exact⟨u,r,h1,h2,Im c u hk.1 h3,P5 cs r hk.2 h4⟩
mutual
theorem RG(ρ:Nat→Nat): ∀ a,ER (ren ρ a)=ER a
 | .osv i lo n sz=>rfl
 | .any=>rfl
 | .val u=>rfl
 | .agg cs=>by simp[ren,ER,Is ρ cs]
 | .tup cs=>by simp[ren,ER,Is ρ cs]
 | .fn f k cs=>by simp[ren,ER,Is ρ cs]
 | .sl sz es=>rfl
 | .rp cs=>rfl
 | .osl i n sz=>rfl
 | .ptr i sz k off=>rfl
theorem Is(ρ:Nat→Nat): ∀ a,Ie (BK ρ a)=Ie a
 | []=>rfl
 |c::cs=>by simp[BK,Ie,RG ρ c,Is ρ cs]
end
theorem M6{w:World}{β:Gm}{O:Nat→Prop}: ∀ (as:List AV) (vs:List Value),as.length=vs.length→(∀ (j:Nat) a v,as[j]? =some a→vs[j]? =some v→Rep w β O a v)→AJ w β O as vs
 | [],vs,hl,_=>by simp only[AJ];exact List.eq_nil_of_length_eq_zero hl.symm
 |a::as,[],hl,_=>by simp at hl
 |a::as,v::vs,hl,h=>by
   simp only[AJ]
   exact⟨v,vs,rfl,h 0 a v rfl rfl,M6 as vs (by simpa using hl) (fun j a v h1 h2=>h (j+1) a v (by simpa using h1) (by simpa using h2))⟩
theorem LY{hp:Hp}{ρ:Nat→Nat}{f:Nat→Option Ent}: ∀ (l:List Nat) (hp:Hp) (j:Nat),(∀ i∈l,ρ i≠j)→BP hp (l.map fun i=>(ρ i,f i)) j=hp j
 | [],hp,j,_=>rfl
 |i::l,hp,j,h=>by
   simp only[List.map_cons,Dl]
   rw[LY (hp:=hp) l _ j (fun i' hi'=>h i' (by simp[hi'])),BT (fun e=>h i sP e.symm)]
theorem RS{hp:Hp}{ρ:Nat→Nat}{f:Nat→Option Ent}: ∀ (l:List Nat) (hp:Hp) (i:Nat),i∈l→(∀ i'∈l,ρ i'=ρ i→i'=i)→BP hp (l.map fun i=>(ρ i,f i)) (ρ i)=f i
 | [],hp,i,hi,_=>by simp at hi
 |i0::l,hp,i,hi,h=>by
   simp only[List.map_cons,Dl]
   by_cases hm:i∈l
   · exact RS (hp:=hp) l _ i hm (fun i' hi'=>h i' (by simp[hi']))
   · have:i=i0:=by rcases List.mem_cons.1 hi with h|h;exact h;exact absurd h hm
     subst this
     rw[LY (hp:=hp) l _ _ (fun i' hi' he=>hm (h i' (by simp[hi']) he ▸ hi'))]
     simp
section call
variable {X : Nat → Prop} {P : Program} {w : World} {β : Gm} {hp : Hp} {nb : Nat}
theorem HS{l:List Nat}{i:Nat}(h:i<l.length):l.getD i 0=l[i]:=by simp[List.getD,h]
theorem OU{g:FuncId}{o:Orc}{args:List AV}{vals:List Value}(hg:Good X w β hp)(hfresh: ∀ j,nb≤j→j<nb+8→β j=none)(hargs:AJ w β (Own X β hp) args vals)(hob:(Bd P g args hp nb o).ob):
   Calls P g vals.toArray w fun e w'=> ∃ v β',e= .returned v∧Post X w β hp nb (Bd P g args hp nb o) v w' β':=by
 obtain⟨⟨hfn,hcall⟩,hnd,hil,hhs,hle,hle8,hal,hview,hbor,hbd,hidA,hidH⟩:=hob
 have hρ: ∀ i,i<o.ids.length→o.ρ nb i=o.ids.getD i 0:=fun i hi=>by simp[Orc.ρ,hi]
 have hρ2: ∀ i,o.ids.length≤i→o.ρ nb i=nb+(i-o.ids.length):=fun i hi=>by simp[Orc.ρ,Nat.not_lt.2 hi]
 generalize hρdef:o.ρ nb=ρ at*
 let βc:Gm:=fun i=>if i<o.ids.length then β (o.ids.getD i 0)else none
 have hβc: ∀ i,i<o.ids.length→βc i=β (ρ i):=fun i hi=>by rw[hρ i hi];simp[βc,hi]
 have hβn: ∀ i,o.ids.length≤i→βc i=none:=fun i hi=>by simp[βc,Nat.not_lt.2 hi]
 let Xc:Nat→Prop:=fun b=>X b∨ ∃ j e,hp j=some e∧β j=some (some b)∧j∉o.ids∧j∉o.bor
 have hcl: ∀ i e,hpL (o.hs.map some) i=some e→i<o.ids.length∧o.hs[i]? =some e∧hp (ρ i)=some (Cy ρ e):=by
   intro i e hi
   have h1:o.hs[i]? =some e:=by
     simp only[hpL,List.getElem?_map]at hi
     cases h:o.hs[i]? with
     |none=>rw[h]at hi;simp at hi
     |some e'=>rw[h]at hi;simpa using hi
   have hlt:i<o.ids.length:=by
     rw[hil]
     rcases Nat.lt_or_ge i o.hs.length with h|h
     · exact h
     · rw[List.getElem?_eq_none h]at h1;cases h1
   refine⟨hlt,h1,?_⟩
   rw[hρ i hlt,hhs i hlt,h1];rfl
 have hmem: ∀ i,i<o.ids.length→ρ i∈o.ids:=fun i hi=>by rw[hρ i hi,HS hi];exact List.getElem_mem hi
 have hlive: ∀ i,i<o.ids.length→ ∃ e,hp (ρ i)=some e:=by
   intro i hi
   have:i<o.hs.length:=by omega
   exact⟨Cy ρ o.hs[i],by rw[hρ i hi,hhs i hi];simp[this]⟩
 have hinjρ: ∀ i j,i<o.ids.length→j<o.ids.length→ρ i=ρ j→i=j:=by
   intro i j hi hj h
   rw[hρ i hi,hρ j hj,HS hi,HS hj]at h
   exact(List.getElem_inj hnd).1 h
 have hzone: ∀ j,β j≠none→ ¬ (nb≤j∧j<nb+8):=fun j hj h=>hj (hfresh j h.1 h.2)
 have hsub: ∀ b,Own Xc βc (hpL (o.hs.map some)) b→Own X β hp b:=by
   rintro b ((hX|⟨j,e,h1,h2,_⟩)|⟨i,e,hi,hb⟩)
   · exact .inl hX
   · exact .inr ⟨j,e,h1,h2⟩
   · obtain⟨hlt,_,h3⟩:=hcl i e hi
     exact .inr ⟨ρ i,_,h3,by rw[← hβc i hlt];exact hb⟩
 have hst:Stab w w β β (Own X β hp) (Own Xc βc (hpL (o.hs.map some))):=⟨Nat.le_refl _,fun _ _ h=>h,fun _ _ h=>h,fun b _ h=>⟨.inl rfl,fun h'=>h (hsub b h')⟩⟩
 have hgc:Good Xc w βc (hpL (o.hs.map some)):=by
   refine⟨?_,?_,?_,?_,hg.laid.1,fun b hb=>⟨(hg.laid.2 b hb).1,fun h=>(hg.laid.2 b hb).2 (hsub b h)⟩⟩
   · intro i j e e' b hi hj hbi hbj
     obtain⟨li,_,h1⟩:=hcl i e hi
     obtain⟨lj,_,h2⟩:=hcl j e' hj
     rw[hβc i li]at hbi;rw[hβc j lj]at hbj
     exact hinjρ i j li lj (hg.inj _ _ _ _ b h1 h2 hbi hbj)
   · intro i e hi
     obtain⟨li,hh,h1⟩:=hcl i e hi
     rw[hβc i li]
     rcases hg.ent (ρ i) _ h1 with ⟨g1,g2⟩|⟨b,c,fr,vs,rest,g1,g2,g3,g4,g5⟩
     · refine .inl ⟨g1,?_⟩
       simpa [Cy] using g2
     · refine .inr ⟨b,c,fr,vs,rest,g1,g2,g3,g4,?_⟩
       exact IQ hβc _ _ (hidH e (List.mem_of_getElem? hh)) (AI.mono hst _ _ _ g5)
   · rintro i e b hi hb (hX|⟨j,f,h1,h2,h3,_⟩)
     · obtain⟨li,_,hl⟩:=hcl i e hi
       rw[hβc i li]at hb
       exact hg.xdis _ _ b hl hb hX
     · obtain⟨li,_,hl⟩:=hcl i e hi
       rw[hβc i li]at hb
       exact h3 (hg.inj _ _ _ _ b hl h1 hb h2 ▸ hmem i li)
   · rintro b (hX|⟨j,f,h1,h2,_⟩)
     · exact hg.xlt b hX
     · exact hg.lt h1 h2
 have hborb: ∀ i e b,i∈o.bor→hp i=some e→β i=some (some b)→ ¬ Own Xc βc (hpL (o.hs.map some)) b:=by
   rintro i e b hi he hb ((hX|⟨j,f,h1,h2,h3,h4⟩)|⟨j,f,hj,hbj⟩)
   · exact hg.xdis i e b he hb hX
   · exact h4 (hg.inj _ _ _ _ b h1 he h2 hb ▸ hi)
   · obtain⟨lj,_,hl⟩:=hcl j f hj
     rw[hβc j lj]at hbj
     exact(hbd i hi).1 (hg.inj _ _ _ _ b hl he hbj hb ▸ hmem j lj)
 have hv1: ∀ (c a:AV) (v:Value),AN o.ids.length a=true→JL hp o.bor c (ren ρ a)→Rep w β (Own X β hp) c v→Rep w βc (Own Xc βc (hpL (o.hs.map some))) a v:=by
   intro c a v hk hv hr
   rcases hv with rfl|⟨i,n,sz,e,rfl,hib,he,hn,hsz,ha⟩|⟨rfl,sz,ha⟩
   · exact LM hβc a v hk (Rep.mono hst _ _ hr)
   · have:a= .sl sz e.es:=by cases a<;>simp[ren]at ha ⊢;exact ha
     subst this
     simp only[Rep]at hr ⊢
     rcases hr with ⟨h1,rfl,rfl⟩|⟨b,cap,T',m,h1,rfl,h2,h3,h4⟩
     · exact .inl ⟨rfl,List.eq_nil_of_length_eq_zero hn⟩
     · rcases hg.ent i e he with ⟨hb',_⟩|⟨b',c,fr,vs,rest,hb',hh,hfr,hc,hre⟩
       · rw[h1]at hb';simp at hb'
       · obtain rfl:b=b':=by rw[h1]at hb';simpa using hb'
         subst hn
         refine .inr ⟨b,0,cap,vs,rfl,h2,Bp hh,hborb i e b hib he h1,CZ hh hc,?_⟩
         rw[← hsz]
         exact Hk ((hbd i hib).2 e he) (AI.mono hst _ _ _ hre)
   · have:a= .sl sz []:=by cases a<;>simp[ren]at ha ⊢;exact ha
     subst this
     simp only[Rep]at hr ⊢
     exact .inl ⟨hr,trivial⟩
 have hvl: ∀ (cs as:List AV) (vs:List Value),AF o.ids.length as=true→IT hp o.bor cs (BK ρ as)→AJ w β (Own X β hp) cs vs→AJ w βc (Own Xc βc (hpL (o.hs.map some))) as vs:=by
   intro cs
   induction cs with
   |nil=>
     intro as vs hk hv hr
     cases as with
     |nil=>simpa [AJ] using hr
     |cons a as=>simp[BK,IT]at hv
   |cons c cs ih=>
     intro as vs hk hv hr
     cases as with
     |nil=>simp[BK,IT]at hv
     |cons a as=>
       simp only[BK,IT]at hv
       simp only[AF,Bool.and_eq_true]at hk
       simp only[AJ]at hr ⊢
       obtain⟨u,r,h1,h2,h3⟩:=hr
       exact⟨u,r,h1,hv1 c a u hk.1 hv.1 h2,ih as r hk.2 hv.2 h3⟩
 have hgetk: ∀ (as:List AV),AF o.ids.length as=true→ ∀ (j:Nat) a,as[j]? =some a→AN o.ids.length a=true:=by
   intro as
   induction as with
   |nil=>intro _ j a h;simp at h
   |cons c cs ih=>
     intro hk j a h
     simp only[AF,Bool.and_eq_true]at hk
     cases j with
     |zero=>simp at h;exact h ▸ hk.1
     |succ j=>exact ih hk.2 j a (by simpa using h)
 have has:AJ w βc (Own Xc βc (hpL (o.hs.map some))) o.as vals:=by
   refine M6 _ _ (by rw[← hal,hargs.length]) ?_
   intro j a v ha hv
   have hjlt:j<args.length:=by
     rw[hal]
     rcases Nat.lt_or_ge j o.as.length with h|h
     · exact h
     · rw[List.getElem?_eq_none h]at ha;cases ha
   obtain⟨u,hu,hru⟩:=hargs.get j args[j] (by simp[hjlt])
   obtain rfl:u=v:=by rw[hu]at hv;simpa using hv
   have hka:=hgetk _ hidA j a ha
   rcases hview j args[j] a (by simp[hjlt]) ha with h|⟨cs,as',h1,h2,h3⟩
   · exact hv1 _ _ _ hka h hru
   · cases a<;>simp[ren]at h2
     rename_i cs'
     subst h2
     rw[h1]at hru
     simp only[Rep]at hru ⊢
     obtain⟨vs,rfl,hl⟩:=hru
     exact⟨vs,rfl,hvl cs cs' vs (by simpa [AN] using hka) h3 hl⟩
 refine(hcall Xc w βc vals has hgc (fun i hi=>hβn i (by simpa [hil] using hi))).mono ?_
 rintro e w' ⟨v,βc',rfl,hrep,hgood,hfrm,hkeep,hext,hnone⟩
 let β'':Gm:=fun j=>if nb≤j∧j<nb+8 then βc' (o.ids.length+(j-nb))else β j
 let hp'':Hp:=BP hp ((List.range o.hs'.length).map fun i=>(ρ i,((o.hs'[i]?).join).map (Cy ρ)))
 have hβi: ∀ i,i<o.ids.length→βc' i=β (ρ i)∧β'' (ρ i)=β (ρ i)∧β (ρ i)≠none:=by
   intro i hi
   obtain⟨e,he⟩:=hlive i hi
   have hne:=hg.some he
   refine⟨?_,by simp[β'',hzone _ hne],hne⟩
   cases hb:β (ρ i)with
   |none=>exact absurd hb hne
   |some p=>exact hext i p (by rw[hβc i hi];exact hb)
 have hβz: ∀ i,o.ids.length≤i→i<o.ids.length+8→β'' (ρ i)=βc' i:=by
   intro i h1 h2
   rw[hρ2 i h1]
   simp only[β'']
   rw[if_pos oM]
   congr 1;omega
 have hback: ∀ i p,βc' i=some p→β'' (ρ i)=some p:=by
   intro i p hp'
   rcases Nat.lt_or_ge i o.ids.length with h|h
   · obtain⟨h1,h2,_⟩:=hβi i h
     rw[h2,← h1];exact hp'
   · rw[hβz i h ?_]
     · exact hp'
     · rcases Nat.lt_or_ge i o.hs'.length with h'|h'
       · omega
       · rw[hnone i h']at hp';cases hp'
 have hρinj: ∀ i j,i<o.hs'.length→j<o.hs'.length→ρ i=ρ j→i=j:=by
   intro i j hi hj h
   rcases Nat.lt_or_ge i o.ids.length with h1|h1<;>rcases Nat.lt_or_ge j o.ids.length with h2|h2
   · exact hinjρ i j h1 h2 h
   · exfalso
     rw[hρ2 j h2]at h
     exact hzone _ (hβi i h1).2.2 (by rw[h];omega)
   · exfalso
     rw[hρ2 i h1]at h
     exact hzone _ (hβi j h2).2.2 (by rw[← h];omega)
   · rw[hρ2 i h1,hρ2 j h2]at h;omega
 have hext'':Cp β β'':=by
   intro j p hj
   simp only[β'']
   rw[if_neg (hzone j (by rw[hj];simp))];exact hj
 have hl'': ∀ j f,hp'' j=some f→(∃ i e,i<o.hs'.length∧j=ρ i∧hpL o.hs' i=some e∧f=Cy ρ e∧β'' j=βc' i)∨(hp j=some f∧j∉o.ids∧β'' j=β j):=by
   intro j f hj
   by_cases h: ∃ i,i<o.hs'.length∧ρ i=j
   · obtain⟨i,hi,rfl⟩:=h
     left
     have h1:hp'' (ρ i)=((o.hs'[i]?).join).map (Cy ρ):=RS (hp:=hp) _ _ _ (by simpa using hi) (fun i' hi' he=>hρinj i' i (by simpa using hi') hi he)
     rw[h1]at hj
     cases hx:(o.hs'[i]?).join with
     |none=>rw[hx]at hj;simp at hj
     |some e=>
       rw[hx]at hj
       refine⟨i,e,hi,rfl,hx,by simpa using hj.symm,?_⟩
       rcases Nat.lt_or_ge i o.ids.length with h|h
       · obtain⟨h1,h2,_⟩:=hβi i h;rw[h2,h1]
       · exact hβz i h oM
   · right
     have h1:hp'' j=hp j:=LY (hp:=hp) _ _ _ (fun i hi he=>h ⟨i,by simpa using hi,he⟩)
     rw[h1]at hj
     refine⟨hj,fun hm=>?_,?_⟩
     · obtain⟨i,hi,rfl⟩:=List.getElem_of_mem hm
       exact h ⟨i,oM,by rw[hρ i hi,HS hi]⟩
     · simp only[β''];rw[if_neg (hzone j (hg.some hj))]
 have hO'': ∀ b,Own X β'' hp'' b→Own Xc βc' (hpL o.hs') b∨ ∃ j f,j∈o.bor∧hp j=some f∧β j=some (some b):=by
   rintro b (hX|⟨j,f,hj,hb⟩)
   · exact .inl (.inl (.inl hX))
   · rcases hl'' j f hj with ⟨i,e,hi,rfl,he,rfl,hβ⟩|⟨h1,h2,h3⟩
     · exact .inl (.inr ⟨i,e,he,by rw[← hβ];exact hb⟩)
     · rw[h3]at hb
       by_cases hbm:j∈o.bor
       · exact .inr ⟨j,f,hbm,h1,hb⟩
       · exact .inl (.inl (.inr ⟨j,f,h1,hb,h2,hbm⟩))
 have hOw: ∀ b,Own X β'' hp'' b→Own X β hp b∨w.heap.size≤b:=by
   intro b hb
   rcases hO'' b hb with h|⟨j,f,_,h1,h2⟩
   · rcases hfrm.own b h with h|h
     · exact .inl (hsub b h)
     · exact .inr h
   · exact .inl (.inr ⟨j,f,h1,h2⟩)
 have hfrm'':Frm w (Own X β hp) w' (Own X β'' hp''):=⟨hfrm.os,hfrm.tape,hfrm.output,hfrm.size,fun b hb ho=>hfrm.same b hb (fun h=>ho (hsub b h)),hOw,hfrm.shape⟩
 have hstO:o.bor=[]→Stab w' w' β'' β'' (Own Xc βc' (hpL o.hs')) (Own X β'' hp''):=by
   intro hb
   refine⟨Nat.le_refl _,fun _ _ h=>h,fun _ _ h=>h,fun b _ h=>⟨.inl rfl,fun h'=>?_⟩⟩
   rcases hO'' b h' with h1|⟨j,f,hm,_⟩
   · exact h h1
   · rw[hb]at hm;simp at hm
 have hrepO: ∀ (a:AV) (v:Value),(o.bor≠[]→ER a=true)→Rep w' βc' (Own Xc βc' (hpL o.hs')) a v→Rep w' β'' (Own X β'' hp'') (ren ρ a) v:=by
   intro a v hn hr
   have h1:=UR hback a v hr
   by_cases hb:o.bor=[]
   · exact Rep.mono (hstO hb) _ _ h1
   · exact RQ _ _ (by rw[RG];exact hn hb) h1
 have hrepE: ∀ (sz:Nat) (a:List (List AV)) (v:List Value),(o.bor≠[]→EC a=true)→AI w' βc' (Own Xc βc' (hpL o.hs')) sz a v→AI w' β'' (Own X β'' hp'') sz (a.map (BK ρ)) v:=by
   intro sz a v hn hr
   have h1:=RA hback a v hr
   by_cases hb:o.bor=[]
   · exact AI.mono (hstO hb) _ _ _ h1
   · refine P5 _ _ ?_ h1
     have:=hn hb
     simp only[EC,List.all_map]at this ⊢
     simpa [Function.comp_def,Is] using this
 have hbnot: ∀ j f b,j∈o.bor→hp j=some f→β j=some (some b)→ ¬ Own Xc βc' (hpL o.hs') b:=by
   intro j f b hj hf hb h
   rcases hfrm.own b h with h|h
   · exact hborb j f b hj hf hb h
   · have:=hg.lt hf hb;omega
 have hgood'':Good X w' β'' hp'':=by
   refine Hr hg hfrm'' hext'' ?_ ?_ ?_
   · intro j k f f' b hj hk hbj hbk
     rcases hl'' j f hj with ⟨i,e,hi,rfl,he,rfl,hβ⟩|⟨h1,h2,h3⟩<;>rcases hl'' k f' hk with ⟨i',e',hi',rfl,he',rfl,hβ'⟩|⟨h1',h2',h3'⟩
     · rw[hβ]at hbj;rw[hβ']at hbk
       rw[hgood.inj i i' e e' b he he' hbj hbk]
     · exfalso
       rw[hβ]at hbj;rw[h3']at hbk
       by_cases hbm:k∈o.bor
       · exact hbnot k f' b hbm h1' hbk (.inr ⟨i,e,he,hbj⟩)
       · exact hgood.xdis i e b he hbj (.inr ⟨k,f',h1',hbk,h2',hbm⟩)
     · exfalso
       rw[h3]at hbj;rw[hβ']at hbk
       by_cases hbm:j∈o.bor
       · exact hbnot j f b hbm h1 hbj (.inr ⟨i',e',he',hbk⟩)
       · exact hgood.xdis i' e' b he' hbk (.inr ⟨j,f,h1,hbj,h2,hbm⟩)
     · rw[h3]at hbj;rw[h3']at hbk
       exact hg.inj j k f f' b h1 h1' hbj hbk
   · intro j f hj
     rcases hl'' j f hj with ⟨i,e,hi,rfl,he,rfl,hβ⟩|⟨h1,h2,h3⟩
     · left
       rw[hβ]
       rcases hgood.ent i e he with ⟨g1,g2⟩|⟨b,c,fr,vs,rest,g1,g2,g3,g4,g5⟩
       · exact .inl ⟨g1,by simp[Cy,g2]⟩
       · refine .inr ⟨b,c,fr,vs,rest,g1,g2,g3,g4,hrepE _ _ _ (fun hb=>?_) g5⟩
         refine(hbor hb).2 e ?_
         have:o.hs'[i]? =some (some e):=by
           simp only[hpL]at he
           cases hx:o.hs'[i]? with
           |none=>rw[hx]at he;simp at he
           |some y=>rw[hx]at he;simp at he;rw[he]
         exact List.mem_of_getElem? this
     · refine .inr ⟨h1,fun b hb=>?_⟩
       by_cases hbm:j∈o.bor
       · exact hfrm.same b (hg.lt h1 hb) (hborb j f b hbm h1 hb)
       · exact hkeep b (.inr ⟨j,f,h1,hb,h2,hbm⟩)
   · intro j f b hj hb hX
     rcases hl'' j f hj with ⟨i,e,hi,rfl,he,rfl,hβ⟩|⟨h1,h2,h3⟩
     · rw[hβ]at hb
       exact hgood.xdis i e b he hb (.inl hX)
     · rw[h3]at hb;exact hg.xdis j f b h1 hb hX
 refine⟨v,β'',rfl,?_⟩
 have hhw:(Bd P g args hp nb o).hw=(List.range o.hs'.length).map fun i=>(ρ i,((o.hs'[i]?).join).map (Cy ρ)):=by simp only[Bd,hρdef]
 have hvv:(Bd P g args hp nb o).v=ren ρ o.r:=by simp only[Bd,hρdef]
 refine⟨?_,by rw[hhw];exact hgood'',by rw[hhw];exact hfrm'',hext'',fun b hb=>hkeep b (.inl hb),?_⟩
 · rw[hhw,hvv]
   exact hrepO o.r v (fun hb=>(hbor hb).1) hrep
 · intro j hj
   by_cases hz:nb≤j∧j<nb+8
   · exact .inr hz
   · simp only[β'',if_neg hz]at hj;exact .inl hj
end call
section exec
variable {X : Nat → Prop} {P : Program} {T : Tab} {w : World} {β : Gm} {hp : Hp} {nb : Nat} {env : Env} {a : Act} {K : Act → World → Prop} {Q : Exit → Act → World → Prop}
theorem FX{o:Oper}{v:Value}{w':World}(h:(execOp a.eval o).run P w= .ok (.value v) w')(hk:K (a.put o.dst v) w'):o.wp P a w K Q:=by
 unfold Oper.wp;rw[h];exact hk
theorem Dv{m:Sem Value}{v:Value}{w':World}(h:m.run P w= .ok v w'):(do pure (Next.value (← m)):Sem Next).run P w= .ok (.value v) w':=by
 rw[run_bind,h];rfl
theorem Iz{O:Nat→Prop}(henv:DH w β O env a.tmps): ∀ xs:List Operand,AJ w β O (xs.map (evA env)) (xs.map a.eval)
 | []=>by simp[AJ]
 |x::xs=>by simp only[List.map_cons,AJ];exact⟨_,_,rfl,DB henv x,Iz henv xs⟩
theorem Ta(hT:B4 P T){orc:Option Orc}{o:Oper}{r:Out}(h:Bj P T orc nb env hp o.op=some r)(hob:r.ob)(hg:Good X w β hp)
   (hfresh: ∀ j,nb≤j→j<nb+8→β j=none) (henv:DH w β (Own X β hp) env a.tmps)
   (hK: ∀ v w' β',Post X w β hp nb r v w' β'→K (a.put o.dst v) w'):o.wp P a w K Q:=by
 have hn:β nb=none:=hfresh nb (Nat.le_refl _) oM
 have still: ∀ z,(execOp a.eval o).run P w= .ok (.value z) w→Rep w β (Own X β hp) r.v z→r.hw=[]→o.wp P a w K Q:=
   fun z h1 h2 h3=>FX h1 (hK z w β (Dh hg h3 h2))
 have hev:=fun x=>DB henv x
 cases hop:o.op with
 |move x=>
   simp only[hop,Bj,out,Option.some.injEq]at h;subst h
   exact still _ (by simp only[execOp,hop];rfl) (hev x) rfl
 |assign x=>
   simp only[hop,Bj,out,Option.some.injEq]at h;subst h
   exact still _ (by simp only[execOp,hop];rfl) (hev x) rfl
 |pick c x y=>
   simp only[hop,Bj]at h
   split at h
   · rename_i t hc
     simp only[out,Option.some.injEq]at h;subst h
     have h1:=hev c
     rw[hc]at h1
     simp only[Rep]at h1
     refine still (if t then a.eval x else a.eval y) (by simp only[execOp,hop,h1,asBool,run_bind,run_pure]) ?_ rfl
     cases t
     · exact hev y
     · exact hev x
   · simp at h
 |binOp op xt x y yt=>
   simp only[hop,Bj]at h
   obtain⟨z,h1,h2,h3⟩:=WN (X:=x) (Y:=y) hT h hob (hev x) (hev y)
   exact still z (by simp only[execOp,hop];exact Dv h1) h2 h3
 |unOp op t x=>
   simp only[hop,Bj]at h
   obtain⟨z,h1,h2,h3⟩:=AaD (P:=P) h (hev x)
   exact still z (by simp only[execOp,hop];exact Dv h1) h2 h3
 |convert s d x=>
   simp only[hop,Bj]at h
   obtain⟨v,w',β',h1,h2⟩:=V0 hT hg hn h hob (hev x)
   exact FX (by simp only[execOp,hop];exact Dv h1) (hK v w' β' h2)
 |extract x i=>
   simp only[hop,Bj]at h
   split at h
   · rename_i cs hc
     split at h
     · rename_i c hci
       simp only[out,Option.some.injEq]at h;subst h
       have h1:=hev x
       rw[hc]at h1
       simp only[Rep]at h1
       obtain⟨vs,h1,h2⟩:=h1
       obtain⟨u,hu,hr⟩:=h2.get i c hci
       refine still u ?_ hr rfl
       simp only[execOp,hop]
       refine Dv ?_
       rw[h1]
       simp[Instr.extract,hu,run_pure]
     · simp at h
   · simp at h
 |field t x f=>
   simp only[hop,Bj]at h
   obtain⟨z,h1,h2,h3⟩:=TC hT h hob (hev x)
   exact still z (by simp only[execOp,hop];exact Dv h1) h2 h3
 |fieldAddr t x f=>
   simp only[hop,Bj]at h
   obtain⟨z,h1,h2,h3⟩:=OY hT h hob (hev x)
   exact still z (by simp only[execOp,hop];exact Dv h1) h2 h3
 |indexAddr t x i=>
   simp only[hop,Bj]at h
   obtain⟨z,h1,h2,h3⟩:=Ok hT h hob (hev x) (hev i)
   exact still z (by simp only[execOp,hop];exact Dv h1) h2 h3
 |index t x i=>
   simp only[hop,Bj]at h
   obtain⟨z,h1,h2,h3⟩:=TD hT h hob (hev x) (hev i)
   exact still z (by simp only[execOp,hop];exact Dv h1) h2 h3
 |load t x=>
   simp only[hop,Bj]at h
   obtain⟨z,h1,h2,h3⟩:=KL hT hg h hob (hev x)
   exact still z (by simp only[execOp,hop];exact Dv h1) h2 h3
 |store t x y=>
   simp only[hop,Bj]at h
   obtain⟨w',h1,h2⟩:=Th (nb:=nb) hT hg h hob (hev x) (hev y)
   have:(execOp a.eval o).run P w= .ok .skip w':=by simp only[execOp,hop,run_bind,h1];rfl
   unfold Oper.wp;rw[this]
   exact hK undef w' β h2
 |slice t x lo hi mx=>
   cases mx with
   |some m=>simp[hop,Bj]at h
   |none=>
     simp only[hop,Bj]at h
     obtain⟨z,h1,h2,h3⟩:=M5 hT henv h hob (hev x)
     exact still z (by simp only[execOp,hop];exact Dv h1) h2 h3
 |box el x=>
   simp only[hop,Bj]at h
   split at h
   · rename_i cs hc
     simp only[Option.some.injEq]at h;subst h
     obtain⟨v,w',h1,h2⟩:=Xy (P:=P) (el:=el) hg hn hc (hev x)
     exact FX (by simp only[execOp,hop];exact Dv h1) (hK v w' _ h2)
   · simp at h
 |alloc el=>
   simp only[hop,Bj]at h
   split at h
   · rename_i ti ht
     simp only[Option.some.injEq]at h;subst h
     obtain⟨v,w',h1,h2⟩:=Tx hT hg hn ht
     exact FX (by simp only[execOp,hop];exact Dv h1) (hK v w' _ h2)
   · simp at h
 |build t parts=>
   simp only[hop,Bj]at h
   split at h
   · rename_i ti ht
     split at h
     · rename_i cs p hf
       simp only[out,Option.some.injEq]at h;subst h
       obtain⟨hp1,hp2⟩:=hob
       have hp3: ∃ fs,ti.desc= .struct fs:=by
         unfold CT at hp2
         split at hp2
         · rename_i fs hfs;exact⟨fs,hfs⟩
         · simp at hp2
       obtain⟨z,h1,h2⟩:=TE hT henv ht hf hp1 hp3
       exact still z (by simp only[execOp,hop];exact Dv h1) h2 rfl
     · simp at h
   · simp at h
 |buildSlice t len parts=>
   simp only[hop,Bj]at h
   split at h
   · rename_i e te es he hpc
     simp only[Option.some.injEq]at h;subst h
     simp only at hob
     obtain⟨o1,o2,o3,o4⟩:=hob
     obtain⟨v,w',h1,h2⟩:=I7 hT hg hn henv he o1 hpc o2 o3 o4
     exact FX (by simp only[execOp,hop];exact Dv h1) (hK v w' _ (h2 _))
   · simp at h
 |makeSlice t l c=>
   simp only[hop,Bj]at h
   split at h
   · rename_i e te n m he hl hc
     simp only[Option.some.injEq]at h;subst h
     simp only at hob
     obtain⟨rfl,o2,o3,o4,o5⟩:=hob
     have e1:=hev l
     have e2:=hev c
     rw[hl]at e1;rw[hc]at e2
     simp only[Rep]at e1 e2
     obtain⟨v,w',h1,h2⟩:=ON hT hg hn he o2 o3 o4 o5
     exact FX (by simp only[execOp,hop,e1,e2];exact Dv h1) (hK v w' _ (h2 _))
   · simp at h
 |nilCheck x=>
   simp only[hop,Bj]at h
   have h1:=hev x
   split at h
   · rename_i i sz k off hx
     simp only[out,Option.some.injEq]at h;subst h
     rw[hx]at h1
     have h2:=h1
     simp only[Rep]at h1
     obtain⟨b,hb,h1⟩:=h1
     exact still (a.eval x) (by simp only[execOp,hop,h1];rfl) (by simpa using h2) rfl
   · rename_i cs hx
     simp only[out,Option.some.injEq]at h;subst h
     rw[hx]at h1
     have h2:=h1
     simp only[Rep]at h1
     obtain⟨b,off,vs,h1,_⟩:=h1
     exact still (a.eval x) (by simp only[execOp,hop,h1];rfl) (by simpa using h2) rfl
   · simp at h
 |call c=>
   simp only[hop,Bj]at h
   cases hcal:c.callee with
   |value f=>
     simp only[hcal]at h
     have hf0:=hev f
     split at h
     · rename_i g fr bd hev2
       rw[hev2]at hf0
       simp only[Rep]at hf0
       split at h
       · rename_i h1 h2
         have e1:fr= #[]:=Array.ext' (by simpa using h1)
         have e2:bd= #[]:=Array.ext' (by simpa using h2)
         subst e1 e2
         split at h
         · rename_i oo
           simp only[Option.some.injEq]at h;subst h
           obtain⟨⟨⟨fn,hf,hbody,hname⟩,_⟩,_⟩:=id hob
           have hrun:(execOp a.eval o).run P w= .ok (.enter g ((c.args.toList.map a.eval).toArray)) w:=by
             simp only[execOp,hop,resolve,hcal,hf0,run_bind,run_pure,Deferred.ofValue]
             simp only[invoke,callFunc,run_bind,Fe,hf,hname,hbody,Bool.false_eq_true,if_false,run_pure]
             simp
             apply Array.ext';simp
           unfold Oper.wp;rw[hrun]
           refine(OU hg hfresh (Iz henv c.args.toList) hob).mono ?_
           rintro e w' ⟨v,β',rfl,hp'⟩
           exact hK v w' β' hp'
         · simp at h
       · simp at h
     · rename_i g k cs hev2
       rw[hev2]at hf0
       simp only[Rep]at hf0
       obtain⟨vs,hf0,hcs⟩:=hf0
       split at h
       · rename_i oo
         simp only[Option.some.injEq]at h;subst h
         obtain⟨⟨⟨fn,hf,hbody,hname⟩,_⟩,_⟩:=id hob
         have hrun:(execOp a.eval o).run P w= .ok (.enter g ((vs.take k++(c.args.toList.map a.eval++vs.drop k)).toArray)) w:=by
           simp only[execOp,hop,resolve,hcal,hf0,run_bind,run_pure,Deferred.ofValue]
           simp only[invoke,callFunc,run_bind,Fe,hf,hname,hbody,Bool.false_eq_true,if_false,run_pure]
           simp
         unfold Oper.wp;rw[hrun]
         refine(OU hg hfresh ((hcs.take k).append ((Iz henv c.args.toList).append (hcs.drop k))) hob).mono ?_
         rintro e w' ⟨v,β',rfl,hp'⟩
         exact hK v w' β' hp'
       · simp at h
     · simp at h
   |invoke rc m=>simp[hcal]at h
   |builtin b=>
     have arr1: ∀ {α:Type} {xs:Array α} {x:α},xs.toList=[x]→xs= #[x]:=fun h=>Array.ext' (by simpa using h)
     have arr2: ∀ {α:Type} {xs:Array α} {x y:α},xs.toList=[x,y]→xs= #[x,y]:=fun h=>Array.ext' (by simpa using h)
     cases b<;>simp only[hcal,reduceCtorEq]at h
     case len=>
       split at h
       · rename_i x t hx ht
         have hrun: ∀ z,(Builtin.len_ #[t] o.type #[a.eval x]).run P w= .ok z w→(execOp a.eval o).run P w= .ok (.value z) w:=by
           intro z hz
           simp only[execOp,hop,resolve,hcal,run_bind,run_pure,invoke,builtin,arr1 hx,arr1 ht]
           simp only[List.map_toArray,List.map_cons,List.map_nil,hz]
         split at h
         · rename_i e r' hd hl
           split at h
           · simp at h
           · rename_i hne
             simp only[Option.some.injEq]at h;subst h
             obtain⟨z,h1,h2,h3⟩:=Qj (t:=t) (ty:=o.type) hT hl (hev x) (.inl ⟨⟨e,hd⟩,fun s hs=>hne s hs⟩)
             exact still z (hrun z h1) h2 h3
         · rename_i r' hd hl
           split at h
           · rename_i s hs
             simp only[Option.some.injEq]at h;subst h
             obtain⟨z,h1,h2,h3⟩:=Qj (t:=t) (ty:=o.type) hT hl (hev x) (.inr ⟨hd,s,hs⟩)
             exact still z (hrun z h1) h2 h3
           · simp at h
         · simp at h
       · simp at h
     case min=>
       split at h
       · rename_i x y hx
         split at h
         · rename_i c' hm
           simp only[out,Option.some.injEq]at h;subst h
           have e1:=hev x
           have e2:=hev y
           unfold Wr at hm
           split at hm
           · rename_i k n k' n' hx1 hx2
             simp only[Option.some.injEq]at hm;subst hm
             rw[hx1]at e1;rw[hx2]at e2
             simp only[Rep]at e1 e2
             refine still (.int k (if n'<n then n' else n)) ?_ (by simp only[Rep]) rfl
             simp only[execOp,hop,resolve,hcal,run_bind,run_pure,invoke,builtin,arr2 hx]
             simp only[List.map_toArray,List.map_cons,List.map_nil,Builtin.min_,e1,e2,List.foldlM_cons,List.foldlM_nil,Builtin.min2,run_bind,run_pure]
           · simp at hm
         · simp at h
       · simp at h
     case max=>
       split at h
       · rename_i x y hx
         split at h
         · rename_i c' hm
           simp only[out,Option.some.injEq]at h;subst h
           have e1:=hev x
           have e2:=hev y
           unfold Wl at hm
           split at hm
           · rename_i k n k' n' hx1 hx2
             simp only[Option.some.injEq]at hm;subst hm
             rw[hx1]at e1;rw[hx2]at e2
             simp only[Rep]at e1 e2
             refine still (.int k (if n'>n then n' else n)) ?_ (by simp only[Rep]) rfl
             simp only[execOp,hop,resolve,hcal,run_bind,run_pure,invoke,builtin,arr2 hx]
             simp only[List.map_toArray,List.map_cons,List.map_nil,Builtin.max_,e1,e2,List.foldlM_cons,List.foldlM_nil,Builtin.max2,run_bind,run_pure]
           · simp at hm
         · simp at h
       · simp at h
     case append=>
       split at h
       · rename_i x y t u hx ht
         have hrun: ∀ z w',(Builtin.append_ #[t,u] o.type #[a.eval x,a.eval y]).run P w= .ok z w'→(execOp a.eval o).run P w= .ok (.value z) w':=by
           intro z w' hz
           simp only[execOp,hop,resolve,hcal,run_bind,run_pure,invoke,builtin,arr2 hx,arr2 ht]
           simp only[List.map_toArray,List.map_cons,List.map_nil,hz]
         split at h
         · rename_i e hd
           obtain⟨v,w',β',h1,h2⟩:=HG (ty:=o.type) hT hg hn h hob (.inl ⟨e,hd⟩) (hev x) (hev y)
           exact FX (hrun v w' h1) (hK v w' β' h2)
         · rename_i hd
           obtain⟨v,w',β',h1,h2⟩:=HG (ty:=o.type) hT hg hn h hob (.inr hd) (hev x) (hev y)
           exact FX (hrun v w' h1) (hK v w' β' h2)
         · simp at h
       · simp at h
 |makeFunc f fi ca=>
   simp only[hop,Bj]at h
   split at h
   · rename_i g
     simp only[out,Option.some.injEq]at h;subst h
     have h1:=Iz henv (fi.toList++ca.toList)
     refine still (.func (.func g) (fi.map a.eval) (ca.map a.eval)) (by simp only[execOp,hop];rfl) ?_ rfl
     simp only[Rep]
     refine⟨_,?_,h1⟩
     have e1:fi.size=(fi.toList.map a.eval).length:=by simp
     rw[List.map_append,e1,List.take_left,List.drop_left]
     congr 1<;>(apply Array.ext';simp)
   · simp at h
 |makeInterface t x=>
   simp only[hop,Bj]at h
   unfold NS at h
   split at h
   · rename_i v hx
     split at h
     · rename_i d hd
       split at h
       · rename_i hc
         simp only[out,Option.some.injEq]at h;subst h
         have h1:=hev x
         rw[hx]at h1
         simp only[Rep]at h1
         refine still (.iface t v) ?_ (by simp[Rep]) rfl
         simp only[execOp,hop]
         refine Dv ?_
         simp only[Instr.makeInterface,run_bind,At (Bq hT hd),h1]
         cases d<;>first|(simp[MM]at hc;done)|simp[run_pure]
       · simp at h
     · simp at h
   · simp at h
 |typeAssert x xt t ok=>
   cases ok with
   |false=>simp[hop,Bj]at h
   |true=>
     simp only[hop,Bj]at h
     unfold Ps at h
     split at h
     · rename_i t' v ti hx hti
       split at h
       · rename_i hc
         have h1:=hev x
         rw[hx]at h1
         simp only[Rep]at h1
         obtain⟨i,z,hi,_,_,hz,_,hu,_⟩:=tab hT hti
         have hrun: ∀ y,(Instr.typeAssert (.iface t' v) xt t true).run P w= .ok y w→(execOp a.eval o).run P w= .ok (.value y) w:=by
           intro y hy
           simp only[execOp,hop]
           refine Dv ?_
           rw[h1];exact hy
         have key:(Instr.typeAssert (.iface t' v) xt t true).run P w= .ok (if t'=t then .tuple #[v,.bool true]else .tuple #[z,.bool false]) w:=by
           simp only[Instr.typeAssert,run_bind,At hu,if_true]
           generalize ti.desc=d at hc
           by_cases he:t'=t
           · cases d<;>first|(simp[MM]at hc;done)|simp[he,run_pure]
           · cases d<;>first|(simp[MM]at hc;done)|simp[he,run_bind,Gq hi hz,run_pure]
         by_cases he:t'=t
         · simp only[he,if_true,out,Option.some.injEq]at h;subst h
           rw[if_pos he]at key
           exact still _ (hrun _ key) (by simp[Rep,AJ]) rfl
         · simp only[he,if_false,out,Option.some.injEq]at h;subst h
           rw[if_neg he]at key
           exact still _ (hrun _ key) (by simp[Rep,AJ]) rfl
       · simp at h
     · simp at h
 |_=>simp[hop,Bj]at h
theorem Vu(hT:B4 P T){orc:Option Orc}{o:Oper}{r:Out}(h:CG P T orc nb env hp o.op=some r)(hob:r.ob)(hg:Good X w β hp)
   (hfresh: ∀ j,nb≤j→j<nb+8→β j=none) (henv:DH w β (Own X β hp) env a.tmps)
   (hK: ∀ v w' β',Post X w β hp nb r v w' β'→K (a.put o.dst v) w'):o.wp P a w K Q:=by
 unfold CG at h
 split at h
 · rename_i r0 _
   simp only[Option.some.injEq]at h
   subst h
   obtain⟨v,w',β',h1,h2⟩:=hob.2 env hp (fun _ _=>rfl) (fun _ _=>rfl) X w β a o rfl hg hfresh henv
   exact FX h1 (hK v w' β' ⟨h2.rep,h2.good,h2.frm,h2.ext,h2.keepX,h2.new⟩)
 · exact Ta hT h hob hg hfresh henv hK
end exec
section loc
variable {P : Program} {T : Tab} {nb : Nat} {env env' : Env} {hp hp' : Hp}
structure OutLe(r r':Out):Prop where
 v:r'.v=r.v
 hw:r'.hw=r.hw
 ob:r.ob→r'.ob
theorem El(r:Out):OutLe r r:=⟨rfl,rfl,fun h=>h⟩
theorem TB{s d:TypeId}{x:AV}{r:Out}(h:KV T hp nb s d x=some r)(hh: ∀ i∈r.hr,hp i=hp' i):KV T hp' nb s d x=some r:=by
 unfold KV at h ⊢
 split at h<;>try exact h
 · rename_i e e' i n sz h1 h2
   split at h
   · rename_i en h3 h4 h5
     simp only[Option.some.injEq]at h
     subst h
     rw[← hh i sP,h3,h4,h5]
   · simp at h
 · rename_i e i n sz h1 h2
   (try simp only[h1,h2])
   split at h
   · rename_i en h3 h4
     simp only[Option.some.injEq]at h
     subst h
     rw[← hh i sP,h3,h4]
   · simp at h
theorem AaZ{tf:TI}{cs:List AV}{p:Prop}{hr:List Nat}{r:Out}(h:JU tf cs p hr=some r):r.hr=hr:=by
 unfold JU at h
 split at h
 · simp at h;subst h;rfl
 · split at h
   · simp at h;subst h;rfl
   · simp at h
theorem Tf{t:TypeId}{x:AV}{r:Out}(h:Ic T hp t x=some r)(hh: ∀ i∈r.hr,hp i=hp' i):Ic T hp' t x=some r:=by
 unfold Ic at h ⊢
 split at h<;>try exact h
 rename_i ti i sz k off ht
 (try simp only[ht])
 split at h
 · rename_i e he
   split at h
   · rename_i c hc
     have:=AaZ h
     rw[← hh i (by rw[this];simp),he]
     (try simp only[hc]);exact h
   · simp at h
 · simp at h
theorem Rf{t:TypeId}{x y:AV}{r:Out}(h:Jn T hp t x y=some r)(hh: ∀ i∈r.hr,hp i=hp' i):Jn T hp' t x y=some r:=by
 unfold Jn at h ⊢
 split at h
 · rename_i ti i sz k off xs ht hxs
   (try simp only[ht,hxs])
   split at h
   · rename_i e he
     split at h
     · rename_i c hc
       simp only[Option.some.injEq]at h
       subst h
       rw[← hh i sP,he]
       (try simp only[hc])
     · simp at h
   · simp at h
 · simp at h
theorem Ij{sz:Nat}{y:AV}{es:List (List AV)}{rs:List Nat}{p:Prop}(h:Ig hp sz y=some (es,rs,p))(hh: ∀ i∈rs,hp i=hp' i):Ig hp' sz y=some (es,rs,p):=by
 unfold Ig at h ⊢
 split at h<;>try exact h
 all_goals
   split at h
   · rename_i e he
     simp only[Option.some.injEq,Prod.mk.injEq]at h
     obtain⟨rfl,rfl,rfl⟩:=h
     (try simp only)
     rw[← hh _ sP,he]
   · simp at h
theorem Lt{t:TypeId}{x y:AV}{r:Out}(h:Hn T hp nb t x y=some r)(hh: ∀ i∈r.hr,hp i=hp' i):Hn T hp' nb t x y=some r:=by
 unfold Hn at h ⊢
 split at h
 · simp at h
 · rename_i e te he
   (try simp only[he])
   split at h
   · simp at h
   · rename_i es rs p hs
     split at h
     · simp only[Option.some.injEq]at h
       subst h
       rw[Ij hs (fun i hi=>hh i hi)]
     · split at h
       · rename_i i n sz x en hen
         simp only[Option.some.injEq]at h
         subst h
         rw[Ij hs (fun j hj=>hh j (by simp[hj]))]
         (try simp only)
         rw[← hh i sP,hen]
       · simp at h
     · split at h
       · rename_i i n sz x en hen
         simp only[Option.some.injEq]at h
         subst h
         rw[Ij hs (fun j hj=>hh j (by simp[hj]))]
         (try simp only)
         rw[← hh i sP,hen]
       · simp at h
     · simp at h
theorem Nd{bor:List Nat}{c a:AV}(hh: ∀ i∈bor,hp i=hp' i)(h:JL hp bor c a):JL hp' bor c a:=by
 rcases h with h|⟨i,n,sz,e,h1,h2,h3,h4⟩|h
 · exact .inl h
 · exact .inr (.inl ⟨i,n,sz,e,h1,h2,by rw[← hh i h2];exact h3,h4⟩)
 · exact .inr (.inr h)
theorem Nh{bor:List Nat}(hh: ∀ i∈bor,hp i=hp' i): ∀ {cs as:List AV},IT hp bor cs as→IT hp' bor cs as
 | [],[],_=>trivial
 |c::cs,a::as,h=>⟨Nd hh h.1,Nh hh h.2⟩
 | [],_::_,h=>h.elim
 |_::_,[],h=>h.elim
theorem Tt{bor:List Nat}{c a:AV}(hh: ∀ i∈bor,hp i=hp' i)(h:IS hp bor c a):IS hp' bor c a:=by
 rcases h with h|⟨cs,as,h1,h2,h3⟩
 · exact .inl (Nd hh h)
 · exact .inr ⟨cs,as,h1,h2,Nh hh h3⟩
theorem Na{g:FuncId}{args:List AV}{o:Orc}(hh: ∀ i∈(Bd P g args hp nb o).hr,hp i=hp' i):OutLe (Bd P g args hp nb o) (Bd P g args hp' nb o):=by
 refine⟨rfl,rfl,?_⟩
 have h1: ∀ i∈o.ids,hp i=hp' i:=fun i hi=>hh i (by simp[Bd,hi])
 have h2: ∀ i∈o.bor,hp i=hp' i:=fun i hi=>hh i (by simp[Bd,hi])
 rintro⟨a1,a2,a3,a4,a5,a6,a7,a8,a9,a10,a11,a12⟩
 refine⟨a1,a2,a3,fun i hi=>?_,a5,a6,a7,fun j c a hc ha=>Tt h2 (a8 j c a hc ha),a9,fun i hi=>⟨(a10 i hi).1,fun e he=>(a10 i hi).2 e (by rw[h2 i hi];exact he)⟩,a11,a12⟩
 rw[← h1 _ (by rw[HS hi];exact List.getElem_mem hi)]
 exact a4 i hi
theorem LU{d:Nat}{x:Option Operand}(h: ∀ y∈x.toArray,evA env y=evA env' y):Dn env d x=Dn env' d x:=by
 cases x with
 |none=>rfl
 |some y=>simp only[Dn];rw[h y sP]
theorem Ka: ∀ {ps:List (Nat×Operand)},(∀ x∈ps.map (·.2),evA env x=evA env' x)→DC env ps=DC env' ps
 | [],_=>rfl
 |(i,x)::ps,h=>by
   simp only[DC]
   rw[h x sP,Ka (ps:=ps) (fun y hy=>h y (by simp at hy ⊢;exact .inr hy))]
theorem M7{t:TypeId}: ∀ {ps:List (Nat×Operand)} {cells:List AV} {ob:Prop},(∀ x∈ps.map (·.2),evA env x=evA env' x)→FF T t env cells ob ps=FF T t env' cells ob ps
 | [],_,_,_=>rfl
 |(i,x)::ps,cells,ob,h=>by
   simp only[FF]
   rw[h x sP]
   split
   · exact M7 (fun y hy=>h y (by simp at hy ⊢;exact .inr hy))
   · rfl
theorem Mi{orc:Option Orc}{op:Op}(h: ∀ x∈op.operands,evA env x=evA env' x):Bj P T orc nb env hp op=Bj P T orc nb env' hp op:=by
 cases op<;>simp only[Op.operands]at h<;>simp only[Bj]
 case call c=>
   have ha: ∀ x∈c.args,evA env x=evA env' x:=fun x hx=>h x (by simp[Call.operands,hx])
   cases hc:c.callee with
   |value f=>
     have:c.args.toList.map (evA env)=c.args.toList.map (evA env'):=List.map_congr_left fun x hx=>ha x (by simpa using hx)
     have hf:evA env f=evA env' f:=h f (by simp[Call.operands,hc])
     simp only[this,hf]
   |invoke r m=>rfl
   |builtin b=>
     cases b<;>try rfl
     all_goals
       (try simp only[])
       cases hl:c.args.toList with
       |nil=>rcases c.argTypes.toList with _|⟨t,_|⟨u,_|_⟩⟩<;>rfl
       |cons x l=>
         have e1:evA env x=evA env' x:=ha x (by rw[← Array.mem_toList_iff,hl];simp)
         cases l with
         |nil=>rcases c.argTypes.toList with _|⟨t,_|⟨u,_|_⟩⟩<;>first|rfl|simp only[e1]
         |cons y l=>
           have e2:evA env y=evA env' y:=ha y (by rw[← Array.mem_toList_iff,hl];simp)
           cases l with
           |nil=>rcases c.argTypes.toList with _|⟨t,_|⟨u,_|_⟩⟩<;>first|rfl|simp only[e1,e2]
           |cons z l=>rcases c.argTypes.toList with _|⟨t,_|⟨u,_|_⟩⟩<;>rfl
 case build t ps=>
   have e: ∀ cells ob,FF T t env cells ob ps.toList=FF T t env' cells ob ps.toList:=fun cells ob=>M7 (fun x hx=>h x (by simpa using hx))
   simp only[e]
 case buildSlice t n ps=>rw[Ka (fun x hx=>h x (by simpa using hx))]
 case slice t x lo hi mx=>
   cases mx with
   |some m=>rfl
   |none=>
     simp only[LX]
     rw[h x sP,LU (env:=env) (env':=env') (d:=0) (x:=lo) (fun y hy=>h y (by simp at hy ⊢;simp[hy]))]
     have hb: ∀ d,Dn env d hi=Dn env' d hi:=fun d=>LU (fun y hy=>h y (by simp at hy ⊢;simp[hy]))
     simp only[hb]
 case makeFunc f fi ca=>
   have e:(fi.toList++ca.toList).map (evA env)=(fi.toList++ca.toList).map (evA env'):=List.map_congr_left fun x hx=>h x (by simpa using hx)
   cases f<;>simp only[e]
 case pick c x y=>rw[h c sP,h x sP,h y sP]
 case typeAssert x xt t ok=>
   cases ok with
   |false=>rfl
   |true=>simp only[h x sP]
 all_goals(first|rfl|(simp_all;done))
theorem Lz{orc:Option Orc}{op:Op}{r:Out}(h:Bj P T orc nb env hp op=some r)(he: ∀ x∈op.operands,evA env x=evA env' x)(hh: ∀ i∈r.hr,hp i=hp' i):
   ∃ r',Bj P T orc nb env' hp' op=some r'∧OutLe r r':=by
 rw[Mi he]at h
 cases op<;>simp only[Bj]at h ⊢ <;>try exact⟨r,h,El r⟩
 case slice t x lo hi mx=>
   cases mx with
   |some m=>simp at h
   |none=>exact⟨r,h,El r⟩
 case convert s d x=>exact⟨r,TB h hh,El r⟩
 case typeAssert x xt t ok=>
   cases ok with
   |false=>simp at h
   |true=>exact⟨r,h,El r⟩
 case load t x=>exact⟨r,Tf h hh,El r⟩
 case store t x y=>exact⟨r,Rf h hh,El r⟩
 case call c=>
   cases hc:c.callee with
   |value f=>
     rw[hc]at h
     simp only at h ⊢
     split at h
     · split at h
       · split at h
         · rename_i o
           simp only[Option.some.injEq]at h
           subst h
           exact⟨_,rfl,Na hh⟩
         · simp at h
       · simp at h
     · split at h
       · rename_i o
         simp only[Option.some.injEq]at h
         subst h
         exact⟨_,rfl,Na hh⟩
       · simp at h
     · simp at h
   |invoke rc m=>rw[hc]at h;simp at h
   |builtin b=>
     rw[hc]at h
     cases b<;>simp only at h ⊢ <;>try exact⟨r,h,El r⟩
     case append=>
       split at h
       · rename_i x y t u hx ht
         (try simp only[hx,ht])
         split at h
         · rename_i e hd
           exact⟨r,Lt h hh,El r⟩
         · rename_i hd
           exact⟨r,Lt h hh,El r⟩
         · simp at h
       · simp at h
theorem To{orc:Option Orc}{op:Op}{r:Out}(h:CG P T orc nb env hp op=some r)(he: ∀ x∈op.operands,evA env x=evA env' x)(hh: ∀ i∈r.hr,hp i=hp' i):
   ∃ r',CG P T orc nb env' hp' op=some r'∧OutLe r r':=by
 unfold CG at h ⊢
 split at h
 · rename_i r0 h0
   simp only[Option.some.injEq]at h
   subst h
   refine⟨_,rfl,rfl,rfl,fun hb=>⟨hb.1,fun env2 hp2 h1 h2=>hb.2 env2 hp2 (fun x hx=>(he x hx).trans (h1 x hx)) (fun i hi=>(hh i hi).trans (h2 i hi))⟩⟩
 · exact Lz h he hh
end loc
structure St where
 env:Env
 hp:Hp
def St.app(s:St)(dst:Option Nat)(r:Out):St:=⟨fun t=>if dst=some t then r.v else s.env t,BP s.hp r.hw⟩
def BM(ops:Array Oper)(env:Env)(o:Oper):Option Bool:=
 match o.guard with
 |none=>some true
 |some (j,want)=>match (ops[j]?).bind (·.dst)with
   |none=>some false
   |some t=>match env t with
     | .val (.bool b)=>some (b==want)
     | .val (.tuple _)=>some false
     |_=>none
def FG(P:Program)(T:Tab)(orc:Nat→Option Orc)(n:Nat)(ops:Array Oper)(i:Nat)(o:Oper)(s:St):Option Out:=
 match BM ops s.env o with
 |some true=>CG P T (orc i) (n+8*i) s.env s.hp o.op
 |some false=>some {v:= .val undef}
 |none=>none
section reg
variable {P : Program} {T : Tab} {orc : Nat → Option Orc} {n : Nat} {ops : Array Oper}
theorem Yi{env env':Env}{op:Op}{l:List Tmp}(h: ∀ t∈(op.operands.toList.filterMap fun| .tmp t=>some t|_=>none),env t=env' t): ∀ x∈op.operands,evA env x=evA env' x:=by
 intro x hx
 cases x with
 |tmp t=>exact h t (List.mem_filterMap.2 ⟨.tmp t,by simpa using hx,rfl⟩)
 |const v=>cases v<;>rfl
 |global g=>rfl
 |func f=>rfl
theorem Tr{i:Nat}{o:Oper}{s s':St}{r:Out}(h:FG P T orc n ops i o s=some r)(he: ∀ t∈o.looksAt ops,s.env t=s'.env t)(hh: ∀ j∈r.hr,s.hp j=s'.hp j):
   ∃ r',FG P T orc n ops i o s'=some r'∧OutLe r r':=by
 have hg:BM ops s'.env o=BM ops s.env o:=by
   unfold BM
   cases hg:o.guard with
   |none=>rfl
   |some jw=>
     obtain⟨j,want⟩:=jw
     simp only
     cases hd:(ops[j]?).bind (·.dst)with
     |none=>rfl
     |some t=>
       have:s.env t=s'.env t:=he t (by simp[Oper.looksAt,hg,hd])
       simp only[this]
 unfold FG at h ⊢
 rw[hg]
 split at h
 · exact To h (Yi (l:=[]) (fun t ht=>he t (by simp only[Oper.looksAt];exact List.mem_append_left _ ht))) hh
 · exact⟨r,h,El r⟩
 · simp at h
def stL(ops:Array Oper)(f:Nat→Out)(L:Nat→Bool):Nat→St→St
 |0,s=>s
 |k+1,s=>if L k=true then(stL ops f L k s).app ((ops[k]?).bind (·.dst)) (f k)else stL ops f L k s
theorem F6: ∀ {hw:List (Nat×Option Ent)} {hp:Hp} {i:Nat},i∉hw.map (·.1)→BP hp hw i=hp i
 | [],hp,i,_=>rfl
 |(j,e)::r,hp,i,h=>by
   simp only[List.map_cons,List.mem_cons,not_or]at h
   rw[Dl,F6 h.2,BT h.1]
theorem JO: ∀ {hw:List (Nat×Option Ent)} {hp hp':Hp} {i:Nat},i∈hw.map (·.1)→BP hp hw i=BP hp' hw i
 | [],hp,hp',i,h=>by simp at h
 |(j,e)::r,hp,hp',i,h=>by
   simp only[Dl]
   by_cases hm:i∈r.map (·.1)
   · exact JO hm
   · rw[F6 hm,F6 hm]
     have:i=j:=by simpa [hm] using h
     subst this;simp
theorem PP{f:Nat→Out}{L L':Nat→Bool}{t:Nat}{s:St}: ∀ k,(∀ j,j<k→(ops[j]?).bind (·.dst)=some t→L j=L' j)→(stL ops f L k s).env t=(stL ops f L' k s).env t
 |0,_=>rfl
 |k+1,h=>by
   have ih:=PP (f:=f) (s:=s) k (fun j hj=>h j oM)
   simp only[stL]
   by_cases hd:(ops[k]?).bind (·.dst)=some t
   · rw[h k oM hd]
     split
     · simp only[St.app,hd,if_true]
     · exact ih
   · have e: ∀ s':St,(s'.app ((ops[k]?).bind (·.dst)) (f k)).env t=s'.env t:=fun s'=>by simp only[St.app,if_neg hd]
     split<;>split<;>(try rw[e])<;>(try rw[e])<;>exact ih
theorem SH{f:Nat→Out}{L L':Nat→Bool}{i:Nat}{s:St}: ∀ k,(∀ j,j<k→i∈(f j).hw.map (·.1)→L j=L' j)→(stL ops f L k s).hp i=(stL ops f L' k s).hp i
 |0,_=>rfl
 |k+1,h=>by
   have ih:=SH (f:=f) (s:=s) k (fun j hj=>h j oM)
   simp only[stL]
   by_cases hd:i∈(f k).hw.map (·.1)
   · rw[h k oM hd]
     split
     · simp only[St.app];exact JO hd
     · exact ih
   · have e: ∀ s':St,(s'.app ((ops[k]?).bind (·.dst)) (f k)).hp i=s'.hp i:=fun s'=>by simp only[St.app];exact F6 hd
     split<;>split<;>(try rw[e])<;>(try rw[e])<;>exact ih
theorem Afq{f:Nat→Out}{s:St}{i:Nat}: ∀ k,i≤k→stL ops f (fun j=>decide (j<i)) k s=stL ops f (fun _=>true) i s:=by
 have h1: ∀ k,k≤i→stL ops f (fun j=>decide (j<i)) k s=stL ops f (fun _=>true) k s:=by
   intro k
   induction k with
   |zero=>intro _;rfl
   |succ k ih=>intro hk;simp only[stL,ih oM];rw[if_pos sO];simp
 intro k
 induction k with
 |zero=>intro h;obtain rfl:i=0:=oM;rfl
 |succ k ih=>
   intro hk
   by_cases he:i=k+1
   · subst he;exact h1 _ (Nat.le_refl _)
   · simp only[stL]
     rw[if_neg sO]
     exact ih oM
structure Sep(ops:Array Oper)(f:Nat→Out)(anc:Nat→Nat→Prop):Prop where
 slot: ∀ i j oi oj t,i≠j→ops[i]? =some oi→ops[j]? =some oj→oi.dst=some t→(t∈oj.looksAt ops∨oj.dst=some t)→(i<j∧anc j i)∨(j<i∧anc i j)
 heap: ∀ i j x,i≠j→i<ops.size→j<ops.size→x∈(f i).hw.map (·.1)→(x∈(f j).hr∨x∈(f j).hw.map (·.1))→(i<j∧anc j i)∨(j<i∧anc i j)
section sep
variable {f : Nat → Out} {anc : Nat → Nat → Prop} {s0 : St} {L : Nat → Bool}
theorem SY{j t:Nat}(h:(ops[j]?).bind (·.dst)=some t): ∃ oj,ops[j]? =some oj∧oj.dst=some t:=by
 cases ho:ops[j]? with
 |none=>rw[ho]at h;simp at h
 |some oj=>rw[ho]at h;exact⟨oj,rfl,by simpa using h⟩
theorem sees(hs:Sep ops f anc){i:Nat}{oi:Oper}(hi:ops[i]? =some oi)(hLi:L i=false)(hup: ∀ j x,L j=true→anc j x→L x=true)(hrdy: ∀ x,anc i x→L x=true)
   (hstep:FG P T orc n ops i oi (stL ops f (fun _=>true) i s0)=some (f i)):
   ∃ r',FG P T orc n ops i oi (stL ops f L ops.size s0)=some r'∧OutLe (f i) r':=by
 have hlt:i<ops.size:=Bp hi
 rw[← Afq ops.size (Nat.le_of_lt hlt)]at hstep
 have key: ∀ j,j<ops.size→j≠i→((i<j∧anc j i)∨(j<i∧anc i j))→decide (j<i)=L j:=by
   intro j hj hne h
   rcases h with ⟨h1,h2⟩|⟨h1,h2⟩
   · have:L j=false:=by
       cases hL:L j with
       |false=>rfl
       |true=>rw[hup j i hL h2]at hLi;simp at hLi
     rw[this];simp;omega
   · rw[hrdy j h2];simp;exact h1
 refine Tr hstep ?_ ?_
 · intro t ht
   refine PP ops.size (fun j hj hd=>?_)
   obtain⟨oj,hoj,hdj⟩:=SY hd
   by_cases hne:j=i
   · subst hne;rw[hLi];simp
   · have:=hs.slot j i oj oi t hne hoj hi hdj (.inl ht)
     exact key j hj hne (by rcases this with h|h;exact .inr h;exact .inl h)
 · intro x hx
   refine SH ops.size (fun j hj hd=>?_)
   by_cases hne:j=i
   · subst hne;rw[hLi];simp
   · have:=hs.heap j i x hne hj hlt hd (.inl hx)
     exact key j hj hne (by rcases this with h|h;exact .inr h;exact .inl h)
theorem adds(hs:Sep ops f anc){i:Nat}{oi:Oper}(hi:ops[i]? =some oi)(hLi:L i=false)(hup: ∀ j x,L j=true→anc j x→L x=true):
   stL ops f (fun j=>if j=i then true else L j) ops.size s0=(stL ops f L ops.size s0).app oi.dst (f i):=by
 have hlt:i<ops.size:=Bp hi
 have hdi:(ops[i]?).bind (·.dst)=oi.dst:=by rw[hi];rfl
 have later: ∀ j,i<j→anc j i→L j=false:=by
   intro j _ h
   cases hL:L j with
   |false=>rfl
   |true=>rw[hup j i hL h]at hLi;simp at hLi
 have henv: ∀ t,(stL ops f (fun j=>if j=i then true else L j) ops.size s0).env t=((stL ops f L ops.size s0).app oi.dst (f i)).env t:=by
   intro t
   by_cases hd:oi.dst=some t
   · simp only[St.app,if_pos hd]
     have: ∀ k,i<k→k≤ops.size→(stL ops f (fun j=>if j=i then true else L j) k s0).env t=(f i).v:=by
       intro k
       induction k with
       |zero=>intro h;omega
       |succ k ih=>
         intro h1 h2
         simp only[stL]
         by_cases hk:k=i
         · subst hk;simp only[if_true,St.app,hdi,hd]
         · by_cases hw:(ops[k]?).bind (·.dst)=some t
           · obtain⟨ok,hok,hdk⟩:=SY hw
             have h3:=hs.slot i k oi ok t (fun e=>hk e.symm) hi hok hd (.inr hdk)
             have h4:L k=false:=by
               rcases h3 with ⟨h,h'⟩|⟨h,h'⟩
               · exact later k h h'
               · omega
             simp only[if_neg hk,h4,Bool.false_eq_true,if_false]
             exact ih oM oM
           · simp only[if_neg hk]
             cases L k
             · simp only[Bool.false_eq_true,if_false];exact ih oM oM
             · simp only[if_true,St.app,if_neg hw];exact ih oM oM
     exact this ops.size hlt (Nat.le_refl _)
   · simp only[St.app,if_neg hd]
     refine PP ops.size (fun j hj hw=>?_)
     by_cases hne:j=i
     · subst hne;rw[hdi]at hw;exact absurd hw hd
     · simp[hne]
 have hhp: ∀ x,(stL ops f (fun j=>if j=i then true else L j) ops.size s0).hp x=((stL ops f L ops.size s0).app oi.dst (f i)).hp x:=by
   intro x
   by_cases hd:x∈(f i).hw.map (·.1)
   · have: ∀ k,i<k→k≤ops.size→(stL ops f (fun j=>if j=i then true else L j) k s0).hp x=BP (fun _=>none) (f i).hw x:=by
       intro k
       induction k with
       |zero=>intro h;omega
       |succ k ih=>
         intro h1 h2
         simp only[stL]
         by_cases hk:k=i
         · subst hk;simp only[if_true,St.app];exact JO hd
         · by_cases hw:x∈(f k).hw.map (·.1)
           · have h3:=hs.heap i k x (fun e=>hk e.symm) hlt oM hd (.inr hw)
             have h4:L k=false:=by
               rcases h3 with ⟨h,h'⟩|⟨h,h'⟩
               · exact later k h h'
               · omega
             simp only[if_neg hk,h4,Bool.false_eq_true,if_false]
             exact ih oM oM
           · simp only[if_neg hk]
             cases L k
             · simp only[Bool.false_eq_true,if_false];exact ih oM oM
             · simp only[if_true,St.app];rw[F6 hw];exact ih oM oM
     rw[this ops.size hlt (Nat.le_refl _)]
     simp only[St.app];exact JO hd
   · simp only[St.app];rw[F6 hd]
     refine SH ops.size (fun j hj hw=>?_)
     by_cases hne:j=i
     · subst hne;exact absurd hw hd
     · simp[hne]
 have e1:=funext henv
 have e2:=funext hhp
 cases h1:stL ops f (fun j=>if j=i then true else L j) ops.size s0
 cases h2:(stL ops f L ops.size s0).app oi.dst (f i)
 rw[h1,h2]at e1 e2
 simp only at e1 e2
 rw[e1,e2]
end sep
end reg
end Go.Av
