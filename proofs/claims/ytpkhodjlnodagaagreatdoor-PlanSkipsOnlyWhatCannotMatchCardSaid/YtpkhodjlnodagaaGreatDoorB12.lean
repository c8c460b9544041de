/- Part 12 of the proof of PlanSkipsOnlyWhatCannotMatch. -/
import Derived.Test.YtpkhodjlnodagaaGreatDoorB05
import Derived.Test.YtpkhodjlnodagaaGreatDoorB11
set_option linter.unusedSimpArgs false
set_option linter.unusedVariables false
set_option linter.unusedSectionVars false
namespace Go.Av
inductive Fr where
 |k (c:Code)
 |b (id:Nat)
 |l (Y:Res→Ctx→Nat→AS→Prop)
def FQ(P:Program)(rv:List ResultVar)(kk:Nat)(x:Res)(C:Ctx):List Fr→Exit→Nat→AS→Prop
 | []=>Di (Ao P) rv x.1 x.2 kk
 | .k c::st=>DZ (AW P C c (FQ P rv kk x C st)) (FQ P rv kk x C st)
 | .b id::st=>DL id (FQ P rv kk x C st)
 | .l Y::st=>DZ (Y x C) (FQ P rv kk x C st)
section
variable [Yl] {P : Program} {N kk : Nat} {R : Res → Prop} {rv : List ResultVar} {st : List Fr} {n : Nat} {s : AS}
def XW(P:Program)(N kk:Nat)(R:Res→Prop)(rv:List ResultVar)(c:Code)(st:List Fr)(n:Nat)(s:AS):Prop:=EX N kk R fun x C=>AW P C c (FQ P rv kk x C st) n s
def XQ(P:Program)(N kk:Nat)(R:Res→Prop)(rv:List ResultVar)(e:Exit)(st:List Fr)(n:Nat)(s:AS):Prop:=EX N kk R fun x C=>FQ P rv kk x C st e n s
theorem XW.seq{a b:Code}(h:XW P N kk R rv a (.k b::st) n s):XW P N kk R rv (.seq a b) st n s:=EX.step (fun _ _ _ _ h=>AW.seq h) h
theorem XW.block{id:Nat}{c:Code}(h:XW P N kk R rv c (.b id::st) n s):XW P N kk R rv (.block id c) st n s:=EX.step (fun _ _ _ _ h=>AW.block h) h
theorem XW.skip(h:XQ P N kk R rv .normal st n s):XW P N kk R rv .skip st n s:=EX.step (fun _ _ _ _ h=>AW.skip h) h
theorem XW.exit{id:Nat}(h:XQ P N kk R rv (.exit id) st n s):XW P N kk R rv (.exit id) st n s:=EX.step (fun _ _ _ _ h=>AW.exit h) h
theorem XQ.k{c:Code}(h:XW P N kk R rv c st n s):XQ P N kk R rv .normal (.k c::st) n s:=h
theorem XQ.b{id:Nat}(h:XQ P N kk R rv .normal st n s):XQ P N kk R rv .normal (.b id::st) n s:=h
theorem XQ.l{Y:Res→Ctx→Nat→AS→Prop}(h:EX N kk R fun x C=>Y x C n s):XQ P N kk R rv .normal (.l Y::st) n s:=h
theorem AgQ{id:Nat}{c:Code}(h:XQ P N kk R rv (.exit id) st n s):XQ P N kk R rv (.exit id) (.k c::st) n s:=h
theorem Ahu{id:Nat}{Y:Res→Ctx→Nat→AS→Prop}(h:XQ P N kk R rv (.exit id) st n s):XQ P N kk R rv (.exit id) (.l Y::st) n s:=h
theorem Ahh{id:Nat}(h:XQ P N kk R rv .normal st n s):XQ P N kk R rv (.exit id) (.b id::st) n s:=by
 refine EX.step (fun x C _ _ h=>?_) h
 simp only[FQ,DL,if_true];exact h
theorem AgZ{id id':Nat}(hn:id≠id')(h:XQ P N kk R rv (.exit id) st n s):XQ P N kk R rv (.exit id) (.b id'::st) n s:=by
 refine EX.step (fun x C _ _ h=>?_) h
 simp only[FQ,DL,if_neg hn];exact h
theorem Ov{x:Res}{C:Ctx}: ∀ st:List Fr,FQ P rv kk x C st .ret n s=Di (Ao P) rv x.1 x.2 kk .ret n s
 | []=>rfl
 | .k c::st=>by simp only[FQ,DZ];exact Ov st
 | .b id::st=>by simp only[FQ,DL];exact Ov st
 | .l Y::st=>by simp only[FQ,DZ];exact Ov st
theorem XW.ret(r:AV)(hs':List (Option Ent))(hR:R (r,hs'))(h:Di (Ao P) rv r hs' kk .ret n s):XW P N kk R rv .ret st n s:=
 ⟨(r,hs'),hR,fun C _ _ _=>AW.ret (by rw[Ov];exact h)⟩
theorem XQ.ret(r:AV)(hs':List (Option Ent))(hR:R (r,hs'))(h:Di (Ao P) rv r hs' kk .normal n s):XQ P N kk R rv .normal [] n s:=
 ⟨(r,hs'),hR,fun C _ _ _=>h⟩
theorem Rm{c:Operand}{x y:Code}(hc:evA (lk s.env) c= .val (.bool true))(h:XW P N kk R rv x st n s):XW P N kk R rv (.cond c x y) st n s:=EX.step (fun _ _ _ _ h=>AX hc h) h
theorem NO{c:Operand}{x y:Code}(hc:evA (lk s.env) c= .val (.bool false))(h:XW P N kk R rv y st n s):XW P N kk R rv (.cond c x y) st n s:=EX.step (fun _ _ _ _ h=>Ay hc h) h
theorem YY{c:Operand}{x y:Code}{t:Bool}(hc:evA (lk s.env) c= .val (.bool t))(ht:t=true→XW P N kk R rv x st n s)(hf:t=false→XW P N kk R rv y st n s):XW P N kk R rv (.cond c x y) st n s:=by
 cases t
 · exact NO hc (hf rfl)
 · exact Rm hc (ht rfl)
theorem XW.wk{c:Code}(n':Nat)(s':AS)(hw:Wk kk s n' s')(h:XW P N kk R rv c st n' s'):XW P N kk R rv c st n s:=Wd n' s' hw h
theorem XW.loop{c:Code}{α:Type}(n0:Nat)(S:α→AS)(I:α→Prop)(μ:α→Nat)(a0:α)(h0:I a0)(hw:Wk kk s n0 (S a0))
   (hr: ∀ a,I a→ ∀ Y:Res→Ctx→Nat→AS→Prop,(∀ a',I a'→μ a'<μ a→ ∀ n s,Wk kk s n0 (S a')→EX N kk R fun x C=>Y x C n s)→
     XW P N kk R rv c (.l Y::st) n0 (S a)):XW P N kk R rv (.loop c) st n s:=EX.loop n0 S I μ a0 h0 hw hr
omit [Yl] in
theorem Sd{g:FuncId}{fn:Func}{c:Code}{as:List AV}{hs:List (Option Ent)}(N k:Nat)(hf:P.funcs[g]? =some fn)(hb:fn.body=some c)(hname:(fn.name== "runtime.NumGoroutine")=false)(hN:fn.ntmps=N)(has:as.length≤N)(hk:hs.length=k)
   {rv:List ResultVar} (hrv:fn.results=rv.toArray) (h: @XW ylNone P N k R rv c [] k ⟨Ei 0 as,FN 0 hs⟩):GX P g as hs R:=GV N k hf hb hname hN has hk hrv h
inductive Hd where
 |c (c:Code)
 |n
 |x (id:Nat)
def XH(P:Program)(N kk:Nat)(R:Res→Prop)(rv:List ResultVar)(h:Hd)(st:List Fr)(n:Nat)(s:AS):Prop:=match h with
 | .c c=>XW P N kk R rv c st n s
 | .n=>XQ P N kk R rv .normal st n s
 | .x id=>XQ P N kk R rv (.exit id) st n s
def CU:Nat→Hd→List Fr→Hd×List Fr
 |f+1,.c (.seq a b),st=>CU f (.c a) (.k b::st)
 |f+1,.c (.block id c),st=>CU f (.c c) (.b id::st)
 |f+1,.c .skip,st=>CU f .n st
 |f+1,.c (.exit id),st=>CU f (.x id) st
 |f+1,.n,.k c::st=>CU f (.c c) st
 |f+1,.n,.b _::st=>CU f .n st
 |f+1,.x id,.k _::st=>CU f (.x id) st
 |f+1,.x id,.l _::st=>CU f (.x id) st
 |f+1,.x id,.b id'::st=>match Nat.decEq id id' with
   | .isTrue _=>CU f .n st
   | .isFalse _=>CU f (.x id) st
 |_,h,st=>(h,st)
theorem DQ: ∀ {f:Nat} {h:Hd} {st:List Fr},XH P N kk R rv (CU f h st).1 (CU f h st).2 n s→XH P N kk R rv h st n s:=by
 intro f
 induction f with
 |zero=>intro h st hh;simpa [CU] using hh
 |succ f ih=>
   intro h st hh
   cases h with
   |c c=>cases c with
     |seq a b=>exact XW.seq (ih (h:= .c a) hh)
     |block id c=>exact XW.block (ih (h:= .c c) hh)
     |skip=>exact XW.skip (ih (h:= .n) hh)
     |exit id=>exact XW.exit (ih (h:= .x id) hh)
     |_=>exact hh
   |n=>cases st with
     |nil=>exact hh
     |cons fr st=>cases fr with
       |k c=>exact XQ.k (ih (h:= .c c) hh)
       |b id=>exact XQ.b (ih (h:= .n) hh)
       |l Y=>exact hh
   |x id=>cases st with
     |nil=>exact hh
     |cons fr st=>cases fr with
       |k c=>exact AgQ (ih (h:= .x id) hh)
       |l Y=>exact Ahu (ih (h:= .x id) hh)
       |b id'=>
         simp only[CU]at hh
         split at hh
         · rename_i he _
           subst he
           exact Ahh (ih (h:= .n) hh)
         · rename_i hne _
           exact AgZ hne (ih (h:= .x id) hh)
@[go_sem] theorem range0:List.range 0=[]:=rfl
@[go_sem] theorem range1:List.range 1=[0]:=rfl
@[go_sem] theorem range2:List.range 2=[0,1]:=rfl
@[go_sem] theorem range3:List.range 3=[0,1,2]:=rfl
theorem CE(l:List UInt8): ∀ c∈Ab l,Gu c=true:=by
 intro c hc
 simp only[Ab,List.mem_map]at hc
 obtain⟨b,_,rfl⟩:=hc
 have:=b.toNat_lt
 simp only[FE,Gu,decide_eq_true_eq];omega
theorem Kf{T:Tab}{orc:Nat→Option Orc}{ops:Array Oper}: ∀ (l l':List Oper) (i:Nat) (s:AS) (ts:List Touch) (p:Prop) {s':AS} {ts':List Touch} {p':Prop},Bv P T orc n ops l i s ts p=some (s',ts',p')→
   Bv P T orc n ops (l++l') i s ts p=Bv P T orc n ops l' (i+l.length) s' ts' p'
 | [],l',i,s,ts,p,s',ts',p',h=>by
   simp only[Bv,Option.some.injEq,Prod.mk.injEq]at h
   obtain⟨rfl,rfl,rfl⟩:=h
   simp
 |o::l,l',i,s,ts,p,s',ts',p',h=>by
   rw[List.cons_append,Bv]
   rw[Bv]at h
   have e:i+(o::l).length=i+1+l.length:=by simp;omega
   rw[e]
   split at h
   · next hg=>
     split at h
     · next r hr=>
       try simp only[hg,hr]
       exact Kf l l' _ _ _ _ h
     · simp at h
   · next hg=>
     try simp only[hg]
     exact Kf l l' _ _ _ _ h
   · simp at h
theorem Lk{T:Tab}{orc orc':Nat→Option Orc}{ops:Array Oper}: ∀ (l:List Oper) (i:Nat) (s:AS) (ts:List Touch) (p:Prop),(∀ j,i≤j→j<i+l.length→orc j=orc' j)→Bv P T orc n ops l i s ts p=Bv P T orc' n ops l i s ts p
 | [],i,s,ts,p,h=>rfl
 |o::l,i,s,ts,p,h=>by
   have h1:orc i=orc' i:=h i (Nat.le_refl _) sP
   have ih:=fun s ts p=>Lk (T:=T) (ops:=ops) (orc:=orc) (orc':=orc') l (i+1) s ts p (fun j hj hj'=>h j oM (by simp only[List.length_cons];omega))
   rw[Bv,Bv,h1]
   simp only[ih]
theorem Me{T:Tab}{orc:Nat→Option Orc}{ops:Array Oper}: ∀ (l:List Oper) (i:Nat) (s:AS) (ts:List Touch) (p q:Prop) {s':AS} {ts':List Touch} {p':Prop},Bv P T orc n ops l i s ts p=some (s',ts',p')→(p→q)→
   ∃ q',Bv P T orc n ops l i s ts q=some (s',ts',q')∧(p'→q')
 | [],i,s,ts,p,q,s',ts',p',h,hq=>by
   simp only[Bv,Option.some.injEq,Prod.mk.injEq]at h
   obtain⟨rfl,rfl,rfl⟩:=h
   exact⟨q,rfl,hq⟩
 |o::l,i,s,ts,p,q,s',ts',p',h,hq=>by
   rw[Bv]at h ⊢
   split at h
   · next hg=>
     split at h
     · next r hr=>
       try simp only[hg,hr]
       exact Me l _ _ _ _ _ h (fun⟨a,b⟩=>⟨hq a,b⟩)
     · simp at h
   · next hg=>
     try simp only[hg]
     exact Me l _ _ _ _ _ h hq
   · simp at h
def Pre(P:Program)(n:Nat)(ops:Array Oper)(s0:AS)(k:Nat)(s:AS)(ts:List Touch):Prop:=
 ∃ orc p s1,Bv P (Ao P) orc n ops (ops.toList.take k) 0 s0 [] True=some (s1,ts,p)∧p∧lk s1.env=lk s.env∧s1.hp=s.hp
theorem Pg{T:Tab}{orc:Nat→Option Orc}{ops:Array Oper}: ∀ (l:List Oper) (i:Nat) (s s1:AS) (ts:List Touch) (p:Prop) {s':AS} {ts':List Touch} {p':Prop},lk s1.env=lk s.env→s1.hp=s.hp→Bv P T orc n ops l i s ts p=some (s',ts',p')→
   ∃ s1',Bv P T orc n ops l i s1 ts p=some (s1',ts',p')∧lk s1'.env=lk s'.env∧s1'.hp=s'.hp
 | [],i,s,s1,ts,p,s',ts',p',he,hh,h=>by
   simp only[Bv,Option.some.injEq,Prod.mk.injEq]at h
   obtain⟨rfl,rfl,rfl⟩:=h
   exact⟨s1,rfl,he,hh⟩
 |o::l,i,s,s1,ts,p,s',ts',p',he,hh,h=>by
   rw[Bv]at h
   rw[Bv,he,hh]
   split at h
   · next hg=>
     split at h
     · next r hr=>
       try simp only[hg,hr]
       exact Pg l _ ⟨BV o.dst r.v s.env,r.hw.reverse++s.hp⟩ ⟨BV o.dst r.v s1.env,r.hw.reverse++s.hp⟩ _ _ (by simp only[S7,he]) rfl h
     · simp at h
   · next hg=>
     try simp only[hg]
     exact Pg l _ ⟨BV o.dst (.val undef) s.env,s.hp⟩ ⟨BV o.dst (.val undef) s1.env,s.hp⟩ _ _ (by simp only[S7,he]) rfl h
   · simp at h
def XO(P:Program)(n:Nat)(ops:Array Oper)(s0:AS)(G:Prop)(k:Nat)(rem:List Oper)(s:AS)(ts:List Touch):Prop:=ops.toList.drop k=rem→Pre P n ops s0 k s ts→G
variable {ops : Array Oper} {s0 : AS} {G : Prop} {k : Nat} {ts : List Touch} {rem : List Oper}
theorem Ah(id:Nat){draw:Bool}{l:List Oper}(h:XO P n l.toArray s (XH P N kk R rv (.c (.region id l.toArray draw)) st n s) 0 l s []):XH P N kk R rv (.c (.region id l.toArray draw)) st n s:=
 h rfl ⟨noc,True,s,by simp[Bv],trivial,rfl,rfl⟩
theorem C0{orc:Nat→Option Orc}{rem':List Oper}(m:Nat)(hm:m≤rem.length)(hrem:rem.drop m=rem'){s':AS}{ts':List Touch}{p:Prop}(hr:Bv P (Ao P) orc n ops (rem.take m) k s ts True=some (s',ts',p))(hp:p)(h:XO P n ops s0 G (k+m) rem' s' ts'):XO P n ops s0 G k rem s ts:=by
 rintro hd ⟨orc0,p0,s1,h0,hp0,hse,hsh⟩
 subst hrem
 obtain⟨s1',hr,hse',hsh'⟩:=Pg _ _ _ s1 _ _ hse hsh hr
 have hkm:k+m≤ops.size∨m=0:=by
   rw[← hd]at hm;simp at hm;omega
 refine h (by rw[← hd,List.drop_drop]) ?_
 rw[← hd]at hr
 have hlm:((ops.toList.drop k).take m).length=m:=by simp;omega
 let orc':Nat→Option Orc:=fun j=>if j<k then orc0 j else orc j
 have e1:=Lk (P:=P) (T:=Ao P) (n:=n) (ops:=ops) (orc:=orc0) (orc':=orc') (ops.toList.take k) 0 s0 [] True (fun j _ hj=>by simp only[orc'];rw[if_pos (by simp at hj;omega)])
 have e2:=Lk (P:=P) (T:=Ao P) (n:=n) (ops:=ops) (orc:=orc) (orc':=orc') ((ops.toList.drop k).take m) k s1 ts True (fun j hj _=>by simp only[orc'];rw[if_neg oM])
 rw[e1]at h0
 rw[e2]at hr
 obtain⟨q,hq1,hq2⟩:=Me _ _ _ _ True p0 hr (fun _=>hp0)
 refine⟨orc',q,s1',?_,hq2 hp,hse',hsh'⟩
 rcases hkm with hkm|hm0
 · have hlk:(ops.toList.take k).length=k:=by simp;omega
   rw[List.take_add,Kf _ _ _ _ _ _ h0,hlk,Nat.zero_add]
   exact hq1
 · subst hm0
   simp only[List.take_zero,Bv,Option.some.injEq,Prod.mk.injEq]at hq1
   obtain⟨rfl,rfl,rfl⟩:=hq1
   exact h0
theorem XO.slot(t:Nat)(a:AV)(ha:lk s.env t=a)(h:XO P n ops s0 G k rem ⟨(t,a)::s.env,s.hp⟩ ts):XO P n ops s0 G k rem s ts:=by
 rintro hd ⟨orc0,p0,s1,h0,hp0,hse,hsh⟩
 refine h hd ⟨orc0,p0,s1,h0,hp0,hse.trans ?_,hsh⟩
 funext u
 simp only[lk]
 split
 · next hu=>subst hu;exact ha
 · rfl
theorem XO.r(m:Nat){rem':List Oper}{s':AS}{ts':List Touch}{p:Prop}(h:XO P n ops s0 G (k+m) rem' s' ts')(hr:Bv P (Ao P) noc n ops (rem.take m) k s ts True=some (s',ts',p):=by(try simp only[go_sem,seval]);(iterate 3 (first|(simp only[hx];try simp only[go_sem,seval])|skip);(first|(simp only[hx2];try simp only[go_sem,seval])|skip);(first|(simp only[hx3];try simp only[go_sem,seval])|skip);(try(simp (disch:=omega) only[au];try simp only[go_sem,seval])));rfl)(hp:p:=by(repeat' (with_reducible refine And.intro ?_ ?_))<;>first|with_reducible exact True.intro|omega|exact CE _|with_reducible assumption|decide|(simp;done)|(simp;omega)|(simp[*];done)|(simp[*];omega))(hm:m≤rem.length:=by decide)(hrem:rem.drop m=rem':=by(try simp only[List.drop_succ_cons,List.drop_zero,List.drop_nil]);rfl):XO P n ops s0 G k rem s ts:=C0 m hm hrem hr hp h
theorem XO.split(t:Nat){b:Bool}(ht:b=true→XO P n ops s0 G k rem ⟨(t,.val (.bool true))::s.env,s.hp⟩ ts)(hf:b=false→XO P n ops s0 G k rem ⟨(t,.val (.bool false))::s.env,s.hp⟩ ts)(hb:lk s.env t= .val (.bool b):=by rfl):XO P n ops s0 G k rem s ts:=by
 cases b
 · exact XO.slot t _ hb (hf rfl)
 · exact XO.slot t _ hb (ht rfl)
theorem GK(t:Nat)(h:XO P n ops s0 G k rem s ts)(hb:lk s.env t= .val (.bool true):=by rfl):XO P n ops s0 G k rem s ts:=h
theorem BQ(t:Nat)(h:XO P n ops s0 G k rem s ts)(hb:lk s.env t= .val (.bool false):=by rfl):XO P n ops s0 G k rem s ts:=h
theorem XO.done(keep:List Nat){l:List Oper}{id:Nat}{draw:Bool}{n':Nat}{s':AS}{c':Hd}{st':List Fr}(h:XH P N kk R rv c' st' n' s')
   (hs:((E4 (List.range kk) keep s).length,G8 (List.range kk) keep s)=(n',s'):=by(try simp only[go_sem,seval]);rfl) (hn:CU 60 .n st=(c',st'):=by rfl) (ht:(!draw||BS (CA l []) ts)=true:=by first|rfl|decide+kernel) (hok:Ct N l.toArray draw=true:=by decide+kernel) (hk:l.length=k:=by rfl) (hm:P.follows .mixedOrders=true:=by exact Bh):
   XO P n l.toArray s0 (XH P N kk R rv (.c (.region id l.toArray draw)) st n s0) k [] s ts:=by
 rintro _ ⟨orc,p,s1,hr,hp,hse,hsh⟩
 have hst:s1.st=s.st:=by simp only[AS.st,hse,hsh]
 have hall:l.toArray.toList.take k=l.toArray.toList:=List.take_of_length_le sO
 rw[hall]at hr
 have hq:XH P N kk R rv .n st n' s':=DQ (by rw[hn];exact h)
 simp only[Prod.mk.injEq]at hs
 obtain⟨rfl,rfl⟩:=hs
 refine EX.step (fun x C hN hkk hq=>?_) (show XQ P N kk R rv .normal st _ _ from hq)
 intro a w hI
 refine E3 (BU P) hm hr hp (hN ▸ hok) (fun hd=>by subst hd;simpa using ht) hI ?_
 intro a' w' hI'
 rw[hst]at hI'
 exact⟨_,_,hq,hI'.weak (hkk ▸ HV rfl)⟩
theorem CF(t:Nat){a b:Code}{c':Hd}{st':List Fr}(h:XH P N kk R rv c' st' n s)(hc:lk s.env t= .val (.bool true):=by rfl)(hn:CU 60 (.c a) st=(c',st'):=by rfl):XH P N kk R rv (.c (.cond (.tmp t) a b)) st n s:=Rm hc (DQ (h:= .c a) (by rw[hn];exact h))
theorem A3(t:Nat){a b:Code}{c':Hd}{st':List Fr}(h:XH P N kk R rv c' st' n s)(hc:lk s.env t= .val (.bool false):=by rfl)(hn:CU 60 (.c b) st=(c',st'):=by rfl):XH P N kk R rv (.c (.cond (.tmp t) a b)) st n s:=NO hc (DQ (h:= .c b) (by rw[hn];exact h))
theorem Bx(t:Nat){a b:Code}{v:Bool}{c1 c2:Hd}{st1 st2:List Fr}(ht:v=true→XH P N kk R rv c1 st1 n s)(hf:v=false→XH P N kk R rv c2 st2 n s)(hc:lk s.env t= .val (.bool v):=by rfl)(hn1:CU 60 (.c a) st=(c1,st1):=by rfl)(hn2:CU 60 (.c b) st=(c2,st2):=by rfl):XH P N kk R rv (.c (.cond (.tmp t) a b)) st n s:=
 YY hc (fun e=>DQ (h:= .c a) (by rw[hn1];exact ht e)) (fun e=>DQ (h:= .c b) (by rw[hn2];exact hf e))
def Ae(P:Program)(g:FuncId)(as:List AV)(Rg:AV→Prop):Prop:= ∃ r,Rg r∧AN 0 r=true∧Ad P g as [] r []
theorem Ep{g:FuncId}{as:List AV}{r:AV}(h:Ad P g as [] r [])(hi:AN 0 r=true:=by rfl):Ae P g as (fun x=>x=r):=⟨r,rfl,hi,h⟩
def Wa(k:Nat)(bor:List Nat)(ts:List Touch):List Touch:=match bor with
 | []=>ts
 |_=>(k,bor,[])::ts
def BX(o:Oper)(env:Env):List AV:=match o.op with
 | .call c=>c.args.toList.map (evA env)
 |_=>[]
def FB(o:Oper):Option FuncId:=match o.op with
 | .call c=>match c.callee with
   | .value (.func g)=>some g
   |_=>none
 |_=>none
theorem Wx(bor:List Nat){o:Oper}{g:FuncId}{as:List AV}{Rg:AV→Prop}(hcal:FB o=some g)(hgd:BM ops (lk s.env) o=some true)(q:Ae P g as Rg)(hv:Fo (lkh s.hp) bor (BX o (lk s.env)) as)(hid:AF 0 as=true)(hb:DY (lkh s.hp) [] bor)
   (hbr:bor=[]∨ ∀ r,Rg r→ER r=true) (h: ∀ r,Rg r→XO P n ops s0 G (k+1) rem ⟨BV o.dst r s.env,s.hp⟩ (Wa k bor ts)):XO P n ops s0 G k (o::rem) s ts:=by
 obtain⟨r,h1,h2,h3⟩:=q
 have hx:CG P (Ao P) (some ⟨[],[],as,r,[],bor,none⟩) (n+8*k) (lk s.env) (lkh s.hp) o.op=some (Bd P g (BX o (lk s.env)) (lkh s.hp) (n+8*k) ⟨[],[],as,r,[],bor,none⟩):=by
   unfold FB at hcal
   split at hcal
   · rename_i c hop
     split at hcal
     · rename_i g' hcl
       simp only[Option.some.injEq]at hcal
       subst hcal
       simp only[CG,FH,Bj,hop,hcl,evA,BX]
     · simp at hcal
   · simp at hcal
 have hob:(Bd P g (BX o (lk s.env)) (lkh s.hp) (n+8*k) ⟨[],[],as,r,[],bor,none⟩).ob:=by
   refine DS ⟨h3,?_,sP,trivial,sP,sP,?_,hb,by simpa using hid⟩
   · rw[CJ _ _ hid];exact hv
   · unfold N0
     split
     · trivial
     · rename_i hne
       rcases hbr with hb1|hb1
       · exact absurd hb1 hne
       · exact⟨hb1 r h1,fun e he=>by simp at he⟩
 refine C0 (orc:=fun _=>some ⟨[],[],as,r,[],bor,none⟩) 1 sP (rem':=rem) rfl (s':=⟨BV o.dst r s.env,s.hp⟩) (ts':=Wa k bor ts) (p:=True∧_) ?_ ⟨trivial,hob⟩ (h r h1)
 simp only[List.take_succ_cons,List.take_zero,Bv,hgd,hx]
 have e1:(Bd P g (BX o (lk s.env)) (lkh s.hp) (n+8*k) ⟨[],[],as,r,[],bor,none⟩).v=r:=by rw[Ho];exact KS _ _ h2
 have e2:(Bd P g (BX o (lk s.env)) (lkh s.hp) (n+8*k) ⟨[],[],as,r,[],bor,none⟩).hw=[]:=rfl
 have e3:(Bd P g (BX o (lk s.env)) (lkh s.hp) (n+8*k) ⟨[],[],as,r,[],bor,none⟩).hr=bor:=by simp[Bd]
 rw[e1,e2]
 simp only[DG,e2,e3]
 cases bor<;>rfl
theorem AG{o:Oper}{g:FuncId}{Rg:AV→Prop}(q:Ae P g (BX o (lk s.env)) Rg)(h: ∀ r,Rg r→XO P n ops s0 G (k+1) rem ⟨BV o.dst r s.env,s.hp⟩ ts)(hcal:FB o=some g:=by rfl)(hgd:BM ops (lk s.env) o=some true:=by rfl)(hid:AF 0 (BX o (lk s.env))=true:=by rfl):XO P n ops s0 G k (o::rem) s ts:=
 Wx [] hcal hgd q (Cq _ _) hid trivial (.inl rfl) h
def RP(Rg:AV→Prop):Res→Prop:=fun x=>Rg x.1∧AN 0 x.1=true∧x.2=[]
omit [Yl] in
theorem NX{g:FuncId}{as:List AV}{Rg:AV→Prop}(N:Nat){fn:Func}{c:Code}(hf:P.funcs[g]? =some fn)(hb:fn.body=some c)(hname:(fn.name== "runtime.NumGoroutine")=false)(hN:fn.ntmps=N)(has:as.length≤N)
   {rv:List ResultVar} (hrv:fn.results=rv.toArray) {h':Hd} {st':List Fr} (h: @XH ylNone P N 0 (RP Rg) rv h' st' 0 ⟨Ei 0 as,[]⟩) (hn:CU 60 (.c c) []=(h',st'):=by rfl):Ae P g as Rg:=by
 obtain⟨⟨r,hs'⟩,⟨h1,h2,h3⟩,h4⟩:=Sd (R:=RP Rg) (hs:=[]) N 0 hf hb hname hN has rfl hrv (DQ (h:= .c c) (by rw[hn];exact h))
 simp only at h3
 subst h3
 exact⟨r,h1,h2,h4⟩
theorem Ax{g:FuncId}{as:List AV}{Rg:AV→Prop}(N:Nat){fn:Func}{c:Code}(hf:P.funcs[g]? =some fn){rv:List ResultVar}{h':Hd}{st':List Fr}(h: @XH ylNone P N 0 (RP Rg) rv h' st' 0 ⟨Ei 0 as,[]⟩)(hb:fn.body=some c:=by rfl)(hname:(fn.name== "runtime.NumGoroutine")=false:=by rfl)(hN:fn.ntmps=N:=by rfl)(has:as.length≤N:=by simp)(hrv:fn.results=rv.toArray:=by rfl)(hn:CU 60 (.c c) []=(h',st'):=by rfl):Ae P g as Rg:=NX N hf hb hname hN has hrv h hn
theorem XP.ret{Rg:AV→Prop}(D:List Nat)(r:AV)(hR:Rg r){l:List AV}{p:Prop}(hres:AY (Ao P) s rv=some (l,p):=by(try simp only[AY,go_sem,seval]);rfl)(hp:p:=by(repeat' (with_reducible refine And.intro ?_ ?_))<;>first|with_reducible exact True.intro|omega|exact CE _|with_reducible assumption|decide|(simp;done)|(simp;omega)|(simp[*];done)|(simp[*];omega))
   (hwk:wk (lkh s.hp) [] D (Az l) r:=by simp[Az,lk,lkh,wk,wkL,wkE]) (hi:AN 0 r=true:=by first|rfl|simp[AN,AF]):XH P N 0 (RP Rg) rv (.c .ret) st n s:=
 XW.ret r [] ⟨hR,hi,rfl⟩ ⟨.inl rfl,l,p,[],D,hres,hp,⟨by simp[Al],by simp[Al],sP⟩,rfl,hwk,by simp[Am]⟩
theorem AeI{Rg:AV→Prop}(D:List Nat)(r:AV)(hR:Rg r){l:List AV}{p:Prop}(hres:AY (Ao P) s rv=some (l,p):=by(try simp only[AY,go_sem,seval]);rfl)(hp:p:=by(repeat' (with_reducible refine And.intro ?_ ?_))<;>first|with_reducible exact True.intro|omega|exact CE _|with_reducible assumption|decide|(simp;done)|(simp;omega)|(simp[*];done)|(simp[*];omega))
   (hwk:wk (lkh s.hp) [] D (Az l) r:=by simp[Az,lk,lkh,wk,wkL,wkE]) (hi:AN 0 r=true:=by first|rfl|simp[AN,AF]):XH P N 0 (RP Rg) rv .n [] n s:=
 XQ.ret r [] ⟨hR,hi,rfl⟩ ⟨.inr rfl,l,p,[],D,hres,hp,⟨by simp[Al],by simp[Al],sP⟩,rfl,hwk,by simp[Am]⟩
theorem TU{hp:Hp}{a:AV}(h:AN 0 a=true):wk hp [] [] a a:=by
 have:=Fg (hp:=hp) (ids:=[]) (D:=[]) [a] (by simp[AF,h])
 simpa using this
theorem Bi{Rg:AV→Prop}{l:List AV}{p:Prop}{r:AV}(hR:Rg r)(hres:AY (Ao P) s rv=some (l,p):=by(try simp only[AY,go_sem,seval]);rfl)(hr:Az l=r:=by rfl)(hp:p:=by(repeat' (with_reducible refine And.intro ?_ ?_))<;>first|with_reducible exact True.intro|omega|exact CE _|with_reducible assumption|decide|(simp;done)|(simp;omega)|(simp[*];done)|(simp[*];omega))
   (hi:AN 0 r=true:=by first|rfl|simp[AN,AF]):XH P N 0 (RP Rg) rv (.c .ret) st n s:=by
 subst hr
 exact XP.ret [] _ hR hres hp (TU hi) hi
theorem XP.es{Rg:AV→Prop}{l:List AV}{p:Prop}{r:AV}(hR:Rg r)(hres:AY (Ao P) s rv=some (l,p):=by(try simp only[AY,go_sem,seval]);rfl)(hr:Az l=r:=by rfl)(hp:p:=by(repeat' (with_reducible refine And.intro ?_ ?_))<;>first|with_reducible exact True.intro|omega|exact CE _|with_reducible assumption|decide|(simp;done)|(simp;omega)|(simp[*];done)|(simp[*];omega))
   (hi:AN 0 r=true:=by first|rfl|simp[AN,AF]):XH P N 0 (RP Rg) rv .n [] n s:=by
 subst hr
 exact AeI [] _ hR hres hp (TU hi) hi
theorem XW.at(id:Nat){ops:Array Oper}{draw:Bool}(h:XH P N kk R rv (.c (.region id ops draw)) st n s):XH P N kk R rv (.c (.region id ops draw)) st n s:=h
theorem Aq(h:XH P N kk R rv (.c .ret) st n s):XH P N kk R rv (.c .ret) st n s:=h
theorem A8{c:Code}{α:Type}{h':(Res→Ctx→Nat→AS→Prop)→Hd}{st':(Res→Ctx→Nat→AS→Prop)→List Fr}(n0:Nat)(S:α→AS)(I:α→Prop)(μ:α→Nat)(a0:α)(hw:Wk kk s n0 (S a0))
   (hr: ∀ a,I a→ ∀ Y:Res→Ctx→Nat→AS→Prop,(∀ a',I a'→μ a'<μ a→ ∀ n s,Wk kk s n0 (S a')→EX N kk R fun x C=>Y x C n s)→
     XH P N kk R rv (h' Y) (st' Y) n0 (S a)) (h0:I a0:=by first|assumption|omega|(simp;done)|((repeat' apply And.intro)<;>first|assumption|omega|(simp;done)|(simp;omega))) (hn:(fun Y=>CU 60 (.c c) (.l Y::st))=(fun Y=>(h' Y,st' Y)):=by rfl):XH P N kk R rv (.c (.loop c)) st n s:=
 XW.loop n0 S I μ a0 h0 hw (fun a hI Y hY=>DQ (h:= .c c) (by
   have:=congrFun hn Y
   exact this ▸ (show XH P N kk R rv (h' Y,st' Y).1 (h' Y,st' Y).2 n0 (S a)from hr a hI Y hY)))
theorem XH.le{Y:Res→Ctx→Nat→AS→Prop}(h:EX N kk R fun x C=>Y x C n s):XH P N kk R rv .n (.l Y::st) n s:=XQ.l h
theorem Bm{α:Type}(l:List α)(i:Nat)(h:i<l.length): ∃ x,l[i]? =some x∧x∈l:=⟨l[i],List.getElem?_eq_getElem h,List.getElem_mem h⟩
end
section
variable [Yl] {P : Program} {N kk : Nat} {R : Res → Prop} {rv : List ResultVar} {st : List Fr} {n : Nat} {s : AS} {ops : Array Oper} {s0 : AS} {G : Prop} {k : Nat} {ts : List Touch} {rem : List Oper}
theorem Ac(m:Nat){rem':List Oper}{s':AS}{ts':List Touch}{p:Prop}(h:XO P n ops s0 G (k+m) rem' s' ts')(hr:Bv P (Ao P) noc n ops (rem.take m) k s ts True=some (s',ts',p):=by(try simp only[go_sem,seval]);rfl)(hp:p:=by(try simp only[go_sem,seval,and_true,true_and]);all_goals((repeat' (with_reducible refine And.intro ?_ ?_))<;>first|with_reducible exact True.intro|omega|exact CE _|with_reducible assumption|decide|(simp;done)|(simp;omega)|(simp[*];done)|(simp[*];omega)))(hm:m≤rem.length:=by decide)(hrem:rem.drop m=rem':=by(try simp only[List.drop_succ_cons,List.drop_zero,List.drop_nil]);rfl):XO P n ops s0 G k rem s ts:=C0 m hm hrem hr hp h
theorem Aa(id:Nat)(keep:List Nat){l:List Oper}{draw:Bool}{n':Nat}{s' s1:AS}{c':Hd}{st':List Fr}{ts1:List Touch}{p:Prop}(h:XH P N kk R rv c' st' n' s')
   (hr:Bv P (Ao P) noc n l.toArray l 0 s [] True=some (s1,ts1,p):=by(try simp only[go_sem,seval]);rfl) (hp:p:=by(try simp only[go_sem,seval,and_true,true_and]);all_goals((repeat' (with_reducible refine And.intro ?_ ?_))<;>first|with_reducible exact True.intro|omega|exact CE _|with_reducible assumption|decide|(simp;done)|(simp;omega)|(simp[*];done)|(simp[*];omega)))
   (hs:((E4 (List.range kk) keep s1).length,G8 (List.range kk) keep s1)=(n',s'):=by(try simp only[go_sem,seval]);rfl) (hn:CU 60 .n st=(c',st'):=by rfl) (ht:(!draw||BS (CA l []) ts1)=true:=by first|rfl|decide+kernel) (hok:Ct N l.toArray draw=true:=by decide+kernel) (hm:P.follows .mixedOrders=true:=by exact Bh):
   XH P N kk R rv (.c (.region id l.toArray draw)) st n s:=
 Ah id (C0 l.length (Nat.le_refl _) sP (by rw[List.take_length];exact hr) hp (XO.done keep h hs hn ht hok sP hm))
theorem Aw(m:Nat){rem':List Oper}{s':AS}{ts':List Touch}{p:Prop}(h:XO P n ops s0 G (k+m) rem' s' ts')(hr:Bv P (Ao P) noc n ops (rem.take m) k s ts True=some (s',ts',p):=by(try simp only[go_sem,seval]);(first|(simp only[hx];try simp only[go_sem,seval])|skip);(first|(simp only[hx2];try simp only[go_sem,seval])|skip);rfl)(hp:p:=by(try simp only[go_sem,seval,and_true,true_and]);all_goals((repeat' (with_reducible refine And.intro ?_ ?_))<;>first|with_reducible exact True.intro|omega|exact CE _|with_reducible assumption|decide|(simp;done)|(simp;omega)|(simp[*];done)|(simp[*];omega)))(hm:m≤rem.length:=by decide)(hrem:rem.drop m=rem':=by(try simp only[List.drop_succ_cons,List.drop_zero,List.drop_nil]);rfl):XO P n ops s0 G k rem s ts:=C0 m hm hrem hr hp h
theorem BJ(id:Nat)(keep:List Nat){l:List Oper}{draw:Bool}{n':Nat}{s' s1:AS}{c':Hd}{st':List Fr}{ts1:List Touch}{p:Prop}(h:XH P N kk R rv c' st' n' s')
   (hr:Bv P (Ao P) noc n l.toArray l 0 s [] True=some (s1,ts1,p):=by(try simp only[go_sem,seval]);(first|(simp only[hx];try simp only[go_sem,seval])|skip);(first|(simp only[hx2];try simp only[go_sem,seval])|skip);rfl) (hp:p:=by(try simp only[go_sem,seval,and_true,true_and]);all_goals((repeat' (with_reducible refine And.intro ?_ ?_))<;>first|with_reducible exact True.intro|omega|exact CE _|with_reducible assumption|decide|(simp;done)|(simp;omega)|(simp[*];done)|(simp[*];omega)))
   (hs:((E4 (List.range kk) keep s1).length,G8 (List.range kk) keep s1)=(n',s'):=by(try simp only[go_sem,seval]);rfl) (hn:CU 60 .n st=(c',st'):=by rfl) (ht:(!draw||BS (CA l []) ts1)=true:=by first|rfl|decide+kernel) (hok:Ct N l.toArray draw=true:=by decide+kernel) (hm:P.follows .mixedOrders=true:=by exact Bh):
   XH P N kk R rv (.c (.region id l.toArray draw)) st n s:=
 Ah id (C0 l.length (Nat.le_refl _) sP (by rw[List.take_length];exact hr) hp (XO.done keep h hs hn ht hok sP hm))
theorem Gz(m:Nat){rem':List Oper}{s':AS}{ts':List Touch}{p:Prop}(h:XO P n ops s0 G (k+m) rem' s' ts')(hr:Bv P (Ao P) noc n ops (rem.take m) k s ts True=some (s',ts',p):=by(try simp only[go_sem,seval]);(try(simp (disch:=omega) only[au];try simp only[go_sem,seval]));rfl)(hp:p:=by(try simp only[go_sem,seval,and_true,true_and]);all_goals((repeat' (with_reducible refine And.intro ?_ ?_))<;>first|with_reducible exact True.intro|omega|exact CE _|with_reducible assumption|decide|(simp;done)|(simp;omega)|(simp[*];done)|(simp[*];omega)))(hm:m≤rem.length:=by decide)(hrem:rem.drop m=rem':=by(try simp only[List.drop_succ_cons,List.drop_zero,List.drop_nil]);rfl):XO P n ops s0 G k rem s ts:=C0 m hm hrem hr hp h
theorem AQ(id:Nat)(keep:List Nat){l:List Oper}{draw:Bool}{n':Nat}{s' s1:AS}{c':Hd}{st':List Fr}{ts1:List Touch}{p:Prop}(h:XH P N kk R rv c' st' n' s')
   (hr:Bv P (Ao P) noc n l.toArray l 0 s [] True=some (s1,ts1,p):=by(try simp only[go_sem,seval]);(try(simp (disch:=omega) only[au];try simp only[go_sem,seval]));rfl) (hp:p:=by(try simp only[go_sem,seval,and_true,true_and]);all_goals((repeat' (with_reducible refine And.intro ?_ ?_))<;>first|with_reducible exact True.intro|omega|exact CE _|with_reducible assumption|decide|(simp;done)|(simp;omega)|(simp[*];done)|(simp[*];omega)))
   (hs:((E4 (List.range kk) keep s1).length,G8 (List.range kk) keep s1)=(n',s'):=by(try simp only[go_sem,seval]);rfl) (hn:CU 60 .n st=(c',st'):=by rfl) (ht:(!draw||BS (CA l []) ts1)=true:=by first|rfl|decide+kernel) (hok:Ct N l.toArray draw=true:=by decide+kernel) (hm:P.follows .mixedOrders=true:=by exact Bh):
   XH P N kk R rv (.c (.region id l.toArray draw)) st n s:=
 Ah id (C0 l.length (Nat.le_refl _) sP (by rw[List.take_length];exact hr) hp (XO.done keep h hs hn ht hok sP hm))
theorem A2(m:Nat){rem':List Oper}{s':AS}{ts':List Touch}{p:Prop}(h:XO P n ops s0 G (k+m) rem' s' ts')(hr:Bv P (Ao P) noc n ops (rem.take m) k s ts True=some (s',ts',p):=by(try simp only[go_sem,seval]);(iterate 2 (first|(simp only[hx];try simp only[go_sem,seval])|skip);(first|(simp only[hx2];try simp only[go_sem,seval])|skip);(try(simp (disch:=omega) only[au];try simp only[go_sem,seval])));rfl)(hp:p:=by(try simp only[go_sem,seval,and_true,true_and]);all_goals((repeat' (with_reducible refine And.intro ?_ ?_))<;>first|with_reducible exact True.intro|omega|exact CE _|with_reducible assumption|decide|(simp;done)|(simp;omega)|(simp[*];done)|(simp[*];omega)))(hm:m≤rem.length:=by decide)(hrem:rem.drop m=rem':=by(try simp only[List.drop_succ_cons,List.drop_zero,List.drop_nil]);rfl):XO P n ops s0 G k rem s ts:=C0 m hm hrem hr hp h
theorem A4(id:Nat)(keep:List Nat){l:List Oper}{draw:Bool}{n':Nat}{s' s1:AS}{c':Hd}{st':List Fr}{ts1:List Touch}{p:Prop}(h:XH P N kk R rv c' st' n' s')
   (hr:Bv P (Ao P) noc n l.toArray l 0 s [] True=some (s1,ts1,p):=by(try simp only[go_sem,seval]);(iterate 2 (first|(simp only[hx];try simp only[go_sem,seval])|skip);(first|(simp only[hx2];try simp only[go_sem,seval])|skip);(try(simp (disch:=omega) only[au];try simp only[go_sem,seval])));rfl) (hp:p:=by(try simp only[go_sem,seval,and_true,true_and]);all_goals((repeat' (with_reducible refine And.intro ?_ ?_))<;>first|with_reducible exact True.intro|omega|exact CE _|with_reducible assumption|decide|(simp;done)|(simp;omega)|(simp[*];done)|(simp[*];omega)))
   (hs:((E4 (List.range kk) keep s1).length,G8 (List.range kk) keep s1)=(n',s'):=by(try simp only[go_sem,seval]);rfl) (hn:CU 60 .n st=(c',st'):=by rfl) (ht:(!draw||BS (CA l []) ts1)=true:=by first|rfl|decide+kernel) (hok:Ct N l.toArray draw=true:=by decide+kernel) (hm:P.follows .mixedOrders=true:=by exact Bh):
   XH P N kk R rv (.c (.region id l.toArray draw)) st n s:=
 Ah id (C0 l.length (Nat.le_refl _) sP (by rw[List.take_length];exact hr) hp (XO.done keep h hs hn ht hok sP hm))
end
variable {P : Program}
theorem Ad.settle{g:FuncId}{as:List AV}{hs':List (Option Ent)}{r r':AV}(D:List Nat)(h:Ad P g as [] r hs')(hw:wk (hpL hs') [] D r r'):Ad P g as [] r' []:=by
 refine⟨h.1,?_⟩
 intro X w β vs h1 h2 h3
 refine(h.2 X w β vs h1 h2 h3).mono ?_
 rintro e w' ⟨v,β',rfl,h4,h5,h6,h7,h8,h9⟩
 have hl0:hpL []=lkh []:=by funext j;simp[hpL,lkh]
 obtain⟨hO,hrep,hgood⟩:=JK (hp':=hpL []) (l:=[]) (ids:=[]) (D:=D) (k:=0) hl0 h5 ⟨by simp[Al],by simp[Al],sP⟩ (fun i e' he=>by simp[hpL]at he)
 refine⟨v,CX β' [],rfl,hrep _ _ _ hw h4,hgood,?_,h7,?_,fun i _=>by simp[CX]⟩
 · exact h6.trans ⟨rfl,rfl,rfl,Nat.le_refl _,fun _ _ _=>rfl,fun b hb=> .inl (hO b hb),fun _ _ h=>h⟩
 · intro i p hp
   rw[h3 i (Nat.zero_le _)]at hp;simp at hp
theorem Ae.osl{g:FuncId}{as:List AV}{n sz T:Nat}{es:List (List AV)}(h:Ad P g as [] (.osl 0 n sz) [some ⟨T,sz,es⟩])(hn:es.length=n)(hi:AB 0 es=true):Ae P g as (fun x=>x= .sl sz es):=
 ⟨_,rfl,rfl,h.settle [0] (by simp only[wk];exact .inr (.inl ⟨0,n,_,rfl,sP,rfl,hn,rfl,rfl,hi⟩))⟩
theorem Ae.mk{g:FuncId}{as:List AV}{Rg:AV→Prop}(r:AV)(h1:Rg r)(h2:AN 0 r=true)(h3:Ad P g as [] r []):Ae P g as Rg:=⟨r,h1,h2,h3⟩
theorem Ae.imp{g:FuncId}{as:List AV}{R R':AV→Prop}(h:Ae P g as R)(hi: ∀ r,R r→R' r):Ae P g as R':=by
 obtain⟨r,h1,h2,h3⟩:=h
 exact⟨r,hi r h1,h2,h3⟩
theorem Ab4{st:List Fr}{N n:Nat}{rv:List ResultVar}{s:AS}{Rg:AV→Prop}{i m sz T:Nat}{es:List (List AV)}{p:Prop}(hR:Rg (.sl sz es))(hres:AY (Ao P) s rv=some ([.osl i m sz],p):=by(try simp only[AY,go_sem,seval]);rfl)(he:lkh s.hp i=some ⟨T,sz,es⟩:=by rfl)(hp:p:=by trivial)
   (hm:es.length=m:=by simp) (hid:AB 0 es=true:=by simp):XH P N 0 (RP Rg) rv (.c .ret) st n s:=XP.ret [i] _ hR hres hp (by simp only[Az,wk];exact .inr (.inl ⟨i,m,_,rfl,sP,he,hm,rfl,rfl,hid⟩)) rfl
variable {P : Program}
theorem Hw{st:List Fr}{N n:Nat}{rv:List ResultVar}{s:AS}{Rg:AV→Prop}{i m sz T:Nat}{es:List (List AV)}{v:Value}{p:Prop}(hR:Rg (.tup [.sl sz es,.val v]))(hres:AY (Ao P) s rv=some ([.osl i m sz,.val v],p):=by(try simp only[AY,go_sem,seval]);rfl)(he:lkh s.hp i=some ⟨T,sz,es⟩:=by rfl)(hp:p:=by(repeat' (with_reducible refine And.intro ?_ ?_))<;>trivial)
   (hm:es.length=m:=by simp) (hid:AB 0 es=true:=by simp):XH P N 0 (RP Rg) rv (.c .ret) st n s:=XP.ret [i] _ hR hres hp (by simp only[Az,wk,wkL];exact⟨_,rfl,_,_,rfl,.inr (.inl ⟨i,m,_,rfl,sP,he,hm,rfl,rfl,hid⟩),_,_,rfl,rfl,rfl⟩) rfl
theorem Fq{N kk n:Nat}{R:Res→Prop}{rv:List ResultVar}{st:List Fr}{s:AS}(r:Nat)(n':Nat)(s':AS)(hw:Wk kk s n' s'){l:List Oper}{d:Bool}(h:XH P N kk R rv (.c (.region r l.toArray d)) st n' s'):XH P N kk R rv (.c (.region r l.toArray d)) st n s:=EX.step (fun _ _ _ hkk h=>IR hkk _ _ (by exact hw) h) h
section
variable {X : Nat → Prop} {P : Program} {T : Tab} {w : World} {β : Gm} {hp : Hp} {nb : Nat} {env : Env}
def MF(op:Op):Bool:=match op with
 | .buildSlice _ _ _=>true
 | .call c=>match c.callee with
   | .builtin .append=>true
   |_=>false
 |_=>false
theorem Zq(hT:B4 P T){o:Oper}{a:Act}{r:Out}(hmk:MF o.op=true)(h:Bj P T none nb env hp o.op=some r)(hob:r.ob)(hg:Good X w β hp)
   (hfresh: ∀ j,nb≤j→j<nb+8→β j=none) (henv:DH w β (Own X β hp) env a.tmps):
   ∃ v w' β',(execOp a.eval o).run P w= .ok (.value v) w'∧Post X w β hp nb r v w' β':=by
 have hn:β nb=none:=hfresh nb (Nat.le_refl _) oM
 have hev:=fun x=>DB henv x
 cases hop:o.op with
 |buildSlice t len parts=>
   simp only[hop,Bj]at h
   split at h
   · rename_i e te es he hpc
     simp only[Option.some.injEq]at h;subst h
     simp only at hob
     obtain⟨o1,o2,o3,o4⟩:=hob
     obtain⟨v,w',h1,h2⟩:=I7 hT hg hn henv he o1 hpc o2 o3 o4
     exact⟨v,w',_,by simp only[execOp,hop];exact Dv h1,h2 _⟩
   · simp at h
 |call c=>
   simp only[hop,MF]at hmk
   split at hmk
   · rename_i hcal
     have arr2: ∀ {α:Type} {xs:Array α} {x y:α},xs.toList=[x,y]→xs= #[x,y]:=fun h=>Array.ext' (by simpa using h)
     simp only[hop,Bj,hcal]at h
     split at h
     · rename_i x y t u hx ht
       have hrun: ∀ z w',(Builtin.append_ #[t,u] o.type #[a.eval x,a.eval y]).run P w= .ok z w'→(execOp a.eval o).run P w= .ok (.value z) w':=by
         intro z w' hz
         simp only[execOp,hop,resolve,hcal,run_bind,run_pure,invoke,builtin,arr2 hx,arr2 ht]
         simp only[List.map_toArray,List.map_cons,List.map_nil,hz]
       split at h
       · rename_i e hd
         obtain⟨v,w',β',h1,h2⟩:=HG (ty:=o.type) hT hg hn h hob (.inl ⟨e,hd⟩) (hev x) (hev y)
         exact⟨v,w',β',hrun v w' h1,h2⟩
       · rename_i hd
         obtain⟨v,w',β',h1,h2⟩:=HG (ty:=o.type) hT hg hn h hob (.inr hd) (hev x) (hev y)
         exact⟨v,w',β',hrun v w' h1,h2⟩
       · simp at h
     · simp at h
   · simp at hmk
 |_=>simp[hop,MF]at hmk
theorem OO(hp:Hp): ∀ (l:List (Nat×Option Ent)) (i:Nat) (e:Option Ent),BP hp (l++[(i,e)])=fun j=>if j=i then e else BP hp l j
 | [],i,e=>rfl
 |(i',e')::l,i,e=>by simp only[List.cons_append,BP];exact OO _ l i e
theorem PZ(hp:Hp): ∀ (l:List (Nat×Option Ent)) (i:Nat),i∉l.map (·.1)→BP hp l i=hp i
 | [],i,_=>rfl
 |(i',e')::l,i,h=>by
   simp only[List.map_cons,List.mem_cons,not_or]at h
   simp only[BP]
   rw[PZ _ l i h.2]
   simp only[if_neg h.1]
theorem Post.settle{m sz:Nat}{e:Ent}{pre:List (Nat×Option Ent)}{hr:List Nat}{ob ob':Prop}{v:Value}{w':World}{β':Gm}(hg:Good X w β hp)(hn:β nb=none)
   (h:Post X w β hp nb ⟨.osl nb m sz,pre++[(nb,some e)],hr,ob⟩ v w' β') (hpre:nb∉pre.map (·.1)) (hm:e.es.length=m) (hsz:e.sz=sz) (hid:AB 0 e.es=true):
   Post X w β hp nb ⟨.sl sz e.es,pre,hr,ob'⟩ v w' β':=by
 have hs:=OO hp pre nb (some e)
 obtain⟨h1,h2,h3,h4,h5,h6⟩:=h
 simp only[hs]at h1 h2 h3
 have hnone:BP hp pre nb=none:=by rw[PZ hp pre nb hpre];exact hg.fresh hn
 have hsub: ∀ i e',BP hp pre i=some e'→i≠nb∧(fun j=>if j=nb then some e else BP hp pre j) i=some e':=by
   intro i e' hi
   have:i≠nb:=by rintro rfl;rw[hnone]at hi;simp at hi
   exact⟨this,by simp only[if_neg this];exact hi⟩
 have hO: ∀ b,Own X β' (BP hp pre) b→Own X β' (fun j=>if j=nb then some e else BP hp pre j) b:=by
   rintro b (hb|⟨i,e',he,hb⟩)
   · exact .inl hb
   · exact .inr ⟨i,e',(hsub i e' he).2,hb⟩
 have hst:Stab w' w' β' β' (Own X β' (fun j=>if j=nb then some e else BP hp pre j)) (Own X β' (BP hp pre)):=⟨Nat.le_refl _,fun _ _ h=>h,fun _ _ h=>h,fun b _ h=>⟨.inl rfl,fun h'=>h (hO b h')⟩⟩
 have hnbE:(fun j=>if j=nb then some e else BP hp pre j) nb=some e:=by simp
 refine⟨?_,?_,?_,h4,h5,h6⟩
 · simp only[Rep]at h1 ⊢
   rcases h1 with ⟨h1,rfl,rfl⟩|⟨b,cap,T',m',h1,rfl,g2,g3,g4⟩
   · exact .inl ⟨rfl,List.eq_nil_of_length_eq_zero hm⟩
   · rcases h2.ent nb e hnbE with ⟨hb',_⟩|⟨b',c,fr,vs,rest,hb',hh',hfr,hc,hre⟩
     · rw[h1]at hb';simp at hb'
     · obtain rfl:b=b':=by rw[h1]at hb';simpa using hb'
       subst hm
       refine .inr ⟨b,0,cap,vs,rfl,g2,Bp hh',?_,CZ hh' hc,?_⟩
       · rintro(hb|⟨i,e',he,hb⟩)
         · exact h2.xdis nb e b hnbE h1 hb
         · exact(hsub i e' he).1 (h2.inj i nb e' e b (hsub i e' he).2 hnbE hb h1)
       · rw[← hsz]
         exact Hk hid (AI.mono hst _ _ _ hre)
 · refine⟨fun i j e1 e2 b g1 g2=>h2.inj i j e1 e2 b (hsub i e1 g1).2 (hsub j e2 g2).2,?_,fun i e' b g1=>h2.xdis i e' b (hsub i e' g1).2,h2.xlt,h2.laid.1,fun b hb=>⟨(h2.laid.2 b hb).1,fun ho=>(h2.laid.2 b hb).2 (hO b ho)⟩⟩
   intro i e' he
   rcases h2.ent i e' (hsub i e' he).2 with g|⟨b,c,fr,vs,rest,g1,g2,g3,g4,g5⟩
   · exact .inl g
   · exact .inr ⟨b,c,fr,vs,rest,g1,g2,g3,g4,AI.mono hst _ _ _ g5⟩
 · exact⟨h3.os,h3.tape,h3.output,h3.size,h3.same,fun b hb=>h3.own b (hO b hb),h3.shape⟩
theorem VP(hT:B4 P T){op:Op}{m sz:Nat}{e:Ent}{pre:List (Nat×Option Ent)}{hr:List Nat}{ob ob':Prop}(hmk:MF op=true)
   (h:Bj P T none nb env hp op=some ⟨.osl nb m sz,pre++[(nb,some e)],hr,ob⟩) (hob:ob) (hpre:nb∉pre.map (·.1)) (hm:e.es.length=m) (hsz:e.sz=sz) (hid:AB 0 e.es=true):
   EM P nb env hp op ⟨.sl sz e.es,pre,hr,ob'⟩:=by
 intro env' hp' he hh X w β a o ho hg hfresh henv
 obtain⟨r',h1,h2⟩:=Lz h he hh
 subst ho
 obtain⟨v,w',β',g1,g2⟩:=Zq hT (a:=a) hmk h1 (h2.ob hob) hg hfresh henv
 refine⟨v,w',β',g1,?_⟩
 have g3:Post X w β hp' nb ⟨.osl nb m sz,pre++[(nb,some e)],hr,ob⟩ v w' β':=by
   have hv:=h2.v
   have hw:=h2.hw
   simp only at hv hw
   obtain⟨k1,k2,k3,k4,k5,k6⟩:=g2
   rw[hw]at k1 k2 k3
   rw[hv]at k1
   exact⟨k1,k2,k3,k4,k5,k6⟩
 exact g3.settle hg (hfresh nb (Nat.le_refl _) oM) hpre hm hsz hid
end
section
variable [Yl] {P : Program} {N kk n : Nat} {R : Res → Prop} {rv : List ResultVar} {st : List Fr} {s : AS} {ops : Array Oper} {s0 : AS} {G : Prop} {k : Nat} {ts : List Touch} {rem : List Oper}
theorem Age{o:Oper}{pre:List (Nat×Option Ent)}{m sz:Nat}{e:Ent}{hr:List Nat}{ob:Prop}(hmk:MF o.op=true)(hgd:BM ops (lk s.env) o=some true)
   (hr0:Bj P (Ao P) none (n+8*k) (lk s.env) (lkh s.hp) o.op=some ⟨.osl (n+8*k) m sz,pre++[(n+8*k,some e)],hr,ob⟩) (hob:ob) (hpre:n+8*k∉pre.map (·.1))
   (hm:e.es.length=m) (hsz:e.sz=sz) (hid:AB 0 e.es=true) (h:XO P n ops s0 G (k+1) rem ⟨BV o.dst (.sl sz e.es) s.env,pre.reverse++s.hp⟩ (DG k ⟨.sl sz e.es,pre,hr,True⟩ ts)):XO P n ops s0 G k (o::rem) s ts:=by
 have q:=VP (ob':=True) (BU P) hmk hr0 hob hpre hm hsz hid
 refine C0 (orc:=fun _=>some ⟨[],[],[],.any,[],[],some ⟨.sl sz e.es,pre,hr,True⟩⟩) 1 sP (rem':=rem) rfl (s':=⟨BV o.dst (.sl sz e.es) s.env,pre.reverse++s.hp⟩) (ts':=DG k ⟨.sl sz e.es,pre,hr,True⟩ ts) (p:=True∧True∧EM P (n+8*k) (lk s.env) (lkh s.hp) o.op ⟨.sl sz e.es,pre,hr,True⟩) ?_ ⟨trivial,trivial,q⟩ h
 simp only[List.take_succ_cons,List.take_zero,Bv,hgd,CG,FH]
 rfl
theorem Ag1{o:Oper}{m sz:Nat}{e:Ent}{hr:List Nat}{ob:Prop}(h:XO P n ops s0 G (k+1) rem ⟨BV o.dst (.sl sz e.es) s.env,s.hp⟩ (DG k ⟨.sl sz e.es,[],hr,True⟩ ts))
   (hr0:Bj P (Ao P) none (n+8*k) (lk s.env) (lkh s.hp) o.op=some ⟨.osl (n+8*k) m sz,[(n+8*k,some e)],hr,ob⟩:=by(try simp only[go_sem,seval]);(iterate 3 (first|(simp only[hx];try simp only[go_sem,seval])|skip));rfl)
   (hob:ob:=by(repeat' (with_reducible refine And.intro ?_ ?_))<;>first|with_reducible exact True.intro|omega|exact CE _|with_reducible assumption|decide|(simp;done)|(simp;omega)|(simp[*];done)|(simp[*];omega))
   (hm:e.es.length=m:=by first|rfl|(simp;done)|(simp;omega)) (hsz:e.sz=sz:=by rfl) (hid:AB 0 e.es=true:=by first|rfl|(simp;done)|simp[AB,AF,AN]) (hmk:MF o.op=true:=by rfl) (hgd:BM ops (lk s.env) o=some true:=by rfl):XO P n ops s0 G k (o::rem) s ts:=
 Age (pre:=[]) hmk hgd hr0 hob sP hm hsz hid h
end
def Mu(r:Nat):Nat→Code→List Fr→Option (Code×List Fr)
 |0,_,_=>none
 |f+1,c,st=>match c with
   | .seq a b=>match Mu r f a (.k b::st)with
     |some x=>some x
     |none=>Mu r f b st
   | .block id c=>Mu r f c (.b id::st)
   | .region id ops d=>match Nat.decEq id r with
     | .isTrue _=>some (.region id ops d,st)
     | .isFalse _=>none
   | .cond _ a b=>match Mu r f a st with
     |some x=>some x
     |none=>Mu r f b st
   |_=>none
def VU(r:Nat):List Fr→Option (Code×List Fr)
 | []=>none
 | .k c::st=>match Mu r 60 c st with
   |some x=>some x
   |none=>VU r st
 | .b _::st=>VU r st
 | .l _::_=>none
section
variable [Yl] {P : Program} {N kk : Nat} {R : Res → Prop} {rv : List ResultVar} {st st' : List Fr} {n : Nat} {s : AS}
theorem XW.join(r:Nat){α:Type}(n':Nat)(S:α→AS)(I:α→Prop){h0:Hd}{c':Code}(hK: ∀ a,I a→XH P N kk R rv (.c c') st' n' (S a))(h:(∀ a,I a→XH P N kk R rv (.c c') st' n' (S a))→XH P N kk R rv h0 st n s)(hn:VU r st=some (c',st'):=by rfl):XH P N kk R rv h0 st n s:=h hK
end
section
variable {X : Nat → Prop} {P : Program} {T : Tab} {w : World} {β : Gm} {hp : Hp} {nb : Nat} {env : Env}
theorem Of{O:Nat→Prop}{sz:Nat}: ∀ (k:Nat) (es:List (List AV)) (vs:List Value),AI w β O sz es vs→ ∃ v1 v2,vs=v1++v2∧AI w β O sz (es.take k) v1
 |0,es,vs,h=>⟨[],vs,rfl,by simp[AI]⟩
 |k+1,[],vs,h=>⟨[],vs,rfl,by simp[AI]⟩
 |k+1,c::es,vs,h=>by
   simp only[AI]at h
   obtain⟨u,r,rfl,h1,h2,h3⟩:=h
   obtain⟨v1,v2,rfl,h4⟩:=Of k es r h3
   exact⟨u++v1,v2,sP,by simp only[List.take_succ_cons,AI];exact⟨u,v1,rfl,h1,h2,h4⟩⟩
theorem AdS(hT:B4 P T){t:TypeId}{x:Operand}{lo hi:Option Operand}{i n sz:Nat}{e:Ent}{ob ob':Prop}{hr:List Nat}(he:hp i=some e)
   (h:Bj P T none nb env hp (.slice t x lo hi none)=some ⟨.osv i 0 n sz,[],hr,ob⟩) (hob:ob):
   EM P nb env hp (.slice t x lo hi none) ⟨.osl i n sz,[(i,some {e with es:=e.es.take n})],[i],ob'⟩:=by
 intro env' hp' hev hh X w β a o ho hg hfresh henv
 have he':hp' i=some e:=by rw[← hh i sP];exact he
 rw[Mi hev]at h
 simp only[Bj]at h
 obtain⟨z,h1,h2,_⟩:=M5 hT henv h hob (DB henv x)
 refine⟨z,w,β,by simp only[execOp,ho];exact Dv h1,?_⟩
 have hO:Own X β (BP hp' [(i,some {e with es:=e.es.take n})])=Own X β hp':=by
   funext b
   apply propext
   constructor
   · rintro(hb|⟨j,f,hj,hb⟩)
     · exact .inl hb
     · simp only[BP]at hj
       split at hj
       · rename_i hji;subst hji;exact .inr ⟨j,e,he',hb⟩
       · exact .inr ⟨j,f,hj,hb⟩
   · rintro(hb|⟨j,f,hj,hb⟩)
     · exact .inl hb
     · by_cases hji:j=i
       · subst hji;exact .inr ⟨j,{e with es:=e.es.take n},by simp[BP],hb⟩
       · exact .inr ⟨j,f,by simp only[BP,if_neg hji];exact hj,hb⟩
 have hget: ∀ j f,BP hp' [(i,some {e with es:=e.es.take n})] j=some f→ ∃ f',hp' j=some f':=by
   intro j f hj
   simp only[BP]at hj
   split at hj
   · rename_i hji;subst hji;exact⟨e,he'⟩
   · exact⟨f,hj⟩
 refine⟨?_,?_,?_,CR _,fun _ _=>rfl,fun j hj=> .inl hj⟩
 · simp only[hO]
   simp only[Rep]at h2 ⊢
   rcases h2 with h2|⟨b,off,cap,T',m,g1,g2,g3,g4,g5,g6⟩
   · exact .inl h2
   · have:off=0:=by omega
     subst this
     exact .inr ⟨b,cap,T',m,g1,g2,g3,g5,oM⟩
 · refine⟨fun j k f1 f2 b g1 g2=>?_,?_,fun j f b g1=>?_,hg.xlt,hg.laid.1,fun b hb=>⟨(hg.laid.2 b hb).1,fun h=>(hg.laid.2 b hb).2 (hO ▸ h)⟩⟩
   · obtain⟨f1',q1⟩:=hget j f1 g1
     obtain⟨f2',q2⟩:=hget k f2 g2
     exact hg.inj j k f1' f2' b q1 q2
   · intro j f hj
     show G7 w β (Own X β (BP hp' [(i,some {e with es:=e.es.take n})])) (β j) f
     rw[hO]
     simp only[BP]at hj
     split at hj
     · rename_i hji;subst hji
       simp only[Option.some.injEq]at hj;subst hj
       rcases hg.ent j e he' with ⟨q1,q2⟩|⟨b,c,fr,vs,rest,q1,q2,q3,q4,q5⟩
       · exact .inl ⟨q1,by simp[q2]⟩
       · obtain⟨v1,v2,rfl,q6⟩:=Of n e.es vs q5
         exact .inr ⟨b,c,fr,v1,v2++rest,q1,q2,q3,by rw[q4];simp,q6⟩
     · exact hg.ent j f hj
   · obtain⟨f',q⟩:=hget j f g1
     exact hg.xdis j f' b q
 · show Frm w (Own X β hp') w (Own X β (BP hp' [(i,some {e with es:=e.es.take n})]))
   rw[hO]
   exact Gv _ _
end
section
variable [Yl] {P : Program} {N kk n : Nat} {R : Res → Prop} {rv : List ResultVar} {st : List Fr} {s : AS} {ops : Array Oper} {s0 : AS} {G : Prop} {k : Nat} {ts : List Touch} {rem : List Oper}
theorem Abq(es':List (List AV)){o:Oper}{i m sz:Nat}{e:Ent}{hr:List Nat}{ob:Prop}{t:TypeId}{x:Operand}{lo hi:Option Operand}(h:XO P n ops s0 G (k+1) rem ⟨BV o.dst (.osl i m sz) s.env,(i,some ⟨e.ty,e.sz,es'⟩)::s.hp⟩ (DG k ⟨.osl i m sz,[(i,some ⟨e.ty,e.sz,es'⟩)],[i],True⟩ ts))
   (hop:o.op= .slice t x lo hi none:=by rfl) (hr0:Bj P (Ao P) none (n+8*k) (lk s.env) (lkh s.hp) (.slice t x lo hi none)=some ⟨.osv i 0 m sz,[],hr,ob⟩:=by(try simp only[go_sem,seval]);(iterate 3 (first|(simp only[hx];try simp only[go_sem,seval])|skip));rfl) (he:lkh s.hp i=some e:=by rfl)
   (hob:ob:=by(repeat' (with_reducible refine And.intro ?_ ?_))<;>first|with_reducible exact True.intro|omega|with_reducible assumption|decide|(simp;done)|(simp;omega)|(simp[*];done)|(simp[*];omega))
   (hes:e.es.take m=es':=by(try simp only[go_sem]);simp[*]) (hgd:BM ops (lk s.env) o=some true:=by rfl):XO P n ops s0 G k (o::rem) s ts:=by
 subst hes
 have q:=AdS (ob':=True) (BU P) he hr0 hob
 rw[← hop]at q
 refine C0 (orc:=fun _=>some ⟨[],[],[],.any,[],[],some ⟨.osl i m sz,[(i,some ⟨e.ty,e.sz,e.es.take m⟩)],[i],True⟩⟩) 1 sP (rem':=rem) rfl (s':=⟨BV o.dst (.osl i m sz) s.env,(i,some ⟨e.ty,e.sz,e.es.take m⟩)::s.hp⟩) (ts':=DG k ⟨.osl i m sz,[(i,some ⟨e.ty,e.sz,e.es.take m⟩)],[i],True⟩ ts) (p:=True∧True∧EM P (n+8*k) (lk s.env) (lkh s.hp) o.op ⟨.osl i m sz,[(i,some ⟨e.ty,e.sz,e.es.take m⟩)],[i],True⟩) ?_ ⟨trivial,trivial,q⟩ h
 simp only[List.take_succ_cons,List.take_zero,Bv,hgd,CG,FH]
 rfl
end
def HI:List (List AV)→List Nat
 | []=>[]
 |c::cs=>IC c++HI cs
def Y7(hp:List (Nat×Option Ent))(a:AV):List Nat:=match a with
 | .osl i _ _=>i::(match lkh hp i with
   |some e=>HI e.es
   |none=>[])
 | .ptr i _ _ _=>i::(match lkh hp i with
   |some e=>HI e.es
   |none=>[])
 |a=>LI hp a
def Ir(hp:List (Nat×Option Ent)):List (Nat×AV)→List Nat→List Nat
 | [],acc=>acc
 |(_,a)::r,acc=>Ir hp r (GY acc (Y7 hp a))
def JY(ks keep:List Nat)(s:AS):List Nat:=Ir s.hp (EB s.env keep) ks
def V9(ks keep:List Nat)(s:AS):AS:=⟨PM (JY ks keep s) (EB s.env keep),hpC s.hp (JY ks keep s) 0 (JY ks keep s)⟩
theorem L1{hp:List (Nat×Option Ent)}: ∀ (env:List (Nat×AV)) (l:List Nat),l.Nodup→(Ir hp env l).Nodup∧ ∃ r,Ir hp env l=l++r
 | [],l,h=>⟨h,[],by simp[Ir]⟩
 |(t,a)::env,l,h=>by
   simp only[Ir]
   obtain⟨h1,r,h2⟩:=Iw (Y7 hp a) l h
   obtain⟨h3,r',h4⟩:=L1 env _ h1
   exact⟨h3,r++r',by rw[h4,h2];simp⟩
theorem Zb{s:AS}{k:Nat}{ks keep:List Nat}(hks:ks=List.range k):Wk k s (JY ks keep s).length (V9 ks keep s):=by
 obtain⟨hnd,r,hr⟩:=L1 (hp:=s.hp) (EB s.env keep) ks (by rw[hks];exact List.nodup_range)
 refine⟨(JY ks keep s).map some,[],⟨N7 _ 0 sP hnd,sP,?_⟩,sP,I0 _ (fun t a h=>JZ h),OF _ 0 sP⟩
 have:JY ks keep s=List.range k++r:=by rw[← hks];exact hr
 rw[this,List.map_append,List.take_left' sP]
attribute [go_sem] HI Y7 Ir JY V9
section
variable [Yl] {P : Program} {N kk n : Nat} {R : Res → Prop} {rv : List ResultVar} {st : List Fr} {s : AS} {s0 : AS} {k : Nat} {ts : List Touch}
theorem CS(keep:List Nat){l:List Oper}{id:Nat}{draw:Bool}{n':Nat}{s':AS}{c':Hd}{st':List Fr}(h:XH P N kk R rv c' st' n' s')
   (hs:((JY (List.range kk) keep s).length,V9 (List.range kk) keep s)=(n',s'):=by(try simp only[go_sem,seval]);rfl) (hn:CU 60 .n st=(c',st'):=by rfl) (ht:(!draw||BS (CA l []) ts)=true:=by first|rfl|decide+kernel) (hok:Ct N l.toArray draw=true:=by decide+kernel) (hk:l.length=k:=by rfl) (hm:P.follows .mixedOrders=true:=by exact Bh):
   XO P n l.toArray s0 (XH P N kk R rv (.c (.region id l.toArray draw)) st n s0) k [] s ts:=by
 rintro _ ⟨orc,p,s1,hr,hp,hse,hsh⟩
 have hst:s1.st=s.st:=by simp only[AS.st,hse,hsh]
 have hall:l.toArray.toList.take k=l.toArray.toList:=List.take_of_length_le sO
 rw[hall]at hr
 have hq:XH P N kk R rv .n st n' s':=DQ (by rw[hn];exact h)
 simp only[Prod.mk.injEq]at hs
 obtain⟨rfl,rfl⟩:=hs
 refine EX.step (fun x C hN hkk hq=>?_) (show XQ P N kk R rv .normal st _ _ from hq)
 intro a w hI
 refine E3 (BU P) hm hr hp (hN ▸ hok) (fun hd=>by subst hd;simpa using ht) hI ?_
 intro a' w' hI'
 rw[hst]at hI'
 exact⟨_,_,hq,hI'.weak (hkk ▸ Zb rfl)⟩
end
section
variable [Yl] {P : Program} {N kk : Nat} {R : Res → Prop} {rv : List ResultVar} {st : List Fr} {n : Nat} {s : AS} {ops : Array Oper} {s0 : AS} {G : Prop} {k : Nat} {ts : List Touch} {rem : List Oper}
def Bu(ids:List Nat)(nb:Nat)(i:Nat):Nat:=if i<ids.length then ids.getD i 0 else nb+(i-ids.length)
theorem VL(ids:List Nat){o:Oper}{g:FuncId}{xa:List AV}{hs:List Ent}{r:AV}{hs':List (Option Ent)}(q:Ad P g xa (hs.map some) r hs')(hcal:FB o=some g)(hgd:BM ops (lk s.env) o=some true)
   (hv:Fo (lkh s.hp) [] (BX o (lk s.env)) (BK (Bu ids (n+8*k)) xa)) (hnd:ids.Nodup) (hent:Md (lkh s.hp) (Bu ids (n+8*k)) ids.length ids hs) (hl:hs.length≤hs'.length) (hl8:hs'.length≤hs.length+8) (hid:AF ids.length xa=true) (hne:ids≠[])
   (h:XO P n ops s0 G (k+1) rem ⟨BV o.dst (ren (Bu ids (n+8*k)) r) s.env,(DK (Bu ids (n+8*k)) 0 hs').reverse++s.hp⟩ ((k,ids,(DK (Bu ids (n+8*k)) 0 hs').map (·.1))::ts)):XO P n ops s0 G k (o::rem) s ts:=by
 have hρ:(⟨ids,hs,xa,r,hs',[],none⟩:Orc).ρ (n+8*k)=Bu ids (n+8*k):=rfl
 have hx:CG P (Ao P) (some ⟨ids,hs,xa,r,hs',[],none⟩) (n+8*k) (lk s.env) (lkh s.hp) o.op=some (Bd P g (BX o (lk s.env)) (lkh s.hp) (n+8*k) ⟨ids,hs,xa,r,hs',[],none⟩):=by
   unfold FB at hcal
   split at hcal
   · rename_i c hop
     split at hcal
     · rename_i g' hcl
       simp only[Option.some.injEq]at hcal
       subst hcal
       simp only[CG,FH,Bj,hop,hcl,evA,BX]
     · simp at hcal
   · simp at hcal
 have hob:(Bd P g (BX o (lk s.env)) (lkh s.hp) (n+8*k) ⟨ids,hs,xa,r,hs',[],none⟩).ob:=
   DS ⟨q,by rw[hρ];exact hv,hnd,by rw[hρ];exact hent,hl,hl8,trivial,trivial,hid⟩
 refine C0 (orc:=fun _=>some ⟨ids,hs,xa,r,hs',[],none⟩) 1 sP (rem':=rem) rfl (p:=True∧_) ?_ ⟨trivial,hob⟩ h
 simp only[List.take_succ_cons,List.take_zero,Bv,hgd,hx]
 have e1:(Bd P g (BX o (lk s.env)) (lkh s.hp) (n+8*k) ⟨ids,hs,xa,r,hs',[],none⟩).v=ren (Bu ids (n+8*k)) r:=by rw[Ho,hρ]
 have e2:(Bd P g (BX o (lk s.env)) (lkh s.hp) (n+8*k) ⟨ids,hs,xa,r,hs',[],none⟩).hw=DK (Bu ids (n+8*k)) 0 hs':=by rw[HW,hρ]
 have e3:(Bd P g (BX o (lk s.env)) (lkh s.hp) (n+8*k) ⟨ids,hs,xa,r,hs',[],none⟩).hr=ids:=by rw[Jl];simp
 rw[e1,e2]
 simp only[DG,e2,e3]
 cases ids with
 |nil=>exact absurd rfl hne
 |cons a l=>rfl
omit [Yl] in
theorem Zv{g:FuncId}{as:List AV}{hs:List (Option Ent)}{r:AV}{hs':List (Option Ent)}(N k:Nat){fn:Func}{c:Code}(hf:P.funcs[g]? =some fn)(hb:fn.body=some c)(hname:(fn.name== "runtime.NumGoroutine")=false)(hN:fn.ntmps=N)(has:as.length≤N)(hk:hs.length=k)
   {rv:List ResultVar} (hrv:fn.results=rv.toArray) {h':Hd} {st':List Fr} (h: @XH ylNone P N k (fun x=>x=(r,hs')) rv h' st' k ⟨Ei 0 as,FN 0 hs⟩) (hn:CU 60 (.c c) []=(h',st'):=by rfl):Ad P g as hs r hs':=by
 obtain⟨x,h1,h4⟩:=Sd (R:=fun x=>x=(r,hs')) N k hf hb hname hN has hk hrv (DQ (h:= .c c) (by rw[hn];exact h))
 subst h1
 exact h4
theorem XB.ret(ids:List (Option Nat))(D:List Nat){r:AV}{hs':List (Option Ent)}{l:List AV}{p:Prop}(hres:AY (Ao P) s rv=some (l,p):=by(try simp only[AY,go_sem,seval]);rfl)(hids:IdsOk ids D kk (hs'.zipIdx.map fun x=>(x.2,x.1)))
   (hl:ids.length=hs'.length:=by rfl) (hwk:wk (lkh s.hp) ids D (Az l) r) (hwh:Am (lkh s.hp) ids D (hs'.zipIdx.map fun x=>(x.2,x.1))) (hp:p:=by(repeat' (with_reducible refine And.intro ?_ ?_))<;>first|with_reducible exact True.intro|omega|exact CE _|with_reducible assumption|decide|(simp;done)|(simp;omega)|(simp[*];done)|(simp[*];omega)):
   XH P N kk (fun x=>x=(r,hs')) rv (.c .ret) st n s:=
 XW.ret r hs' rfl ⟨.inl rfl,l,p,ids,D,hres,hp,hids,hl,hwk,hwh⟩
theorem Kx(ids:List (Option Nat))(D:List Nat){r:AV}{hs':List (Option Ent)}{l:List AV}{p:Prop}(hres:AY (Ao P) s rv=some (l,p):=by(try simp only[AY,go_sem,seval]);rfl)(hids:IdsOk ids D kk (hs'.zipIdx.map fun x=>(x.2,x.1)))
   (hl:ids.length=hs'.length:=by rfl) (hwk:wk (lkh s.hp) ids D (Az l) r) (hwh:Am (lkh s.hp) ids D (hs'.zipIdx.map fun x=>(x.2,x.1))) (hp:p:=by(repeat' (with_reducible refine And.intro ?_ ?_))<;>first|with_reducible exact True.intro|omega|exact CE _|with_reducible assumption|decide|(simp;done)|(simp;omega)|(simp[*];done)|(simp[*];omega)):
   XH P N kk (fun x=>x=(r,hs')) rv .n [] n s:=
 XQ.ret r hs' rfl ⟨.inr rfl,l,p,ids,D,hres,hp,hids,hl,hwk,hwh⟩
end
theorem BD{P:Program}{g:FuncId}{as:List AV}{hs:List (Option Ent)}{r:AV}{hs':List (Option Ent)}(N k:Nat){fn:Func}{c:Code}(hf:P.funcs[g]? =some fn){rv:List ResultVar}{h':Hd}{st':List Fr}(h: @XH ylNone P N k (fun x=>x=(r,hs')) rv h' st' k ⟨Ei 0 as,FN 0 hs⟩)(hb:fn.body=some c:=by rfl)(hname:(fn.name== "runtime.NumGoroutine")=false:=by rfl)(hN:fn.ntmps=N:=by rfl)(has:as.length≤N:=by simp)(hk:hs.length=k:=by rfl)(hrv:fn.results=rv.toArray:=by rfl)(hn:CU 60 (.c c) []=(h',st'):=by rfl):Ad P g as hs r hs':=Zv N k hf hb hname hN has hk hrv h hn
def oCl(o:Oper)(env:Env):Option (FuncId×List AV):=match o.op with
 | .call c=>match c.callee with
   | .value f=>match evA env f with
     | .val (.func (.func g) fr bd)=>match fr.toList,bd.toList with
       | [],[]=>some (g,c.args.toList.map (evA env))
       |_,_=>none
     | .fn g k cs=>some (g,cs.take k++(c.args.toList.map (evA env)++cs.drop k))
     |_=>none
   |_=>none
 |_=>none
section
variable {P : Program} {n k : Nat} {ops : Array Oper} {s0 s : AS} {G : Prop} {rem : List Oper} {ts : List Touch}
theorem X3{T:Tab}{o:Oper}{env:Env}{hp:Hp}{nb:Nat}{orc:Orc}{g:FuncId}{az:List AV}(hraw:orc.raw=none)(h:oCl o env=some (g,az)):CG P T (some orc) nb env hp o.op=some (Bd P g az hp nb orc):=by
 unfold oCl at h
 split at h
 · rename_i c hop
   split at h
   · rename_i f hcl
     split at h
     · rename_i g' fr bd hev
       split at h
       · rename_i h1 h2
         simp only[Option.some.injEq,Prod.mk.injEq]at h
         obtain⟨rfl,rfl⟩:=h
         simp only[CG,FH,hraw,Bj,hop,hcl,hev,h1,h2]
       · simp at h
     · rename_i g' k' cs hev
       simp only[Option.some.injEq,Prod.mk.injEq]at h
       obtain⟨rfl,rfl⟩:=h
       simp only[CG,FH,hraw,Bj,hop,hcl,hev]
     · simp at h
   · simp at h
 · simp at h
theorem AfB(bor:List Nat){o:Oper}{g:FuncId}{az xa:List AV}{Rg:AV→Prop}(hcl:oCl o (lk s.env)=some (g,az))(hgd:BM ops (lk s.env) o=some true)(q:Ae P g xa Rg)(hv:Fo (lkh s.hp) bor az xa)(hid:AF 0 xa=true)(hb:DY (lkh s.hp) [] bor)
   (hbr:bor=[]∨ ∀ r,Rg r→ER r=true) (h: ∀ r,Rg r→XO P n ops s0 G (k+1) rem ⟨BV o.dst r s.env,s.hp⟩ (Wa k bor ts)):XO P n ops s0 G k (o::rem) s ts:=by
 obtain⟨r,h1,h2,h3⟩:=q
 have hx:CG P (Ao P) (some ⟨[],[],xa,r,[],bor,none⟩) (n+8*k) (lk s.env) (lkh s.hp) o.op=some (Bd P g az (lkh s.hp) (n+8*k) ⟨[],[],xa,r,[],bor,none⟩):=X3 rfl hcl
 have hob:(Bd P g az (lkh s.hp) (n+8*k) ⟨[],[],xa,r,[],bor,none⟩).ob:=by
   refine DS ⟨h3,?_,sP,trivial,sP,sP,?_,hb,by simpa using hid⟩
   · rw[CJ _ _ hid];exact hv
   · unfold N0
     split
     · trivial
     · rename_i hne
       rcases hbr with hb1|hb1
       · exact absurd hb1 hne
       · exact⟨hb1 r h1,fun e he=>by simp at he⟩
 refine C0 (orc:=fun _=>some ⟨[],[],xa,r,[],bor,none⟩) 1 sP (rem':=rem) rfl (s':=⟨BV o.dst r s.env,s.hp⟩) (ts':=Wa k bor ts) (p:=True∧_) ?_ ⟨trivial,hob⟩ (h r h1)
 simp only[List.take_succ_cons,List.take_zero,Bv,hgd,hx]
 have e1:(Bd P g az (lkh s.hp) (n+8*k) ⟨[],[],xa,r,[],bor,none⟩).v=r:=by rw[Ho];exact KS _ _ h2
 have e2:(Bd P g az (lkh s.hp) (n+8*k) ⟨[],[],xa,r,[],bor,none⟩).hw=[]:=rfl
 have e3:(Bd P g az (lkh s.hp) (n+8*k) ⟨[],[],xa,r,[],bor,none⟩).hr=bor:=by simp[Bd]
 rw[e1,e2]
 simp only[DG,e2,e3]
 cases bor<;>rfl
theorem Le{o:Oper}{g:FuncId}{az:List AV}{Rg:AV→Prop}(q:Ae P g az Rg)(h: ∀ r,Rg r→XO P n ops s0 G (k+1) rem ⟨BV o.dst r s.env,s.hp⟩ ts)(hcl:oCl o (lk s.env)=some (g,az):=by rfl)(hgd:BM ops (lk s.env) o=some true:=by rfl)(hid:AF 0 az=true:=by rfl):XO P n ops s0 G k (o::rem) s ts:=
 AfB [] hcl hgd q (Cq _ _) hid trivial (.inl rfl) h
end
end Go.Av
