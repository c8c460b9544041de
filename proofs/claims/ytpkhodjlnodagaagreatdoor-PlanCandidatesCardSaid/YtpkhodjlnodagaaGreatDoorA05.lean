/- Part 5 of the proof of PlanCandidates. -/
import Derived.Test.YtpkhodjlnodagaaGreatDoorA04
set_option linter.unusedSimpArgs false
set_option linter.unusedVariables false
set_option linter.unusedSectionVars false
namespace Go.Av
section
variable {hp : Hp} {ids : List (Option Nat)} {D : List Nat}
@[simp] theorem wk_any(c:AV):wk hp ids D c .any↔True:=by simp[wk]
@[simp] theorem wk_val(c:AV)(v:Value):wk hp ids D c (.val v)↔c= .val v:=by simp[wk]
@[simp] theorem Aey(cs az:List AV):wk hp ids D (.agg cs) (.agg az)↔wkL hp ids D cs az:=by simp[wk]
@[simp] theorem WD(cs az:List AV):wk hp ids D (.tup cs) (.tup az)↔wkL hp ids D cs az:=by simp[wk]
@[simp] theorem Of(f f' k k':Nat)(cs az:List AV):wk hp ids D (.fn f k cs) (.fn f' k' az)↔f=f'∧k=k'∧wkL hp ids D cs az:=by
 simp only[wk]
 constructor
 · rintro⟨cs',h,h2⟩;cases h;exact⟨rfl,rfl,h2⟩
 · rintro⟨rfl,rfl,h⟩;exact⟨cs,rfl,h⟩
@[simp] theorem WT(i n sz sz':Nat)(es:List (List AV)):wk hp ids D (.osl i n sz) (.sl sz' es)↔sz=sz'∧i∈D∧ ∃ e,hp i=some e∧e.es.length=n∧e.sz=sz∧es=e.es∧AA 0 e.es=true:=by
 simp only[wk,reduceCtorEq,false_and,or_false,false_or]
 constructor
 · rintro⟨i',n',e,h,h1,h2,h3,h4,h5,h6⟩
   cases h
   exact⟨rfl,h1,e,h2,h3,h4,h5,h6⟩
 · rintro⟨rfl,h1,e,h2,h3,h4,h5,h6⟩
   exact⟨i,n,e,rfl,h1,h2,h3,h4,h5,h6⟩
@[simp] theorem wk_sls(sz sz':Nat)(es es':List (List AV)):wk hp ids D (.sl sz es) (.sl sz' es')↔sz=sz'∧es=es':=by simp[wk]
@[simp] theorem wk_sln(sz:Nat)(es:List (List AV)):wk hp ids D (.val (.slice none 0 0)) (.sl sz es)↔es=[]:=by simp[wk]
@[simp] theorem wk_rp(cs cs':List AV):wk hp ids D (.rp cs) (.rp cs')↔cs=cs':=by simp[wk]
@[simp] theorem wk_prp(i sz k off:Nat)(cs:List AV):wk hp ids D (.ptr i sz k off) (.rp cs)↔i∈D∧ ∃ e,hp i=some e∧e.sz=sz∧AA 0 e.es=true∧ ∃ c',e.es[k]? =some c'∧cs=c'.drop off:=by
 simp only[wk]
 constructor
 · rintro(h|⟨i',sz',k',off',e,c',h,h1,h2,h3,h4,h5,h6⟩)
   · cases h
   · cases h;exact⟨h1,e,h2,h4,h6,c',h3,h5⟩
 · rintro⟨h1,e,h2,h4,h6,c',h3,h5⟩
   exact .inr ⟨_,_,_,_,e,c',rfl,h1,h2,h3,h4,h5,h6⟩
@[simp] theorem Ah1(i j n n' sz sz':Nat):wk hp ids D (.osl j n sz) (.osl i n' sz')↔ids[i]? =some (some j)∧n=n'∧sz=sz':=by
 simp only[wk,reduceCtorEq,false_and,and_false,or_false]
 constructor
 · rintro⟨k,h,h2⟩;cases h2;exact⟨h,rfl,rfl⟩
 · rintro⟨h,rfl,rfl⟩;exact⟨j,h,rfl⟩
@[simp] theorem AhD(i n sz:Nat):wk hp ids D (.val (.slice none 0 0)) (.osl i n sz)↔ids[i]? =some none∧n=0:=by simp[wk]
@[simp] theorem wk_ptr(i j sz sz' k k' o o':Nat):wk hp ids D (.ptr j sz k o) (.ptr i sz' k' o')↔ids[i]? =some (some j)∧sz=sz'∧k=k'∧o=o':=by
 simp only[wk]
 constructor
 · rintro⟨k,h,h2⟩;cases h2;exact⟨h,rfl,rfl,rfl⟩
 · rintro⟨h,rfl,rfl,rfl⟩;exact⟨j,h,rfl⟩
@[simp] theorem wk_osv(i j l l' n n' sz sz':Nat):wk hp ids D (.osv j l n sz) (.osv i l' n' sz')↔ids[i]? =some (some j)∧l=l'∧n=n'∧sz=sz':=by
 simp only[wk]
 constructor
 · rintro⟨k,h,h2⟩;cases h2;exact⟨h,rfl,rfl,rfl⟩
 · rintro⟨h,rfl,rfl,rfl⟩;exact⟨j,h,rfl⟩
@[simp] theorem AcZ:wkL hp ids D [] []↔True:=by simp[wkL]
@[simp] theorem KG(c a:AV)(cs az:List AV):wkL hp ids D (c::cs) (a::az)↔wk hp ids D c a∧wkL hp ids D cs az:=by
 simp only[wkL,List.cons.injEq]
 constructor
 · rintro⟨_,_,⟨rfl,rfl⟩,h⟩;exact h
 · intro h;exact⟨c,cs,⟨rfl,rfl⟩,h⟩
@[simp] theorem AhB:wkE hp ids D [] []↔True:=by simp[wkE]
@[simp] theorem I5(c a:List AV)(cs az:List (List AV)):wkE hp ids D (c::cs) (a::az)↔wkL hp ids D c a∧wkE hp ids D cs az:=by
 simp only[wkE,List.cons.injEq]
 constructor
 · rintro⟨_,_,⟨rfl,rfl⟩,h⟩;exact h
 · intro h;exact⟨c,cs,⟨rfl,rfl⟩,h⟩
theorem E1: ∀ az:List AV,AE 0 az=true→wkL hp ids D az az
 | [],_=>by simp
 |a::az,h=>by
   simp only[AE,Bool.and_eq_true]at h
   rw[KG]
   refine⟨?_,E1 az h.2⟩
   cases a with
   |agg cs=>rw[Aey];exact E1 cs (by simpa [AO] using h.1)
   |tup cs=>rw[WD];exact E1 cs (by simpa [AO] using h.1)
   |fn f k cs=>rw[Of];exact⟨rfl,rfl,E1 cs (by simpa [AO] using h.1)⟩
   |osl i n sz=>simp[AO]at h
   |ptr i sz k o=>simp[AO]at h
   |osv i lo n sz=>simp[AO]at h
   |_=>simp
theorem QR: ∀ es:List (List AV),AA 0 es=true→wkE hp ids D es es
 | [],_=>by simp
 |a::az,h=>by
   simp only[AA,List.all_cons,Bool.and_eq_true]at h
   rw[I5]
   exact⟨E1 a h.1,QR az h.2⟩
end
theorem Hi{hp:Hp}{ids:List (Option Nat)}{D:List Nat}{c a:List AV}: ∀ {es:List (List AV)},AA 0 es=true→(wkE hp ids D (es++[c]) (es++[a])↔wkL hp ids D c a)
 | [],_=>by simp
 |e::es,h=>by
   have h':AE 0 e=true∧AA 0 es=true:=by simpa [AA,Bool.and_eq_true] using h
   simp only[List.cons_append,I5,Hi h'.2]
   exact⟨fun h=>h.2,fun h=>⟨E1 e h'.1,h⟩⟩
end Go.Av
