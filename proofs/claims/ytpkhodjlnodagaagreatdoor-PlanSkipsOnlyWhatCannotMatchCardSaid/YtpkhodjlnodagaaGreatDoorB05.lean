/- Part 5 of the proof of PlanSkipsOnlyWhatCannotMatch. -/
import Derived.Test.YtpkhodjlnodagaaGreatDoorB04
set_option linter.unusedSimpArgs false
set_option linter.unusedVariables false
set_option linter.unusedSectionVars false
namespace Go.Av
section
variable {hp : Hp} {ids : List (Option Nat)} {D : List Nat}
@[simp] theorem wk_any(c:AV):wk hp ids D c .any↔True:=by simp[wk]
@[simp] theorem wk_val(c:AV)(v:Value):wk hp ids D c (.val v)↔c= .val v:=by simp[wk]
@[simp] theorem AfE(cs az:List AV):wk hp ids D (.agg cs) (.agg az)↔wkL hp ids D cs az:=by simp[wk]
@[simp] theorem XU(cs az:List AV):wk hp ids D (.tup cs) (.tup az)↔wkL hp ids D cs az:=by simp[wk]
@[simp] theorem Pe(f f' k k':Nat)(cs az:List AV):wk hp ids D (.fn f k cs) (.fn f' k' az)↔f=f'∧k=k'∧wkL hp ids D cs az:=by
 simp only[wk]
 constructor
 · rintro⟨cs',h,h2⟩;cases h;exact⟨rfl,rfl,h2⟩
 · rintro⟨rfl,rfl,h⟩;exact⟨cs,rfl,h⟩
@[simp] theorem X7(i n sz sz':Nat)(es:List (List AV)):wk hp ids D (.osl i n sz) (.sl sz' es)↔sz=sz'∧i∈D∧ ∃ e,hp i=some e∧e.es.length=n∧e.sz=sz∧es=e.es∧AB 0 e.es=true:=by
 simp only[wk,reduceCtorEq,false_and,or_false,false_or]
 constructor
 · rintro⟨i',n',e,h,h1,h2,h3,h4,h5,h6⟩
   cases h
   exact⟨rfl,h1,e,h2,h3,h4,h5,h6⟩
 · rintro⟨rfl,h1,e,h2,h3,h4,h5,h6⟩
   exact⟨i,n,e,rfl,h1,h2,h3,h4,h5,h6⟩
@[simp] theorem wk_sls(sz sz':Nat)(es es':List (List AV)):wk hp ids D (.sl sz es) (.sl sz' es')↔sz=sz'∧es=es':=by simp[wk]
@[simp] theorem wk_sln(sz:Nat)(es:List (List AV)):wk hp ids D (.val (.slice none 0 0)) (.sl sz es)↔es=[]:=by simp[wk]
@[simp] theorem wk_rp(cs cs':List AV):wk hp ids D (.rp cs) (.rp cs')↔cs=cs':=by simp[wk]
@[simp] theorem wk_prp(i sz k off:Nat)(cs:List AV):wk hp ids D (.ptr i sz k off) (.rp cs)↔i∈D∧ ∃ e,hp i=some e∧e.sz=sz∧AB 0 e.es=true∧ ∃ c',e.es[k]? =some c'∧cs=c'.drop off:=by
 simp only[wk]
 constructor
 · rintro(h|⟨i',sz',k',off',e,c',h,h1,h2,h3,h4,h5,h6⟩)
   · cases h
   · cases h;exact⟨h1,e,h2,h4,h6,c',h3,h5⟩
 · rintro⟨h1,e,h2,h4,h6,c',h3,h5⟩
   exact .inr ⟨_,_,_,_,e,c',rfl,h1,h2,h3,h4,h5,h6⟩
@[simp] theorem Ai6(i j n n' sz sz':Nat):wk hp ids D (.osl j n sz) (.osl i n' sz')↔ids[i]? =some (some j)∧n=n'∧sz=sz':=by
 simp only[wk,reduceCtorEq,false_and,and_false,or_false]
 constructor
 · rintro⟨k,h,h2⟩;cases h2;exact⟨h,rfl,rfl⟩
 · rintro⟨h,rfl,rfl⟩;exact⟨j,h,rfl⟩
@[simp] theorem AiR(i n sz:Nat):wk hp ids D (.val (.slice none 0 0)) (.osl i n sz)↔ids[i]? =some none∧n=0:=by simp[wk]
@[simp] theorem wk_ptr(i j sz sz' k k' o o':Nat):wk hp ids D (.ptr j sz k o) (.ptr i sz' k' o')↔ids[i]? =some (some j)∧sz=sz'∧k=k'∧o=o':=by
 simp only[wk]
 constructor
 · rintro⟨k,h,h2⟩;cases h2;exact⟨h,rfl,rfl,rfl⟩
 · rintro⟨h,rfl,rfl,rfl⟩;exact⟨j,h,rfl⟩
@[simp] theorem wk_osv(i j l l' n n' sz sz':Nat):wk hp ids D (.osv j l n sz) (.osv i l' n' sz')↔ids[i]? =some (some j)∧l=l'∧n=n'∧sz=sz':=by
 simp only[wk]
 constructor
 · rintro⟨k,h,h2⟩;cases h2;exact⟨h,rfl,rfl,rfl⟩
 · rintro⟨h,rfl,rfl,rfl⟩;exact⟨j,h,rfl⟩
@[simp] theorem Ac6:wkL hp ids D [] []↔True:=by simp[wkL]
@[simp] theorem KX(c a:AV)(cs az:List AV):wkL hp ids D (c::cs) (a::az)↔wk hp ids D c a∧wkL hp ids D cs az:=by
 simp only[wkL,List.cons.injEq]
 constructor
 · rintro⟨_,_,⟨rfl,rfl⟩,h⟩;exact h
 · intro h;exact⟨c,cs,⟨rfl,rfl⟩,h⟩
@[simp] theorem Ai0:wkE hp ids D [] []↔True:=by simp[wkE]
@[simp] theorem Jk(c a:List AV)(cs az:List (List AV)):wkE hp ids D (c::cs) (a::az)↔wkL hp ids D c a∧wkE hp ids D cs az:=by
 simp only[wkE,List.cons.injEq]
 constructor
 · rintro⟨_,_,⟨rfl,rfl⟩,h⟩;exact h
 · intro h;exact⟨c,cs,⟨rfl,rfl⟩,h⟩
theorem Fg: ∀ az:List AV,AF 0 az=true→wkL hp ids D az az
 | [],_=>by simp
 |a::az,h=>by
   simp only[AF,Bool.and_eq_true]at h
   rw[KX]
   refine⟨?_,Fg az h.2⟩
   cases a with
   |agg cs=>rw[AfE];exact Fg cs (by simpa [AN] using h.1)
   |tup cs=>rw[XU];exact Fg cs (by simpa [AN] using h.1)
   |fn f k cs=>rw[Pe];exact⟨rfl,rfl,Fg cs (by simpa [AN] using h.1)⟩
   |osl i n sz=>simp[AN]at h
   |ptr i sz k o=>simp[AN]at h
   |osv i lo n sz=>simp[AN]at h
   |_=>simp
theorem R3: ∀ es:List (List AV),AB 0 es=true→wkE hp ids D es es
 | [],_=>by simp
 |a::az,h=>by
   simp only[AB,List.all_cons,Bool.and_eq_true]at h
   rw[Jk]
   exact⟨Fg a h.1,R3 az h.2⟩
end
theorem Gr{hp:Hp}{ids:List (Option Nat)}{D:List Nat}{c a:List AV}: ∀ {es:List (List AV)},AB 0 es=true→(wkE hp ids D (es++[c]) (es++[a])↔wkL hp ids D c a)
 | [],_=>by simp
 |e::es,h=>by
   have h':AF 0 e=true∧AB 0 es=true:=by simpa [AB,Bool.and_eq_true] using h
   simp only[List.cons_append,Jk,Gr h'.2]
   exact⟨fun h=>h.2,fun h=>⟨Fg e h'.1,h⟩⟩
end Go.Av
