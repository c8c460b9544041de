/-
  Part 48 of the proof that logtidelaw45.ConsoleAnswer returns true for every list of bytes and every text, and leaves both as they were.
-/
import Derived.Test.YtffchapiaampmaaGreatDoorA21
import Derived.Test.YtffchapiaampmaaGreatDoorA47
set_option linter.unusedSimpArgs false
set_option linter.unusedVariables false
namespace Go.Proofs.YtffchapiaampmaaGreatDoor
open Go.Av Go.RowKit Go.Shelf
theorem row_up (p : Program) (fits : TypeId → Bool) (d : Nat) (e : TypeId) (c : Nat) : rowAt p fits (d + 1) e (c + 1) 0 1 = rowAt p fits (d + 1) e 1 0 1 := by
 simp only [rowAt, Nat.zero_div, Nat.zero_mod]
 have h1 : decide (0 + 1 ≤ c + 1) = decide (0 + 1 ≤ 1) := by simp
 have h2 : decide (0 < c + 1) = decide (0 < 1) := by simp
 rw [h1, h2]
theorem lies75 (c : Nat) (hc : 0 < c) : liesAt Tryz.prog Tryz.prog.depth 75 c 0 73 1 = true := by
 obtain ⟨c, rfl⟩ : ∃ k, c = k + 1 := ⟨c - 1, by omega⟩
 have hd : Tryz.prog.depth = (2 * (Tryz.prog.types.size + Made.depth) + 1) + 1 := rfl
 have hr : rowAt Tryz.prog (sameLayout Tryz.prog Tryz.prog.depth · 73) Tryz.prog.depth 75 1 0 1 = true := by kernel_rfl
 rw [hd, liesAt]
 rw [Bool.or_eq_true]
 left
 rw [hd] at hr ⊢
 rw [row_up]
 exact hr
set_option maxHeartbeats 2000000 in
set_option maxRecDepth 100000 in
theorem cc_fresh (L : Go.Proofs.Lays.n240 Tryz.prog Tryz.lays156_ren) (X : Builder.X72 Tryz.prog Tryz.lays156_ren) (b : Nat) (w : World) (h0 : w.cell? ⟨b, 0, none⟩ = some (.pointer none)) (m : Nat) (hm : 2 ≤ m) (hsh : w.shape? b = some (75, m)) (hfz : w.frozen? ⟨b, 0, none⟩ = false) :
   Calls Tryz.prog 71 #[.pointer (some ⟨b, 0, none⟩)] w fun e w' => e = .returned (.tuple #[]) ∧ w' = w.setCell ⟨b, 0, none⟩ (.pointer (some ⟨b, 0, none⟩)) := by
 obtain ⟨j, hj, hjs⟩ := Option.map_eq_some_iff.1 X.sizeBuilder
 have mixed := L.mixed
 have t72 := L.t72; have a72 := L.a72; have z72 := L.z72; have v72 := L.v72; have u72 := run_underlying L.t72
 have t70 := L.t70; have a70 := L.a70; have z70 := L.z70; have v70 := L.v70; have u70 := run_underlying L.t70
 have t9 := L.t9; have a9 := L.a9; have z9 := L.z9; have v9 := L.v9; have u9 := run_underlying L.t9
 have t4 := L.t4; have a4 := L.a4; have z4 := L.z4; have v4 := L.v4; have u4 := run_underlying L.t4
 have t164 := L.t164; have a164 := L.a164; have z164 := L.z164; have v164 := L.v164; have u164 := run_underlying L.t164
 show Calls Tryz.prog (Tryz.lays156_ren.f 240) _ _ _
 go_enter L.f240, Body.n240_ntmps Tryz.lays156_ren
 go_wp2
 rw [Lib.run_to_unsafe w ⟨b, 0, none⟩ L.t70 L.t164 hj (by rw [hjs]; decide) hsh (by show 0 < m; omega)]
 simp only [Result.andThen]
 rw [Oper.upon_value]
 go_wp2
 rw [run_callFunc_extern L.f276 (by kernel_rfl) (by kernel_rfl) (by kernel_rfl) (e := Extern.AbiNoEscape.same) (by kernel_rfl)]
 rw [Lib.run_noEscape]
 simp only [Result.andThen]
 rw [Oper.upon_value]
 go_wp2
 rw [Lib.run_from_unsafe w ⟨b, 0, none⟩ L.t164 L.t70 hj hsh (lies75 _ (by rw [show Tryz.prog.cellsOf 75 = 2 by kernel_rfl]; omega))]
 simp only [Result.andThen]
 rw [Oper.upon_value]
 go_wp2
 go_end0
 exact ⟨rfl, rfl⟩
def nilP : AV := .val (.pointer none)
/-- A builder's own address, once it has been written to. -/
def adA (b : Bool) (i : Nat) : AV := match b with | true => .ptr i 2 0 0 | false => .val (.pointer none)
def paE (b : Bool) (i j n : Nat) : Ent := ⟨75, 2, [[adA b i, .osl j n 1]]⟩
def byE (out : S) : Ent := ⟨5, 1, bytesE out⟩
theorem hpL_set (e e' f : Option Ent) : hpSet (hpL [e, f]) 0 e' = hpL [e', f] := by
 funext i
 cases i with
 | zero => simp [hpSet, hpL]
 | succ i => simp [hpSet, hpL]
theorem copyCheck71 (b : Bool) (n : Nat) (f : Option Ent) : ACall Tryz.prog 71 [.ptr 0 2 0 0] [some (paE b 0 1 n), f] (.tup []) [some (paE true 0 1 n), f] := by
 refine ⟨⟨_, Tryz.func71, rfl, rfl⟩, ?_⟩
 intro X w β vs hr hg hβ
 simp only [RepL, Rep] at hr
 obtain ⟨_, _, rfl, ⟨bk, hb, rfl⟩, rfl⟩ := hr
 have h0 : hpL [some (paE b 0 1 n), f] 0 = some (paE b 0 1 n) := rfl
 obtain ⟨bk', c, fr, us, rest, hb', hheap, hfr, hc, hE⟩ : ∃ bk' c fr us rest, β 0 = some (some bk') ∧ w.heap[bk']? = some (.cells c 75 fr) ∧ (∀ o, o < c.size → fr.1 = fr.2 ∨ o < fr.1) ∧ c.toList = us ++ rest ∧ RepE w β (Own X β (hpL [some (paE b 0 1 n), f])) 2 [[adA b 0, .osl 1 n 1]] us := by
   rcases hg.ent 0 _ h0 with ⟨_, h2⟩ | h
   · simp [paE] at h2
   · exact h
 rw [hb] at hb'
 simp only [Option.some.injEq] at hb'
 subst hb'
 simp only [RepE, RepL] at hE
 obtain ⟨_, _, rfl, _, ⟨v0, _, rfl, hv0, v1, _, rfl, hv1, rfl⟩, rfl⟩ := hE
 have hsz : 2 ≤ c.size := by rw [← Array.length_toList, hc]; simp
 have hcell : w.cell? ⟨bk, 0, none⟩ = some v0 := by
   rw [cell_block hheap, ← Array.getElem?_toList, hc]; rfl
 cases b with
 | true =>
   simp only [adA, Rep] at hv0
   obtain ⟨b2, hb2, rfl⟩ := hv0
   rw [hb] at hb2
   simp only [Option.some.injEq] at hb2
   subst hb2
   refine (Any.Builder_copyCheck_used (P := Tryz.prog) (ρ := Tryz.lays156_ren) { Tryz.lays156 with } Tryz.Builder_Extra_156.toX72 bk w hcell).mono ?_
   rintro e w' ⟨rfl, rfl⟩
   exact ⟨.tuple #[], β, rfl, by simp [Rep, RepL], hg, Frm.refl _ _, fun _ _ => rfl, GmExt.refl _, hβ⟩
 | false =>
   simp only [adA, Rep] at hv0
   subst hv0
   have hfz : w.frozen? ⟨bk, 0, none⟩ = false := by
     simp only [World.frozen?, hheap]
     have := hfr 0 (by omega)
     simp only [Bool.and_eq_false_iff, decide_eq_false_iff_not]
     omega
   refine (cc_fresh { Tryz.lays156 with } Tryz.Builder_Extra_156.toX72 bk w hcell c.size hsz (by simp [World.shape?, hheap]) hfz).mono ?_
   rintro e w' ⟨rfl, rfl⟩
   rw [setCell_eq hheap]
   have hP := post_write (nb := 0) (e := paE false 0 1 n) (e' := paE true 0 1 n) (vs := [.pointer (some ⟨bk, 0, none⟩), v1]) (rest := rest) (r := ⟨.tup [], [(0, some (paE true 0 1 n))], [], True⟩) (v := .tuple #[]) (c' := c.setIfInBounds 0 (.pointer (some ⟨bk, 0, none⟩))) hg h0 hb hheap hfr rfl (by simp) (by rw [Array.toList_setIfInBounds, hc]; rfl)
     (by
       simp only [paE, adA, RepE, RepL]
       exact ⟨[_, _], [], rfl, rfl, ⟨_, _, rfl, by simp only [Rep]; exact ⟨bk, hb, rfl⟩, _, _, rfl, hv1, rfl⟩, rfl⟩) rfl (fun _ _ => by simp [Rep, RepL])
   have hs : setHp (hpL [some (paE false 0 1 n), f]) [(0, some (paE true 0 1 n))] = hpL [some (paE true 0 1 n), f] := by
     rw [setHp_cons, setHp_nil, hpL_set]
   have h1 := hP.rep; have h2 := hP.good; have h3 := hP.frm
   simp only [hs] at h1 h2 h3
   exact ⟨.tuple #[], β, rfl, h1, h2, h3, hP.keepX, hP.ext, hβ⟩
end Go.Proofs.YtffchapiaampmaaGreatDoor
namespace Go.Proofs.YtffchapiaampmaaGreatDoor
open Go.Av
set_option maxHeartbeats 4000000
set_option maxRecDepth 10000
attribute [local irreducible] XH XO PCall ACall
/-- A call of a method of a printer that writes. -/
def BCall (g : FuncId) (xs : List AV) (b : Bool) (out : S) (r : AV) (out' : S) : Prop := idLtL 0 xs = true ∧ idLt 0 r = true ∧ ACall Tryz.prog g (.ptr 0 2 0 0 :: xs) [some (paE b 0 1 out.length), some (byE out)] r [some (paE true 0 2 out'.length), none, some (byE out')]
theorem bytesE_id9 (k : Nat) (l : S) : idLtE k (bytesE l) = true := by
 simp only [idLtE, bytesE, List.all_map, List.all_eq_true]
 intro x _
 rfl
theorem idLtL_up9 (k : Nat) : ∀ l : List AV, idLtL 0 l = true → idLtL k l = true
 | [], _ => rfl
 | a :: l, h => by
   simp only [idLtL, Bool.and_eq_true] at h ⊢
   refine ⟨?_, idLtL_up9 k l h.2⟩
   cases a with
   | agg cs => simp only [idLt] at h ⊢; exact idLtL_up9 k cs h.1
   | tup cs => simp only [idLt] at h ⊢; exact idLtL_up9 k cs h.1
   | osl i n sz => simp [idLt] at h
   | ptr i sz k o => simp [idLt] at h
   | osv i lo n sz => simp [idLt] at h
   | _ => rfl
section
variable {n k : Nat} {ops : Array Oper} {s0 s : AS} {G : Prop} {rem : List Oper} {ts : List Av.Touch}
theorem ren_adA (ρ : Nat → Nat) (b : Bool) (i : Nat) : ren ρ (adA b i) = adA b (ρ i) := by cases b <;> rfl
theorem ren_by (ρ : Nat → Nat) (out : S) : renEnt ρ (byE out) = byE out := by
 simp only [renEnt, byE]
 rw [renE_noid ρ (bytesE_id9 0 out)]
theorem XO.cc (i j : Nat) {o : Oper} {b : Bool} {out : S} (h : XO Tryz.prog n ops s0 G (k + 1) rem ⟨putE o.dst (.tup []) s.env, [(j, some (byE out)), (i, some (paE true i j out.length))] ++ s.hp⟩ ((k, [i, j], [i, j]) :: ts)) (hcal : oCal o = some 71 := by rfl) (hgd : aGuard ops (lk s.env) o = some true := by rfl)
   (ha : oArgs o (lk s.env) = [.ptr i 2 0 0] := by rfl) (h1 : lkh s.hp i = some (paE b i j out.length) := by rfl) (h2 : lkh s.hp j = some (byE out) := by rfl) (hij : i ≠ j := by decide) : XO Tryz.prog n ops s0 G k (o :: rem) s ts := by
 have e0 : rhoI [i, j] (n + 8 * k) 0 = i := rfl
 have e1 : rhoI [i, j] (n + 8 * k) 1 = j := rfl
 have hb := ren_by (rhoI [i, j] (n + 8 * k)) out
 refine XO.o [i, j] (xa := [.ptr 0 2 0 0]) (hs := [paE b 0 1 out.length, byE out]) (copyCheck71 b out.length (some (byE out))) hcal hgd (by rw [ha]; exact viewsA_self _ _) (by simp [hij]) ⟨?_, ?_, ?_, bytesE_id9 _ _, trivial⟩ (by simp) (by simp) (by rfl) (by simp) ?_
 · rw [h1]
   simp only [renEnt, paE, List.map_cons, List.map_nil, renL, ren_adA, ren, e0, e1]
 · cases b <;> rfl
 · rw [h2, hb]
 · have hw : hwOf (rhoI [i, j] (n + 8 * k)) 0 [some (paE true 0 1 out.length), some (byE out)] = [(i, some (paE true i j out.length)), (j, some (byE out))] := by
     simp only [hwOf, Option.map_some, hb, e0, Nat.zero_add, e1]
     simp only [renEnt, paE, List.map_cons, List.map_nil, renL, ren_adA, ren, e0, e1]
   rw [hw]
   exact h
theorem XO.b (i j : Nat) {g : FuncId} {xs : List AV} {r : AV} {o : Oper} {b : Bool} {out out' : S} (q : BCall g xs b out r out') (h : XO Tryz.prog n ops s0 G (k + 1) rem ⟨putE o.dst r s.env, [(n + 8 * k, some (byE out')), (j, none), (i, some (paE true i (n + 8 * k) out'.length))] ++ s.hp⟩ ((k, [i, j], [i, j, n + 8 * k]) :: ts)) (hcal : oCal o = some g := by rfl) (hgd : aGuard ops (lk s.env) o = some true := by rfl)
   (ha : oArgs o (lk s.env) = .ptr i 2 0 0 :: xs := by rfl) (h1 : lkh s.hp i = some (paE b i j out.length) := by rfl) (h2 : lkh s.hp j = some (byE out) := by rfl) (hij : i ≠ j := by decide) : XO Tryz.prog n ops s0 G k (o :: rem) s ts := by
 obtain ⟨qa, qr, q⟩ := q
 have e0 : rhoI [i, j] (n + 8 * k) 0 = i := rfl
 have e1 : rhoI [i, j] (n + 8 * k) 1 = j := rfl
 have e2 : rhoI [i, j] (n + 8 * k) 2 = n + 8 * k := rfl
 have hb := ren_by (rhoI [i, j] (n + 8 * k)) out
 have hb' := ren_by (rhoI [i, j] (n + 8 * k)) out'
 refine XO.o [i, j] (xa := .ptr 0 2 0 0 :: xs) (hs := [paE b 0 1 out.length, byE out]) q hcal hgd ?_ (by simp [hij]) ⟨?_, ?_, ?_, bytesE_id9 _ _, trivial⟩ (by simp) (by simp) ?_ (by simp) ?_
 · rw [ha]
   simp only [renL, ren, e0]
   rw [renL_noid _ _ qa]
   exact viewsA_self _ _
 · rw [h1]
   simp only [renEnt, paE, List.map_cons, List.map_nil, renL, ren_adA, ren, e0, e1]
 · cases b <;> rfl
 · rw [h2, hb]
 · simp only [idLtL, idLt, Bool.and_eq_true]
   exact ⟨by simp, idLtL_up9 _ _ qa⟩
 · have hw : hwOf (rhoI [i, j] (n + 8 * k)) 0 [some (paE true 0 2 out'.length), none, some (byE out')] = [(i, some (paE true i (n + 8 * k) out'.length)), (j, none), (n + 8 * k, some (byE out'))] := by
     simp only [hwOf, Option.map_some, Option.map_none, hb', e0, Nat.zero_add, e1, e2]
     simp only [renEnt, paE, List.map_cons, List.map_nil, renL, ren_adA, ren, e0, e2]
   rw [hw, ren_noid _ _ qr]
   exact h
end
attribute [go_sem] paE adA byE
theorem bytesE_sn (out : S) (c : UInt8) : bytesE out ++ [[.val (.int .u8 c.toNat)]] = bytesE (out ++ [c]) := by simp [bytesE, byteE]
theorem writeByte44 (b : Bool) (out : S) (c : UInt8) (hl : out.length ≤ 2 ^ 46) : BCall 44 [.val (.int .u8 c.toNat)] b out (.val .nilIface) (out ++ [c]) := by
 refine ⟨rfl, rfl, ?_⟩
 cases b
 all_goals simp only [paE, adA, byE]
 all_goals refine ACall.go 17 2 (fn := Tryz.f44) Tryz.func44 rfl rfl rfl (by simp) rfl rfl ?_
 all_goals try refine XW.ra0 0 [0, 1] ?_
 all_goals try refine XW.rS 1 ?_
 all_goals try refine XO.r0 1 ?_
 all_goals try first | (refine XO.cc 0 1 (b := true) (out := out) ?_) | (refine XO.cc 0 1 (b := false) (out := out) ?_)
 all_goals try refine XO.done [0, 1] ?_
 all_goals try refine XW.ra0 2 [0] ?_
 all_goals try refine XW.ra0 3 [0, 4] ?_
 all_goals try (refine XW.atr ?_; first | ((refine XB.ret [some 0, some 1, some 2] [] (hids := ⟨by simp [srcIds], by simp [srcIds], rfl⟩) (hwk := by simp [resOf, lk, lkh, wk, wkL, wkE, I]) (hwh := ?_); first | (simp [wkHp, wkHp1, wkEnt, lkh, paE, adA, byE, wkE, wkL, wk, bytesE_app9, bytesE_cons9, bytesE_nil9]; done))))
theorem writeString45 (b : Bool) (out t : S) (hl : out.length + t.length ≤ 2 ^ 46) : BCall 45 [str t] b out (.tup [I (t.length : Nat), .val .nilIface]) (out ++ t) := by
 refine ⟨rfl, rfl, ?_⟩
 cases b
 all_goals simp only [paE, adA, byE]
 all_goals refine ACall.go 19 2 (fn := Tryz.f45) Tryz.func45 rfl rfl rfl (by simp) rfl rfl ?_
 all_goals try refine XW.ra0 0 [0, 1] ?_
 all_goals try refine XW.rS 1 ?_
 all_goals try refine XO.r0 1 ?_
 all_goals try first | (refine XO.cc 0 1 (b := true) (out := out) ?_) | (refine XO.cc 0 1 (b := false) (out := out) ?_)
 all_goals try refine XO.done [0, 1] ?_
 all_goals try refine XW.ra0 2 [0, 1] ?_
 all_goals try refine XW.ra0 3 [0, 4, 5] ?_
 all_goals try (refine XW.atr ?_; first | ((refine XB.ret [some 0, some 1, some 2] [] (hids := ⟨by simp [srcIds], by simp [srcIds], rfl⟩) (hwk := by simp [resOf, lk, lkh, wk, wkL, wkE, I]) (hwh := ?_); first | (simp [wkHp, wkHp1, wkEnt, lkh, paE, adA, byE, wkE, wkL, wk, bytesE_app9, bytesE_cons9, bytesE_nil9]; done))))
@[go_sem] theorem T20 : tabOf Tryz.prog 20 = some ⟨1, 16, .interface #[], [.nilIface]⟩ := by kernel_rfl
@[go_sem] theorem D20 : descOf (tabOf Tryz.prog) 20 = some (.interface #[]) := by kernel_rfl
@[go_sem] theorem E81 : Av.elemOf (tabOf Tryz.prog) 81 = some (20, ⟨1, 16, .interface #[], [.nilIface]⟩) := by kernel_rfl
/-- A word of a line that is printed. -/
inductive Wd where
 | i (x : Int)
 | t (x : S)
def wdV : Wd → AV
 | .i x => .val (.iface 3 (.int .i64 x))
 | .t x => .val (.iface 9 (.string ⟨x.toArray⟩))
def wdC (x : Wd) : List AV := [wdV x]
def wdT : Wd → S
 | .i x => decS x
 | .t x => x
def WdOk : Wd → Prop
 | .i x => In64 x
 | .t _ => True
def wdE (l : List Wd) : List (List AV) := l.map wdC
theorem wdE_len (l : List Wd) : (wdE l).length = l.length := by simp [wdE]
theorem wdE_getE (l : List Wd) (i : Nat) : (wdE l)[i]? = (l[i]?).map wdC := by simp [wdE]
@[simp] theorem wdE_id (k : Nat) (l : List Wd) : idLtE k (wdE l) = true := by
 simp only [idLtE, wdE, List.all_map, List.all_eq_true]
 intro x _
 cases x <;> rfl
@[simp] theorem wdE_st (l : List Wd) : (wdE l).all (fun c => c.all storable) = true := by
 simp only [wdE, List.all_map, List.all_eq_true]
 intro x _
 cases x <;> rfl
@[simp] theorem wdE_ns (l : List Wd) : noSlE (wdE l) = true := by
 simp only [noSlE, wdE, List.all_map, List.all_eq_true]
 intro x _
 cases x <;> rfl
theorem wdE_drop (l : List Wd) (i : Nat) : (wdE l).drop i = wdE (l.drop i) := by simp [wdE]
theorem wdE_take (l : List Wd) (i : Nat) : (wdE l).take i = wdE (l.take i) := by simp [wdE]
theorem wdE_ren (L : List Nat) (l : List Wd) : renCE L (wdE l) = wdE l := by
 simp only [renCE, wdE, List.map_map]
 apply List.map_congr_left
 intro x _
 cases x <;> rfl
theorem wdE_renE (ρ : Nat → Nat) (l : List Wd) : (wdE l).map (renL ρ) = wdE l := renE_noid ρ (wdE_id 0 l)
theorem wdE_snoc (l : List Wd) (x : Wd) : wdE l ++ [[wdV x]] = wdE (l ++ [x]) := by simp [wdE, wdC]
theorem wdE_snoc' (l : List Wd) (x : Wd) : wdE l ++ [wdC x] = wdE (l ++ [x]) := by simp [wdE]
theorem wdE_app (l m : List Wd) : wdE l ++ wdE m = wdE (l ++ m) := by simp [wdE]
@[simp] theorem wdE_nil : wdE [] = [] := rfl
theorem wdE_set (l : List Wd) (i : Nat) (x : Wd) : (wdE l).set i [wdV x] = wdE (l.set i x) := by simp [wdE, List.map_set, wdC]
attribute [go_sem] wdE_len wdE_getE wdE_drop wdE_take wdE_ren wdE_renE wdE_snoc wdE_snoc' wdE_app wdE_set wdC
attribute [go_sem] wdV
/-- The first i words, with blanks between. -/
def wdO (v : List Wd) : Nat → S
 | 0 => []
 | i + 1 => wdO v i ++ (if 0 < i then [32] else []) ++ (match v[i]? with | some x => wdT x | none => [])
def lineF (v : List Wd) : S := wdO v v.length ++ [10]
theorem wdO_mono (v : List Wd) {i : Nat} : ∀ d, (wdO v i).length ≤ (wdO v (i + d)).length
 | 0 => Nat.le_refl _
 | d + 1 => by
   have := wdO_mono v (i := i) d
   rw [← Nat.add_assoc, wdO, List.length_append, List.length_append]
   omega
theorem wdO_le (v : List Wd) {i j : Nat} (h : i ≤ j) : (wdO v i).length ≤ (wdO v j).length := by
 have := wdO_mono v (i := i) (j - i)
 rwa [show i + (j - i) = j by omega] at this
theorem wdO_0 {v : List Wd} {i : Nat} {x : Wd} (h : v[i]? = some x) (hi : decide ((i : Int) > 0) = false) : wdO v (i + 1) = wdO v i ++ wdT x := by
 have h1 := of_decide_eq_false hi
 simp only [wdO, h]
 rw [if_neg (by omega)]; simp
theorem wdO_1 {v : List Wd} {i : Nat} {x : Wd} (h : v[i]? = some x) (hi : decide ((i : Int) > 0) = true) : wdO v (i + 1) = wdO v i ++ [32] ++ wdT x := by
 have h1 := of_decide_eq_true hi
 simp only [wdO, h]
 rw [if_pos (by omega)]
theorem wdO_l0 {v : List Wd} {i : Nat} {x : Wd} (h : v[i]? = some x) : (wdO v i).length + (wdT x).length ≤ (wdO v (i + 1)).length := by
 simp only [wdO, h, List.length_append]; omega
theorem wdO_l1 {v : List Wd} {i : Nat} {x : Wd} (h : v[i]? = some x) (hi : decide ((i : Int) > 0) = true) : (wdO v i).length + 1 + (wdT x).length ≤ (wdO v (i + 1)).length := by
 rw [wdO_1 h hi]; simp only [List.length_append, List.length_singleton]; omega
theorem line21t (out : S) (ws : List Wd) (hw : ∀ w ∈ ws, WdOk w) (hn : ws.length ≤ 2 ^ 40) (hl : out.length + (wdO ws ws.length).length + 1 ≤ 2 ^ 46) : BCall 21 [.sl 1 (wdE ws)] true out (.tup []) (out ++ lineF ws) := by
 refine ⟨rfl, rfl, ?_⟩
 simp only [paE, adA, byE]
 all_goals refine ACall.go 44 2 (fn := Tryz.f21) Tryz.func21 rfl rfl rfl (by simp) rfl rfl ?_
 all_goals try refine XW.ra0 0 [0, 8, 9, 10] ?_
 all_goals try (refine XW.lp 3 (fun s : Nat × Bool × S => ⟨[(0, .ptr 0 2 0 0), (8, .sl 1 (wdE ws)), (9, I (ws.length : Nat)), (10, I (s.1 : Nat))], [(0, some ⟨75, 2, [[adA s.2.1 0, .osl 2 s.2.2.length 1]]⟩), (1, none), (2, some ⟨5, 1, bytesE s.2.2⟩)]⟩) (fun s => s.1 ≤ ws.length ∧ s.2.2 = out ++ wdO ws s.1) (fun s => ws.length - s.1) (0, true, out) (mkWk [some 0, some 1, some 1] [] (by simp [wkEnv, lk, lkh, I, str, B, U8, U64, U32, paE, adA, byE, bytesE_app9, bytesE_cons9, bytesE_nil9]; first | done | omega) (by simp [wkHp, wkHp1, wkEnt, lkh, I, str, paE, adA, byE, bytesE_app9, bytesE_cons9, bytesE_nil9])) ?_ (h0 := ⟨by simp, by simp [wdO]⟩); rintro ⟨i, bb, o⟩ hI0 Y0 hY0; cases bb)
 all_goals try refine XW.ra0 1 [0, 8, 9, 10, 11] ?_
 all_goals try first | refine XW.cT 11 ?_ | refine XW.cF 11 ?_ | refine XW.cB 11 (fun c11 => ?_) (fun c11 => ?_)
 all_goals try (refine XW.at 2 ?_; obtain ⟨m1, m2⟩ := hI0; (try simp only at m1 m2); have hi := ltC c11; obtain ⟨x, hx, hxm⟩ := getx ws i hi; have hol : o.length = out.length + (wdO ws i).length := (by rw [m2, List.length_append]); have hmo := wdO_le ws (show i + 1 ≤ ws.length by omega); have hl0 := wdO_l0 hx; rcases x with x | x <;> simp only [wdT] at hl0)
 all_goals try refine XW.ra1 2 [0, 4, 5, 8, 9, 10] ?_
 all_goals try refine XW.ra0 3 [0, 5, 8, 9, 10, 16] ?_
 all_goals try first | refine XW.cT 16 ?_ | refine XW.cF 16 ?_ | refine XW.cB 16 (fun c16 => ?_) (fun c16 => ?_)
 all_goals try (refine XW.at 4 ?_; have hl1 := wdO_l1 hx c16; simp only [wdT] at hl1; have hst := wdO_1 hx c16; simp only [wdT] at hst)
 all_goals try refine XW.rS 4 ?_
 all_goals try refine XO.r0 3 ?_
 all_goals try first | (refine XO.b 0 2 (b := true) (out := o) (writeByte44 true o 32 (by omega)) ?_) | (refine XO.b 0 2 (b := false) (out := o) (writeByte44 false o 32 (by omega)) ?_)
 all_goals try refine XO.done [0, 5, 8, 9, 10] ?_
 all_goals try refine XW.ra0 5 [0, 8, 9, 10, 21] ?_
 all_goals try refine XW.ra0 6 [0, 8, 9, 10, 21, 23, 24] ?_
 all_goals try first | refine XW.cT 23 ?_ | refine XW.cF 23 ?_ | refine XW.cB 23 (fun c23 => ?_) (fun c23 => ?_)
 all_goals try refine XW.ra0 7 [0, 6, 8, 9, 10] ?_
 all_goals try refine XW.rS 8 ?_
 all_goals try refine XO.r0 4 ?_
 all_goals try (refine XO.p (PCall.of (itoa46 x (hw _ hxm))) ?_; rintro _ rfl)
 all_goals try first | (refine XO.b 0 2 (b := true) (out := o ++ [32]) (writeString45 true (o ++ [32]) (decS x) (by rw [List.length_append]; simp only [List.length_singleton]; omega)) ?_) | (refine XO.b 0 2 (b := true) (out := o) (writeString45 true o (decS x) (by omega)) ?_) | (refine XO.b 0 2 (b := false) (out := o) (writeString45 false o (decS x) (by omega)) ?_)
 all_goals try refine XO.done [0, 8, 9, 10] ?_
 all_goals try refine XW.ra0 9 [0, 8, 9, 10, 32, 33] ?_
 all_goals try first | refine XW.cT 32 ?_ | refine XW.cF 32 ?_ | refine XW.cB 32 (fun c32 => ?_) (fun c32 => ?_)
 all_goals try refine XW.ra0 10 [0, 7, 8, 9, 10] ?_
 all_goals try refine XW.rS 11 ?_
 all_goals try refine XO.r0 4 ?_
 all_goals try first | (refine XO.b 0 2 (b := true) (out := o ++ [32]) (writeString45 true (o ++ [32]) x (by rw [List.length_append]; simp only [List.length_singleton]; omega)) ?_) | (refine XO.b 0 2 (b := true) (out := o) (writeString45 true o x (by omega)) ?_) | (refine XO.b 0 2 (b := false) (out := o) (writeString45 false o x (by omega)) ?_)
 all_goals try refine XO.done [0, 8, 9, 10] ?_
 all_goals try refine XW.ra2 12 [0, 8, 9, 10] ?_
 all_goals try (refine XH.le ?_; first | (refine hY0 (i + 1, true, o ++ [32] ++ decS x) ?_ ?_ _ _ (mkWk [some 0, some 1, some 2] [] ?_ ?_); (next => (refine ⟨?_, ?_⟩ <;> first | (simp only; omega) | (simp only; rw [hst, m2]; simp))); (next => first | omega | (simp; done) | (simp; omega)); (next => simp [wkEnv, lk, lkh, I, str, B, U8, U64, U32, paE, adA, byE, bytesE_app9, bytesE_cons9, bytesE_nil9]; first | done | omega); (next => simp [wkHp, wkHp1, wkEnt, lkh, I, str, paE, adA, byE, bytesE_app9, bytesE_cons9, bytesE_nil9])) | (refine hY0 (i + 1, true, o ++ [32] ++ x) ?_ ?_ _ _ (mkWk [some 0, some 1, some 2] [] ?_ ?_); (next => (refine ⟨?_, ?_⟩ <;> first | (simp only; omega) | (simp only; rw [hst, m2]; simp))); (next => first | omega | (simp; done) | (simp; omega)); (next => simp [wkEnv, lk, lkh, I, str, B, U8, U64, U32, paE, adA, byE, bytesE_app9, bytesE_cons9, bytesE_nil9]; first | done | omega); (next => simp [wkHp, wkHp1, wkEnt, lkh, I, str, paE, adA, byE, bytesE_app9, bytesE_cons9, bytesE_nil9])) | (refine hY0 (i + 1, true, o ++ decS x) ?_ ?_ _ _ (mkWk [some 0, some 1, some 2] [] ?_ ?_); (next => (refine ⟨?_, ?_⟩ <;> first | (simp only; omega) | (simp only; rw [wdO_0 hx c16, m2, wdT]; simp))); (next => first | omega | (simp; done) | (simp; omega)); (next => simp [wkEnv, lk, lkh, I, str, B, U8, U64, U32, paE, adA, byE, bytesE_app9, bytesE_cons9, bytesE_nil9]; first | done | omega); (next => simp [wkHp, wkHp1, wkEnt, lkh, I, str, paE, adA, byE, bytesE_app9, bytesE_cons9, bytesE_nil9])) | (refine hY0 (i + 1, true, o ++ x) ?_ ?_ _ _ (mkWk [some 0, some 1, some 2] [] ?_ ?_); (next => (refine ⟨?_, ?_⟩ <;> first | (simp only; omega) | (simp only; rw [wdO_0 hx c16, m2, wdT]; simp))); (next => first | omega | (simp; done) | (simp; omega)); (next => simp [wkEnv, lk, lkh, I, str, B, U8, U64, U32, paE, adA, byE, bytesE_app9, bytesE_cons9, bytesE_nil9]; first | done | omega); (next => simp [wkHp, wkHp1, wkEnt, lkh, I, str, paE, adA, byE, bytesE_app9, bytesE_cons9, bytesE_nil9])))
 all_goals try (refine XW.at 13 ?_; obtain ⟨m1, m2⟩ := hI0; (try simp only at m1 m2); have h9 := geC c11; obtain rfl : i = ws.length := (by omega); have hol : o.length = out.length + (wdO ws ws.length).length := (by rw [m2, List.length_append]); have hfin : out ++ lineF ws = o ++ [10] := (by rw [m2, lineF, List.append_assoc]); rw [hfin])
 all_goals try refine XW.rS 13 ?_
 all_goals try refine XO.r0 3 ?_
 all_goals try first | (refine XO.b 0 2 (b := true) (out := o) (writeByte44 true o 10 (by omega)) ?_) | (refine XO.b 0 2 (b := false) (out := o) (writeByte44 false o 10 (by omega)) ?_)
 all_goals try refine XO.done [0] ?_
 all_goals try ((refine XB.end [some 0, some 1, some 2] [] (hids := ⟨by simp [srcIds], by simp [srcIds], rfl⟩) (hwk := by simp [resOf, lk, lkh, wk, wkL, wkE, I]) (hwh := ?_); first | (simp [wkHp, wkHp1, wkEnt, lkh, wkE, wkL, wk, paE, adA, byE, bytesE_app9, bytesE_cons9, bytesE_nil9]; done)))
theorem line21f (out : S) (ws : List Wd) (hw : ∀ w ∈ ws, WdOk w) (hn : ws.length ≤ 2 ^ 40) (hl : out.length + (wdO ws ws.length).length + 1 ≤ 2 ^ 46) : BCall 21 [.sl 1 (wdE ws)] false out (.tup []) (out ++ lineF ws) := by
 refine ⟨rfl, rfl, ?_⟩
 simp only [paE, adA, byE]
 all_goals refine ACall.go 44 2 (fn := Tryz.f21) Tryz.func21 rfl rfl rfl (by simp) rfl rfl ?_
 all_goals try refine XW.ra0 0 [0, 8, 9, 10] ?_
 all_goals try (refine XW.lp 3 (fun s : Nat × Bool × S => ⟨[(0, .ptr 0 2 0 0), (8, .sl 1 (wdE ws)), (9, I (ws.length : Nat)), (10, I (s.1 : Nat))], [(0, some ⟨75, 2, [[adA s.2.1 0, .osl 2 s.2.2.length 1]]⟩), (1, none), (2, some ⟨5, 1, bytesE s.2.2⟩)]⟩) (fun s => s.1 ≤ ws.length ∧ s.2.2 = out ++ wdO ws s.1) (fun s => ws.length - s.1) (0, false, out) (mkWk [some 0, some 1, some 1] [] (by simp [wkEnv, lk, lkh, I, str, B, U8, U64, U32, paE, adA, byE, bytesE_app9, bytesE_cons9, bytesE_nil9]; first | done | omega) (by simp [wkHp, wkHp1, wkEnt, lkh, I, str, paE, adA, byE, bytesE_app9, bytesE_cons9, bytesE_nil9])) ?_ (h0 := ⟨by simp, by simp [wdO]⟩); rintro ⟨i, bb, o⟩ hI0 Y0 hY0; cases bb)
 all_goals try refine XW.ra0 1 [0, 8, 9, 10, 11] ?_
 all_goals try first | refine XW.cT 11 ?_ | refine XW.cF 11 ?_ | refine XW.cB 11 (fun c11 => ?_) (fun c11 => ?_)
 all_goals try (refine XW.at 2 ?_; obtain ⟨m1, m2⟩ := hI0; (try simp only at m1 m2); have hi := ltC c11; obtain ⟨x, hx, hxm⟩ := getx ws i hi; have hol : o.length = out.length + (wdO ws i).length := (by rw [m2, List.length_append]); have hmo := wdO_le ws (show i + 1 ≤ ws.length by omega); have hl0 := wdO_l0 hx; rcases x with x | x <;> simp only [wdT] at hl0)
 all_goals try refine XW.ra1 2 [0, 4, 5, 8, 9, 10] ?_
 all_goals try refine XW.ra0 3 [0, 5, 8, 9, 10, 16] ?_
 all_goals try first | refine XW.cT 16 ?_ | refine XW.cF 16 ?_ | refine XW.cB 16 (fun c16 => ?_) (fun c16 => ?_)
 all_goals try (refine XW.at 4 ?_; have hl1 := wdO_l1 hx c16; simp only [wdT] at hl1; have hst := wdO_1 hx c16; simp only [wdT] at hst)
 all_goals try refine XW.rS 4 ?_
 all_goals try refine XO.r0 3 ?_
 all_goals try first | (refine XO.b 0 2 (b := true) (out := o) (writeByte44 true o 32 (by omega)) ?_) | (refine XO.b 0 2 (b := false) (out := o) (writeByte44 false o 32 (by omega)) ?_)
 all_goals try refine XO.done [0, 5, 8, 9, 10] ?_
 all_goals try refine XW.ra0 5 [0, 8, 9, 10, 21] ?_
 all_goals try refine XW.ra0 6 [0, 8, 9, 10, 21, 23, 24] ?_
 all_goals try first | refine XW.cT 23 ?_ | refine XW.cF 23 ?_ | refine XW.cB 23 (fun c23 => ?_) (fun c23 => ?_)
 all_goals try refine XW.ra0 7 [0, 6, 8, 9, 10] ?_
 all_goals try refine XW.rS 8 ?_
 all_goals try refine XO.r0 4 ?_
 all_goals try (refine XO.p (PCall.of (itoa46 x (hw _ hxm))) ?_; rintro _ rfl)
 all_goals try first | (refine XO.b 0 2 (b := true) (out := o ++ [32]) (writeString45 true (o ++ [32]) (decS x) (by rw [List.length_append]; simp only [List.length_singleton]; omega)) ?_) | (refine XO.b 0 2 (b := true) (out := o) (writeString45 true o (decS x) (by omega)) ?_) | (refine XO.b 0 2 (b := false) (out := o) (writeString45 false o (decS x) (by omega)) ?_)
 all_goals try refine XO.done [0, 8, 9, 10] ?_
 all_goals try refine XW.ra0 9 [0, 8, 9, 10, 32, 33] ?_
 all_goals try first | refine XW.cT 32 ?_ | refine XW.cF 32 ?_ | refine XW.cB 32 (fun c32 => ?_) (fun c32 => ?_)
 all_goals try refine XW.ra0 10 [0, 7, 8, 9, 10] ?_
 all_goals try refine XW.rS 11 ?_
 all_goals try refine XO.r0 4 ?_
 all_goals try first | (refine XO.b 0 2 (b := true) (out := o ++ [32]) (writeString45 true (o ++ [32]) x (by rw [List.length_append]; simp only [List.length_singleton]; omega)) ?_) | (refine XO.b 0 2 (b := true) (out := o) (writeString45 true o x (by omega)) ?_) | (refine XO.b 0 2 (b := false) (out := o) (writeString45 false o x (by omega)) ?_)
 all_goals try refine XO.done [0, 8, 9, 10] ?_
 all_goals try refine XW.ra2 12 [0, 8, 9, 10] ?_
 all_goals try (refine XH.le ?_; first | (refine hY0 (i + 1, true, o ++ [32] ++ decS x) ?_ ?_ _ _ (mkWk [some 0, some 1, some 2] [] ?_ ?_); (next => (refine ⟨?_, ?_⟩ <;> first | (simp only; omega) | (simp only; rw [hst, m2]; simp))); (next => first | omega | (simp; done) | (simp; omega)); (next => simp [wkEnv, lk, lkh, I, str, B, U8, U64, U32, paE, adA, byE, bytesE_app9, bytesE_cons9, bytesE_nil9]; first | done | omega); (next => simp [wkHp, wkHp1, wkEnt, lkh, I, str, paE, adA, byE, bytesE_app9, bytesE_cons9, bytesE_nil9])) | (refine hY0 (i + 1, true, o ++ [32] ++ x) ?_ ?_ _ _ (mkWk [some 0, some 1, some 2] [] ?_ ?_); (next => (refine ⟨?_, ?_⟩ <;> first | (simp only; omega) | (simp only; rw [hst, m2]; simp))); (next => first | omega | (simp; done) | (simp; omega)); (next => simp [wkEnv, lk, lkh, I, str, B, U8, U64, U32, paE, adA, byE, bytesE_app9, bytesE_cons9, bytesE_nil9]; first | done | omega); (next => simp [wkHp, wkHp1, wkEnt, lkh, I, str, paE, adA, byE, bytesE_app9, bytesE_cons9, bytesE_nil9])) | (refine hY0 (i + 1, true, o ++ decS x) ?_ ?_ _ _ (mkWk [some 0, some 1, some 2] [] ?_ ?_); (next => (refine ⟨?_, ?_⟩ <;> first | (simp only; omega) | (simp only; rw [wdO_0 hx c16, m2, wdT]; simp))); (next => first | omega | (simp; done) | (simp; omega)); (next => simp [wkEnv, lk, lkh, I, str, B, U8, U64, U32, paE, adA, byE, bytesE_app9, bytesE_cons9, bytesE_nil9]; first | done | omega); (next => simp [wkHp, wkHp1, wkEnt, lkh, I, str, paE, adA, byE, bytesE_app9, bytesE_cons9, bytesE_nil9])) | (refine hY0 (i + 1, true, o ++ x) ?_ ?_ _ _ (mkWk [some 0, some 1, some 2] [] ?_ ?_); (next => (refine ⟨?_, ?_⟩ <;> first | (simp only; omega) | (simp only; rw [wdO_0 hx c16, m2, wdT]; simp))); (next => first | omega | (simp; done) | (simp; omega)); (next => simp [wkEnv, lk, lkh, I, str, B, U8, U64, U32, paE, adA, byE, bytesE_app9, bytesE_cons9, bytesE_nil9]; first | done | omega); (next => simp [wkHp, wkHp1, wkEnt, lkh, I, str, paE, adA, byE, bytesE_app9, bytesE_cons9, bytesE_nil9])))
 all_goals try (refine XW.at 13 ?_; obtain ⟨m1, m2⟩ := hI0; (try simp only at m1 m2); have h9 := geC c11; obtain rfl : i = ws.length := (by omega); have hol : o.length = out.length + (wdO ws ws.length).length := (by rw [m2, List.length_append]); have hfin : out ++ lineF ws = o ++ [10] := (by rw [m2, lineF, List.append_assoc]); rw [hfin])
 all_goals try refine XW.rS 13 ?_
 all_goals try refine XO.r0 3 ?_
 all_goals try first | (refine XO.b 0 2 (b := true) (out := o) (writeByte44 true o 10 (by omega)) ?_) | (refine XO.b 0 2 (b := false) (out := o) (writeByte44 false o 10 (by omega)) ?_)
 all_goals try refine XO.done [0] ?_
 all_goals try ((refine XB.end [some 0, some 1, some 2] [] (hids := ⟨by simp [srcIds], by simp [srcIds], rfl⟩) (hwk := by simp [resOf, lk, lkh, wk, wkL, wkE, I]) (hwh := ?_); first | (simp [wkHp, wkHp1, wkEnt, lkh, wkE, wkL, wk, paE, adA, byE, bytesE_app9, bytesE_cons9, bytesE_nil9]; done)))
theorem line21 (b : Bool) (out : S) (ws : List Wd) (hw : ∀ w ∈ ws, WdOk w) (hn : ws.length ≤ 2 ^ 40) (hl : out.length + (wdO ws ws.length).length + 1 ≤ 2 ^ 46) : BCall 21 [.sl 1 (wdE ws)] b out (.tup []) (out ++ lineF ws) := by
 cases b
 · exact line21f out ws hw hn hl
 · exact line21t out ws hw hn hl
end Go.Proofs.YtffchapiaampmaaGreatDoor
namespace Go.Proofs.YtffchapiaampmaaGreatDoor
open Go.Av Go.RowKit Go.Shelf
/-- All is as it was but for one block's cells, whose shape is kept. -/
structure KB (w w' : World) (p : Option Nat) : Prop where
 os : w'.os = w.os
 tape : w'.tape = w.tape
 output : w'.output = w.output
 size : w.heap.size ≤ w'.heap.size
 blk : ∀ b, b < w.heap.size → p ≠ some b → w'.heap[b]? = w.heap[b]?
 shape : ∀ b s, w.shape? b = some s → w'.shape? b = some s
theorem KB.refl (w : World) (p : Option Nat) : KB w w p := ⟨rfl, rfl, rfl, Nat.le_refl _, fun _ _ _ => rfl, fun _ _ h => h⟩
theorem KB.drew (w : World) (p : Option Nat) : KB w w.drew p := ⟨rfl, rfl, rfl, Nat.le_refl _, fun _ _ _ => rfl, fun _ _ h => h⟩
theorem KB.dalloc (w : World) (p : Option Nat) (o : Obj) : KB w (w.drew.alloc o) p := by
 have hk : ∀ b, b < w.heap.size → (w.drew.alloc o).heap[b]? = w.heap[b]? := fun b hb => by
   show (w.heap.push o)[b]? = _
   rw [Array.getElem?_push, if_neg (by omega)]
 refine ⟨rfl, rfl, rfl, by show w.heap.size ≤ (w.heap.push o).size; simp, fun b hb _ => hk b hb, fun b s hs => ?_⟩
 rw [shape_of_heap (hk b (shape_lt hs))]; exact hs
theorem KB.dfreeze (w : World) (g n : Nat) : KB w (w.drew.freeze ⟨g, 0, none⟩ n) (some g) := by
 unfold World.freeze
 split
 · exact KB.drew w _
 · refine ⟨rfl, rfl, rfl, by simp only [Array.size_modify]; exact Nat.le_refl _, fun b hb hn => ?_, fun b s hs => ?_⟩
   · simp only [Array.getElem?_modify]
     rw [if_neg (by intro h; exact hn (by rw [h]))]; rfl
   · unfold World.shape? at hs ⊢
     simp only [Array.getElem?_modify]
     have hd : w.drew.heap[b]? = w.heap[b]? := rfl
     rw [hd]
     cases hh : w.heap[b]? with
     | none => rw [hh] at hs; simp at hs
     | some o =>
       rw [hh] at hs
       by_cases h : g = b
       · rw [if_pos h]
         cases o <;> simp at hs ⊢
         exact hs
       · rw [if_neg h]; exact hs
set_option maxHeartbeats 2000000 in
set_option maxRecDepth 100000 in
theorem str_nil (b : Nat) (w : World)  (c0 : w.cell? ⟨b, 1, none⟩ = some (.slice none 0 0)) :
   Calls Tryz.prog 23 #[.pointer (some ⟨b, 0, none⟩)] w fun e w' => e = .returned (.string ⟨#[]⟩) ∧ KB w w' (none) := by
 have c1 : w.drew.cell? ⟨b, 1, none⟩ = some (.slice none 0 0) := c0
 have hUS := Any.unsafeString_none (P := Tryz.prog) (ρ := Tryz.lays156_ren) { Tryz.lays156 with } Tryz.Builder_Extra_156
 have hSD : (Builtin.unsafeSliceData_ #[(Tryz.lays156_ren.t 37)] (Tryz.lays156_ren.t 127) #[.slice none 0 0]).run Tryz.prog w.drew = .ok (.pointer none) w.drew := rfl
 have L : Go.Proofs.Lays.n169 Tryz.prog Tryz.lays156_ren := { Tryz.lays156 with }
 have X := Tryz.Builder_Extra_156
 have mixed := L.mixed
 have t72 := L.t72; have a72 := L.a72; have z72 := L.z72; have v72 := L.v72; have u72 := run_underlying L.t72
 have t70 := L.t70; have a70 := L.a70; have z70 := L.z70; have v70 := L.v70; have u70 := run_underlying L.t70
 have t37 := L.t37; have a37 := L.a37; have z37 := L.z37; have v37 := L.v37; have u37 := run_underlying L.t37
 have t127 := L.t127; have a127 := L.a127; have z127 := L.z127; have v127 := L.v127; have u127 := run_underlying L.t127
 have t3 := L.t3; have a3 := L.a3; have z3 := L.z3; have v3 := L.v3; have u3 := run_underlying L.t3
 have t9 := L.t9; have a9 := L.a9; have z9 := L.z9; have v9 := L.v9; have u9 := run_underlying L.t9
 have t5 := X.t5; have a5 := X.a5; have z5 := X.z5; have v5 := X.v5; have u5 := run_underlying X.t5
 show Calls Tryz.prog (Tryz.lays156_ren.f 169) _ _ _
 go_enter L.f169, Body.n169_ntmps Tryz.lays156_ren
 go_wp2
 go_region_o
 all_goals (go_wp2; go_ret; exact ⟨rfl, KB.drew w _⟩)
set_option maxHeartbeats 2000000 in
set_option maxRecDepth 100000 in
theorem str_room (b : Nat) (w : World) (g cap : Nat) (hc0 : cap ≠ 0) (c0 : w.cell? ⟨b, 1, none⟩ = some (.slice (some ⟨g, 0, none⟩) 0 cap)) :
   Calls Tryz.prog 23 #[.pointer (some ⟨b, 0, none⟩)] w fun e w' => e = .returned (.string ⟨#[]⟩) ∧ KB w w' (none) := by
 have c1 : w.drew.cell? ⟨b, 1, none⟩ = some (.slice (some ⟨g, 0, none⟩) 0 cap) := c0
 have hUS := Any.unsafeString_none (P := Tryz.prog) (ρ := Tryz.lays156_ren) { Tryz.lays156 with } Tryz.Builder_Extra_156
 have hSD : (Builtin.unsafeSliceData_ #[(Tryz.lays156_ren.t 37)] (Tryz.lays156_ren.t 127) #[.slice (some ⟨g, 0, none⟩) 0 cap]).run Tryz.prog w.drew = .ok (.pointer (some ⟨g, 0, none⟩)) w.drew :=
   Lib.run_unsafeSliceData_row _ _ _ _ _ _ hc0
 clear hc0
 have L : Go.Proofs.Lays.n169 Tryz.prog Tryz.lays156_ren := { Tryz.lays156 with }
 have X := Tryz.Builder_Extra_156
 have mixed := L.mixed
 have t72 := L.t72; have a72 := L.a72; have z72 := L.z72; have v72 := L.v72; have u72 := run_underlying L.t72
 have t70 := L.t70; have a70 := L.a70; have z70 := L.z70; have v70 := L.v70; have u70 := run_underlying L.t70
 have t37 := L.t37; have a37 := L.a37; have z37 := L.z37; have v37 := L.v37; have u37 := run_underlying L.t37
 have t127 := L.t127; have a127 := L.a127; have z127 := L.z127; have v127 := L.v127; have u127 := run_underlying L.t127
 have t3 := L.t3; have a3 := L.a3; have z3 := L.z3; have v3 := L.v3; have u3 := run_underlying L.t3
 have t9 := L.t9; have a9 := L.a9; have z9 := L.z9; have v9 := L.v9; have u9 := run_underlying L.t9
 have t5 := X.t5; have a5 := X.a5; have z5 := X.z5; have v5 := X.v5; have u5 := run_underlying X.t5
 show Calls Tryz.prog (Tryz.lays156_ren.f 169) _ _ _
 go_enter L.f169, Body.n169_ntmps Tryz.lays156_ren
 go_wp2
 go_region_o
 all_goals (go_wp2; go_ret; exact ⟨rfl, KB.drew w _⟩)
set_option maxHeartbeats 2000000 in
set_option maxRecDepth 100000 in
theorem str_noroom (b : Nat) (w : World) (g m : Nat) (hb : b < w.heap.size) (hg : w.shape? g = some (5, m)) (c0 : w.cell? ⟨b, 1, none⟩ = some (.slice (some ⟨g, 0, none⟩) 0 0)) :
   Calls Tryz.prog 23 #[.pointer (some ⟨b, 0, none⟩)] w fun e w' => e = .returned (.string ⟨#[]⟩) ∧ KB w w' (none) := by
 have c1 : w.drew.cell? ⟨b, 1, none⟩ = some (.slice (some ⟨g, 0, none⟩) 0 0) := c0
 have hUS := Any.unsafeString_none (P := Tryz.prog) (ρ := Tryz.lays156_ren) { Tryz.lays156 with } Tryz.Builder_Extra_156
 have hSD : (Builtin.unsafeSliceData_ #[(Tryz.lays156_ren.t 37)] (Tryz.lays156_ren.t 127) #[.slice (some ⟨g, 0, none⟩) 0 0]).run Tryz.prog w.drew = .ok (.pointer (some ⟨w.drew.heap.size, 0, none⟩)) (w.drew.alloc (.view ⟨g, 0, none⟩ (Tryz.lays156_ren.t 5))) :=
   Lib.run_unsafeSliceData_zero w.drew _ _ (Tryz.lays156_ren.t 5) Tryz.lays156.t127 ⟨g, 0, none⟩ 0 ((Tryz.lays156_ren.t 5), m) hg
 have c2 : (w.drew.alloc (.view ⟨g, 0, none⟩ (Tryz.lays156_ren.t 5))).cell? ⟨b, 1, none⟩ = some (.slice (some ⟨g, 0, none⟩) 0 0) :=
   (cell_of_heap (Lib.alloc_old w.drew _ b hb) _ _).trans c1
 have c3 : (w.alloc (.view ⟨g, 0, none⟩ (Tryz.lays156_ren.t 5))).drew.cell? ⟨b, 1, none⟩ = some (.slice (some ⟨g, 0, none⟩) 0 0) := c2
 have L : Go.Proofs.Lays.n169 Tryz.prog Tryz.lays156_ren := { Tryz.lays156 with }
 have X := Tryz.Builder_Extra_156
 have mixed := L.mixed
 have t72 := L.t72; have a72 := L.a72; have z72 := L.z72; have v72 := L.v72; have u72 := run_underlying L.t72
 have t70 := L.t70; have a70 := L.a70; have z70 := L.z70; have v70 := L.v70; have u70 := run_underlying L.t70
 have t37 := L.t37; have a37 := L.a37; have z37 := L.z37; have v37 := L.v37; have u37 := run_underlying L.t37
 have t127 := L.t127; have a127 := L.a127; have z127 := L.z127; have v127 := L.v127; have u127 := run_underlying L.t127
 have t3 := L.t3; have a3 := L.a3; have z3 := L.z3; have v3 := L.v3; have u3 := run_underlying L.t3
 have t9 := L.t9; have a9 := L.a9; have z9 := L.z9; have v9 := L.v9; have u9 := run_underlying L.t9
 have t5 := X.t5; have a5 := X.a5; have z5 := X.z5; have v5 := X.v5; have u5 := run_underlying X.t5
 show Calls Tryz.prog (Tryz.lays156_ren.f 169) _ _ _
 go_enter L.f169, Body.n169_ntmps Tryz.lays156_ren
 go_wp2
 go_region_o
 all_goals (go_wp2; go_ret; exact ⟨rfl, KB.dalloc w _ _⟩)
set_option maxHeartbeats 2000000 in
set_option maxRecDepth 100000 in
theorem str_row (b : Nat) (w : World) (g cap m : Nat) (l : S) (h0 : l ≠ []) (hc : l.length ≤ cap) (hm : l.length ≤ m) (hx : l.length ≤ 9223372036854775807) (hg : w.shape? g = some (5, m)) (hcl : ∀ j x, l[j]? = some x → w.cell? ((⟨g, 0, none⟩ : Addr).add j) = some (.int .u8 x.toNat)) (c0 : w.cell? ⟨b, 1, none⟩ = some (.slice (some ⟨g, 0, none⟩) l.length cap)) :
   Calls Tryz.prog 23 #[.pointer (some ⟨b, 0, none⟩)] w fun e w' => e = .returned (.string ⟨l.toArray⟩) ∧ KB w w' (some g) := by
 have c1 : w.drew.cell? ⟨b, 1, none⟩ = some (.slice (some ⟨g, 0, none⟩) l.length cap) := c0
 have hl0 : l.length ≠ 0 := by simpa using h0
 have hSD : (Builtin.unsafeSliceData_ #[(Tryz.lays156_ren.t 37)] (Tryz.lays156_ren.t 127) #[.slice (some ⟨g, 0, none⟩) l.length cap]).run Tryz.prog w.drew = .ok (.pointer (some ⟨g, 0, none⟩)) w.drew :=
   Lib.run_unsafeSliceData_row _ _ _ _ _ _ (by omega)
 have hUS : (Builtin.unsafeString_ #[(Tryz.lays156_ren.t 127), (Tryz.lays156_ren.t 3)] (Tryz.lays156_ren.t 9) #[.pointer (some ⟨g, 0, none⟩), .int .i64 l.length]).run Tryz.prog w.drew = .ok (.string ⟨l.toArray⟩) (w.drew.freeze ⟨g, 0, none⟩ l.length) :=
   Lib.run_unsafeString_row w.drew (Tryz.lays156_ren.t 127) (Tryz.lays156_ren.t 3) (Tryz.lays156_ren.t 9) (Tryz.lays156_ren.t 5) Tryz.lays156.t127 Tryz.Builder_Extra_156.cellsByte g m hg l h0 hm hx hcl
 have L : Go.Proofs.Lays.n169 Tryz.prog Tryz.lays156_ren := { Tryz.lays156 with }
 have X := Tryz.Builder_Extra_156
 have mixed := L.mixed
 have t72 := L.t72; have a72 := L.a72; have z72 := L.z72; have v72 := L.v72; have u72 := run_underlying L.t72
 have t70 := L.t70; have a70 := L.a70; have z70 := L.z70; have v70 := L.v70; have u70 := run_underlying L.t70
 have t37 := L.t37; have a37 := L.a37; have z37 := L.z37; have v37 := L.v37; have u37 := run_underlying L.t37
 have t127 := L.t127; have a127 := L.a127; have z127 := L.z127; have v127 := L.v127; have u127 := run_underlying L.t127
 have t3 := L.t3; have a3 := L.a3; have z3 := L.z3; have v3 := L.v3; have u3 := run_underlying L.t3
 have t9 := L.t9; have a9 := L.a9; have z9 := L.z9; have v9 := L.v9; have u9 := run_underlying L.t9
 have t5 := X.t5; have a5 := X.a5; have z5 := X.z5; have v5 := X.v5; have u5 := run_underlying X.t5
 show Calls Tryz.prog (Tryz.lays156_ren.f 169) _ _ _
 go_enter L.f169, Body.n169_ntmps Tryz.lays156_ren
 go_wp2
 go_region_o
 all_goals (go_wp2; go_ret; exact ⟨rfl, KB.dfreeze w g _⟩)
end Go.Proofs.YtffchapiaampmaaGreatDoor
namespace Go.Proofs.YtffchapiaampmaaGreatDoor
open Go.Av Go.RowKit Go.Shelf
theorem repE_by {w : World} {β : Gm} {O : Nat → Prop} : ∀ (xs : S) (vs : List Value), RepE w β O 1 (bytesE xs) vs → vs = xs.map fun x => Value.int .u8 x.toNat
 | [], vs, h => by simpa [bytesE, RepE] using h
 | x :: xs, vs, h => by
   have e : bytesE (x :: xs) = [.val (.int .u8 x.toNat)] :: bytesE xs := rfl
   rw [e] at h
   simp only [RepE, RepL, Rep] at h
   obtain ⟨v, r, rfl, _, ⟨u, t, rfl, rfl, rfl⟩, h2⟩ := h
   rw [repE_by xs r h2]
   rfl
theorem kb_good {w w' : World} {X : Nat → Prop} {β : Gm} {e0 : Ent} {f : Option Ent} {p : Option Nat} (hk : KB w w' p) (hp1 : p = none ∨ β 1 = some p) (hf0 : p ≠ none → f ≠ none) (hg : Av.Good X w β (hpL [some e0, f])) :
   Av.Good X w' β (hpL [some e0, none]) ∧ Frm w (Own X β (hpL [some e0, f])) w' (Own X β (hpL [some e0, none])) ∧ ∀ b, X b → w'.heap[b]? = w.heap[b]? := by
 have h1 : ∀ i e, hpL [some e0, none] i = some e → i = 0 ∧ hpL [some e0, f] i = some e := by
   intro i e h
   cases i with
   | zero => exact ⟨rfl, h⟩
   | succ i => cases i <;> simp [hpL] at h
 have hown : ∀ b, p = some b → Own X β (hpL [some e0, f]) b := by
   intro b hb
   rcases hp1 with h | h
   · rw [h] at hb; simp at hb
   · cases hf : f with
     | none => exact absurd hf (hf0 (by rw [hb]; simp))
     | some e => exact .inr ⟨1, e, rfl, by rw [h, hb]⟩
 have hnX : ∀ b, p = some b → ¬ X b := by
   intro b hb
   rcases hp1 with h | h
   · rw [h] at hb; simp at hb
   · cases hf : f with
     | none => exact absurd hf (hf0 (by rw [hb]; simp))
     | some e => exact hg.xdis 1 e b (by rw [hf]; rfl) (by rw [h, hb])
 have hfr : Frm w (Own X β (hpL [some e0, f])) w' (Own X β (hpL [some e0, none])) := by
   refine ⟨hk.os, hk.tape, hk.output, hk.size, fun b hb hO => hk.blk b hb (fun h => hO (hown b h)), fun b hb => ?_, hk.shape⟩
   rcases hb with h | ⟨i, e, hi, hb⟩
   · exact .inl (.inl h)
   · exact .inl (.inr ⟨i, e, (h1 i e hi).2, hb⟩)
 refine ⟨good_of hg hfr (GmExt.refl _) ?_ ?_ ?_, hfr, fun b hb => hk.blk b (hg.xlt b hb) (fun h => hnX b h hb)⟩
 · intro i j e e' b hi hj _ _
   rw [(h1 i e hi).1, (h1 j e' hj).1]
 · intro j e hj
   obtain ⟨rfl, h2⟩ := h1 j e hj
   refine .inr ⟨h2, fun b hb => hk.blk b (hg.lt h2 hb) (fun h => ?_)⟩
   rcases hp1 with h' | h'
   · rw [h'] at h; simp at h
   · cases hf : f with
     | none => exact absurd hf (hf0 (by rw [h]; simp))
     | some e1 => exact absurd (hg.inj 0 1 e e1 b h2 (by rw [hf]; rfl) hb (by rw [h', h])) (by decide)
 · intro j e b hj hb
   exact hg.xdis j e b (h1 j e hj).2 hb
theorem string23 (b : Bool) (out : S) (hl : out.length ≤ 2 ^ 46) : ACall Tryz.prog 23 [.ptr 0 2 0 0] [some (paE b 0 1 out.length), some (byE out)] (str out) [some (paE b 0 1 out.length), none] := by
 refine ⟨⟨_, Tryz.func23, rfl, rfl⟩, ?_⟩
 intro X w β vs hr hg hβ
 simp only [RepL, Rep] at hr
 obtain ⟨_, _, rfl, ⟨bk, hb, rfl⟩, rfl⟩ := hr
 have h0 : hpL [some (paE b 0 1 out.length), some (byE out)] 0 = some (paE b 0 1 out.length) := rfl
 have h1 : hpL [some (paE b 0 1 out.length), some (byE out)] 1 = some (byE out) := rfl
 obtain ⟨bk', c, fr, us, rest, hb', hheap, hfr, hc, hE⟩ : ∃ bk' c fr us rest, β 0 = some (some bk') ∧ w.heap[bk']? = some (.cells c 75 fr) ∧ (∀ o, o < c.size → fr.1 = fr.2 ∨ o < fr.1) ∧ c.toList = us ++ rest ∧ RepE w β (Own X β (hpL [some (paE b 0 1 out.length), some (byE out)])) 2 [[adA b 0, .osl 1 out.length 1]] us := by
   rcases hg.ent 0 _ h0 with ⟨_, h2⟩ | h
   · simp [paE] at h2
   · exact h
 rw [hb] at hb'
 simp only [Option.some.injEq] at hb'
 subst hb'
 simp only [RepE, RepL] at hE
 obtain ⟨_, _, rfl, _, ⟨v0, _, rfl, hv0, v1, _, rfl, hv1, rfl⟩, rfl⟩ := hE
 have hcell : w.cell? ⟨bk, 1, none⟩ = some v1 := by
   rw [cell_block hheap, ← Array.getElem?_toList, hc]; rfl
 have fin : ∀ (p : Option Nat), (p = none ∨ β 1 = some p) → Calls Tryz.prog 23 #[.pointer (some ⟨bk, 0, none⟩)] w (fun e w' => e = .returned (.string ⟨out.toArray⟩) ∧ KB w w' p) →
     Calls Tryz.prog 23 #[.pointer (some ⟨bk, 0, none⟩)] w fun e w' => ∃ v β', e = .returned v ∧ Rep w' β' (Own X β' (hpL [some (paE b 0 1 out.length), none])) (str out) v ∧
       Av.Good X w' β' (hpL [some (paE b 0 1 out.length), none]) ∧ Frm w (Own X β (hpL [some (paE b 0 1 out.length), some (byE out)])) w' (Own X β' (hpL [some (paE b 0 1 out.length), none])) ∧
       (∀ b, X b → w'.heap[b]? = w.heap[b]?) ∧ GmExt β β' ∧ ∀ i, [some (paE b 0 1 out.length), none].length ≤ i → β' i = none := by
   intro p hp hcall
   refine hcall.mono ?_
   rintro e w' ⟨rfl, hk⟩
   obtain ⟨g1, g2, g3⟩ := kb_good hk hp (fun _ => by simp) hg
   exact ⟨_, β, rfl, by simp [str, Rep], g1, g2, g3, GmExt.refl _, hβ⟩
 rw [show (0 * 2 + 0 : Nat) = 0 from rfl]
 simp only [Rep] at hv1
 rcases hv1 with ⟨hb1, rfl, hz⟩ | ⟨g, cap, T, m, hb1, rfl, hnc, hsh, hcm⟩
 · obtain rfl : out = [] := List.eq_nil_of_length_eq_zero hz
   exact fin none (.inl rfl) (str_nil bk w hcell)
 · obtain ⟨cu, fr2, vs, rest2, hh, hcu, hvs⟩ : ∃ cu fr2 vs rest2, w.heap[g]? = some (.cells cu 5 fr2) ∧ cu.toList = vs ++ rest2 ∧ RepE w β (Own X β (hpL [some (paE b 0 1 out.length), some (byE out)])) 1 (bytesE out) vs := by
     rcases hg.ent 1 _ h1 with ⟨h2, _⟩ | ⟨g', cu, fr2, vs, rest2, h2, h3, _, h4, h5⟩
     · rw [hb1] at h2; simp at h2
     · rw [hb1] at h2
       simp only [Option.some.injEq] at h2
       subst h2
       exact ⟨cu, fr2, vs, rest2, h3, h4, h5⟩
   have hsh2 : w.shape? g = some (5, cu.size) := by simp [World.shape?, hh]
   have hm : m = cu.size := by rw [hsh2] at hsh; simp at hsh; exact hsh.2.symm
   subst hm
   have hvv := repE_by out vs hvs
   subst hvv
   by_cases h0 : out = []
   · subst h0
     by_cases hc0 : cap = 0
     · subst hc0
       exact fin none (.inl rfl) (str_noroom bk w g cu.size (getElem?_lt hheap) hsh2 hcell)
     · exact fin none (.inl rfl) (str_room bk w g cap hc0 hcell)
   · refine fin (some g) (.inr hb1) (str_row bk w g cap cu.size out h0 hnc (by omega) (by omega) hsh2 ?_ hcell)
     intro j x hx
     have e1 : ((⟨g, 0, none⟩ : Addr).add j) = ⟨g, j, none⟩ := by
       unfold Addr.add
       by_cases hj : j = 0
       · subst hj; simp
       · simp [hj]
     rw [e1, cell_block hh, ← Array.getElem?_toList, hcu]
     have hlt : j < out.length := by
       rcases Nat.lt_or_ge j out.length with h | h
       · exact h
       · rw [List.getElem?_eq_none h] at hx; simp at hx
     rw [List.getElem?_append_left (by simpa using hlt), List.getElem?_map, hx]
     rfl
end Go.Proofs.YtffchapiaampmaaGreatDoor
namespace Go.Proofs.YtffchapiaampmaaGreatDoor
open Go.Av
def wdF (v : List Wd) : S := wdO v v.length
theorem wdO_cons (w : Wd) (b : List Wd) : ∀ i, i ≤ b.length → wdO (w :: b) (i + 1) = wdT w ++ (if i = 0 then [] else [32]) ++ wdO b i
 | 0, _ => by simp [wdO]
 | i + 1, h => by
   have ih := wdO_cons w b i (by omega)
   have hx := List.getElem?_eq_getElem (l := b) (i := i) (by omega)
   rw [wdO, ih]
   simp only [List.getElem?_cons_succ, hx, wdO, Nat.zero_lt_succ, if_true]
   rw [if_neg (by omega : ¬ i + 1 = 0)]
   by_cases h0 : i = 0
   · subst h0; simp [wdO]
   · rw [if_neg h0, if_pos (by omega)]; simp
theorem wdF_cons (w : Wd) (b : List Wd) : wdF (w :: b) = wdT w ++ (if b = [] then [] else [32]) ++ wdF b := by
 unfold wdF
 rw [List.length_cons, wdO_cons w b _ (Nat.le_refl _)]
 cases b <;> simp
theorem wdF_nil : wdF [] = [] := rfl
theorem wdF_app {b : List Wd} (hb : b ≠ []) : ∀ a : List Wd, wdF (a ++ b) = (a.flatMap fun w => wdT w ++ [32]) ++ wdF b
 | [] => by simp
 | w :: a => by
   rw [List.cons_append, wdF_cons, wdF_app hb a, if_neg (by simp [hb])]
   simp
theorem wdF_sp : ∀ {a : List Wd}, a ≠ [] → (a.flatMap fun w => wdT w ++ [32]) = wdF a ++ [32]
 | [], h => absurd rfl h
 | w :: a, _ => by
   rw [wdF_cons]
   cases ha : a with
   | nil => simp [wdF_nil]
   | cons x r =>
     have := wdF_sp (a := x :: r) (by simp)
     rw [List.flatMap_cons, this]; simp
theorem nuO_wd (v : List Int) : ∀ i, i ≤ v.length → nuO v i = wdO (v.map .i) i
 | 0, _ => rfl
 | i + 1, h => by
   have hx := List.getElem?_eq_getElem (l := v) (i := i) (by omega)
   rw [nuO, wdO, nuO_wd v i (by omega), List.getElem?_map, hx]
   simp only [List.getD, hx, Option.getD_some, Option.map_some, wdT]
theorem numF_wd (v : List Int) : numF v = wdF (v.map .i) := by
 unfold numF wdF
 rw [List.length_map]; exact nuO_wd v _ (Nat.le_refl _)
/-- The words of an event's line, of a row's, of a pair's. -/
def evW (e : Ev) : List Wd := [.i e.time, .i e.host, .i e.file, .i e.frm, .t (quF (textF e))]
def kyW (l : List S) : List Wd := l.map fun k => .t (quF k)
def errS : S := [101, 114, 114, 111, 114]
def rwW (sk : Int) (y : Rw) : List Wd := kyW y.key ++ y.vals.map .i ++ (if sk = 0 then [] else [.t errS, .i y.n])
def prW (x : Ev × Ev) : List Wd := [.i x.1.time, .i x.1.host, .i x.1.file, .i x.1.frm, .i x.2.time, .i x.2.host, .i x.2.file, .i x.2.frm]
theorem lineF_eq (v : List Wd) : lineF v = wdF v ++ [10] := rfl
theorem evW_line (e : Ev) : lineF (evW e) = evL e := by
 rw [lineF_eq, evL, numF_wd]
 have h1 : evW e = ([e.time, e.host, e.file, e.frm].map Wd.i) ++ [.t (quF (textF e))] := rfl
 rw [h1, wdF_app (by simp), wdF_sp (by simp)]
 have h2 : wdF [.t (quF (textF e))] = quF (textF e) := by simp [wdF_cons, wdF_nil, wdT]
 rw [h2]
theorem prW_line (x : Ev × Ev) : lineF (prW x) = prL x := by
 rw [lineF_eq, prL, numF_wd]; rfl
theorem kyW_flat (l : List S) : ((kyW l).flatMap fun w => wdT w ++ [32]) = l.flatMap fun k => quF k ++ [32] := by
 unfold kyW
 rw [List.flatMap_map]; rfl
theorem rwW_line (sk : Int) (y : Rw) (hv : y.vals ≠ []) : lineF (rwW sk y) = rowF sk y := by
 rw [lineF_eq, rowF, rwW]
 have hm : y.vals.map Wd.i ≠ [] := by simpa using hv
 by_cases h0 : sk = 0
 · rw [if_pos h0, if_pos h0, List.append_nil, wdF_app hm, kyW_flat, numF_wd]
 · rw [if_neg h0, if_neg h0, List.append_assoc, wdF_app (by simp), wdF_app (by simp), kyW_flat, wdF_sp hm, numF_wd, numF_wd]
   have h2 : wdF [.t errS, .i y.n] = errS ++ [32] ++ wdF ([y.n].map Wd.i) := by simp [wdF_cons, wdF_nil, wdT]
   rw [h2]
   simp [errS]
theorem rowF_len2 {sk : Int} {y : Rw} (h : RwP y) (hk : y.key.length ≤ 2 ^ 10) : (rowF sk y).length ≤ 2 ^ 40 + 2 ^ 37 := by
 have h1 := rowK_len h y.key.length
 rw [flat_all] at h1
 have h2 := numF_len y.vals
 have h3 := numF_len [y.n]
 have h4 : (numF y.vals).length ≤ 2 ^ 20 * (2 ^ 20 + 1) := Nat.le_trans h2 (Nat.mul_le_mul h.2.2.1 (Nat.le_refl _))
 have h5 : (y.key.flatMap fun k => quF k ++ [32]).length ≤ 2 ^ 33 := Nat.le_trans h1 (Nat.le_trans (Nat.mul_le_mul hk (Nat.le_refl _)) (by decide))
 simp only [List.length_cons, List.length_nil] at h3
 unfold rowF
 split <;> simp only [List.length_append, List.length_cons, List.length_nil] <;> omega
/-- All that is printed. -/
theorem ans_all {q : Qy} {es : List Ev} {rs : List Rw} {ps : List (Ev × Ev)} (h : AnOk q es rs ps) : es.flatMap evL ++ rs.flatMap (rowF q.sketch) ++ ps.flatMap prL = ansF q es rs ps := by
 unfold ansF
 by_cases h0 : q.kind = 0
 · rw [if_pos h0, h.r0 (by omega) (by omega), h.p0 (by omega)]; simp
 · rw [if_neg h0, h.e0 h0]
   by_cases h1 : q.kind = 1 ∨ q.kind = 2
   · rw [if_pos h1, h.p0 (by omega)]; simp
   · rw [if_neg h1, h.r0 (by omega) (by omega)]
     by_cases h3 : q.kind = 3
     · rw [if_pos h3]; simp
     · rw [if_neg h3, h.p0 h3]; simp
end Go.Proofs.YtffchapiaampmaaGreatDoor
