/-
  Part 21 of the proof that logtidelaw45.ConsoleAnswer returns true for every list of bytes and every text, and leaves both as they were.
-/
import Derived.Test.YtffchapiaampmaaGreatDoorA19
set_option linter.unusedSimpArgs false
set_option linter.unusedVariables false
namespace Go.Av
section
variable {P : Program} {N kk : Nat} {R : Res → Prop} {rv : List ResultVar} {st : List Fr} {n : Nat} {s : AS} {ops : Array Oper} {s0 : AS} {G : Prop} {k : Nat} {ts : List Touch} {rem : List Oper}
/-- How a caller's ids stand for a callee's. -/
def rhoI (ids : List Nat) (nb : Nat) (i : Nat) : Nat := if i < ids.length then ids.getD i 0 else nb + (i - ids.length)
theorem XO.o (ids : List Nat) {o : Oper} {g : FuncId} {xa : List AV} {hs : List Ent} {r : AV} {hs' : List (Option Ent)} (q : ACall P g xa (hs.map some) r hs') (hcal : oCal o = some g) (hgd : aGuard ops (lk s.env) o = some true)
   (hv : viewsA (lkh s.hp) [] (oArgs o (lk s.env)) (renL (rhoI ids (n + 8 * k)) xa)) (hnd : ids.Nodup) (hent : entsOb (lkh s.hp) (rhoI ids (n + 8 * k)) ids.length ids hs) (hl : hs.length ≤ hs'.length) (hl8 : hs'.length ≤ hs.length + 8) (hid : idLtL ids.length xa = true) (hne : ids ≠ [])
   (h : XO P n ops s0 G (k + 1) rem ⟨putE o.dst (ren (rhoI ids (n + 8 * k)) r) s.env, (hwOf (rhoI ids (n + 8 * k)) 0 hs').reverse ++ s.hp⟩ ((k, ids, (hwOf (rhoI ids (n + 8 * k)) 0 hs').map (·.1)) :: ts)) : XO P n ops s0 G k (o :: rem) s ts := by
 have hρ : (⟨ids, hs, xa, r, hs', [], none⟩ : Orc).ρ (n + 8 * k) = rhoI ids (n + 8 * k) := rfl
 have hx : aexec P (tabOf P) (some ⟨ids, hs, xa, r, hs', [], none⟩) (n + 8 * k) (lk s.env) (lkh s.hp) o.op = some (aCall P g (oArgs o (lk s.env)) (lkh s.hp) (n + 8 * k) ⟨ids, hs, xa, r, hs', [], none⟩) := by
   unfold oCal at hcal
   split at hcal
   · rename_i c hop
     split at hcal
     · rename_i g' hcl
       simp only [Option.some.injEq] at hcal
       subst hcal
       simp only [aexec, rawOf, aexec0, hop, hcl, evA, oArgs]
     · simp at hcal
   · simp at hcal
 have hob : (aCall P g (oArgs o (lk s.env)) (lkh s.hp) (n + 8 * k) ⟨ids, hs, xa, r, hs', [], none⟩).ob :=
   callOb_ob ⟨q, by rw [hρ]; exact hv, hnd, by rw [hρ]; exact hent, hl, hl8, trivial, trivial, hid⟩
 refine XO.runP (orc := fun _ => some ⟨ids, hs, xa, r, hs', [], none⟩) 1 (by simp) (rem' := rem) rfl (p := True ∧ _) ?_ ⟨trivial, hob⟩ h
 simp only [List.take_succ_cons, List.take_zero, arun, hgd, hx]
 have e1 : (aCall P g (oArgs o (lk s.env)) (lkh s.hp) (n + 8 * k) ⟨ids, hs, xa, r, hs', [], none⟩).v = ren (rhoI ids (n + 8 * k)) r := by rw [aCall_v, hρ]
 have e2 : (aCall P g (oArgs o (lk s.env)) (lkh s.hp) (n + 8 * k) ⟨ids, hs, xa, r, hs', [], none⟩).hw = hwOf (rhoI ids (n + 8 * k)) 0 hs' := by rw [aCall_hw, hρ]
 have e3 : (aCall P g (oArgs o (lk s.env)) (lkh s.hp) (n + 8 * k) ⟨ids, hs, xa, r, hs', [], none⟩).hr = ids := by rw [aCall_hr]; simp
 rw [e1, e2]
 simp only [touch, e2, e3]
 cases ids with
 | nil => exact absurd rfl hne
 | cons a l => rfl
/-- A function that takes owned things: what it returns, exactly. -/
theorem ACall.go {g : FuncId} {as : List AV} {hs : List (Option Ent)} {r : AV} {hs' : List (Option Ent)} (N k : Nat) {fn : Func} {c : Code} (hf : P.funcs[g]? = some fn) (hb : fn.body = some c) (hname : (fn.name == "runtime.NumGoroutine") = false) (hN : fn.ntmps = N) (has : as.length ≤ N) (hk : hs.length = k)
   {rv : List ResultVar} (hrv : fn.results = rv.toArray) {h' : Hd} {st' : List Fr} (h : XH P N k (fun x => x = (r, hs')) rv h' st' k ⟨initE 0 as, initH 0 hs⟩) (hn : navF 60 (.c c) [] = (h', st') := by rfl) : ACall P g as hs r hs' := by
 obtain ⟨x, h1, h4⟩ := xacall (R := fun x => x = (r, hs')) N k hf hb hname hN has hk hrv (navF_ok (h := .c c) (by rw [hn]; exact h))
 subst h1
 exact h4
theorem XB.ret (ids : List (Option Nat)) (D : List Nat) {r : AV} {hs' : List (Option Ent)} {l : List AV} {p : Prop} (hres : resList (tabOf P) s rv = some (l, p) := by (try simp only [resList, go_sem, seval]); rfl) (hids : IdsOk ids D kk (hs'.zipIdx.map fun x => (x.2, x.1)))
   (hl : ids.length = hs'.length := by rfl) (hwk : wk (lkh s.hp) ids D (resOf l) r) (hwh : wkHp (lkh s.hp) ids D (hs'.zipIdx.map fun x => (x.2, x.1))) (hp : p := by (repeat' (with_reducible refine And.intro ?_ ?_)) <;> first | with_reducible exact True.intro | omega | exact isByteE _ | with_reducible assumption | decide | (simp; done) | (simp; omega) | (simp [*]; done) | (simp [*]; omega)) :
   XH P N kk (fun x => x = (r, hs')) rv (.c .ret) st n s :=
 XW.ret r hs' rfl ⟨.inl rfl, l, p, ids, D, hres, hp, hids, hl, hwk, hwh⟩
theorem XB.end (ids : List (Option Nat)) (D : List Nat) {r : AV} {hs' : List (Option Ent)} {l : List AV} {p : Prop} (hres : resList (tabOf P) s rv = some (l, p) := by (try simp only [resList, go_sem, seval]); rfl) (hids : IdsOk ids D kk (hs'.zipIdx.map fun x => (x.2, x.1)))
   (hl : ids.length = hs'.length := by rfl) (hwk : wk (lkh s.hp) ids D (resOf l) r) (hwh : wkHp (lkh s.hp) ids D (hs'.zipIdx.map fun x => (x.2, x.1))) (hp : p := by (repeat' (with_reducible refine And.intro ?_ ?_)) <;> first | with_reducible exact True.intro | omega | exact isByteE _ | with_reducible assumption | decide | (simp; done) | (simp; omega) | (simp [*]; done) | (simp [*]; omega)) :
   XH P N kk (fun x => x = (r, hs')) rv .n [] n s :=
 XQ.ret r hs' rfl ⟨.inr rfl, l, p, ids, D, hres, hp, hids, hl, hwk, hwh⟩
end
end Go.Av
