/-
  Part 47 of the proof that logtidelaw45.ConsoleAnswer returns true for every list of bytes and every text, and leaves both as they were.
-/
import Derived.Test.YtffchapiaampmaaGreatDoorA46
set_option linter.unusedSimpArgs false
set_option linter.unusedVariables false
namespace Go.Proofs.YtffchapiaampmaaGreatDoor
open Go.Av
set_option maxHeartbeats 4000000
set_option maxRecDepth 10000
attribute [local irreducible] XH XO PCall ACall
theorem tk_step (ls : List Ln) (i : Nat) (x : Ln) (h : ls[i]? = some x) : (ls.take (i + 1)).map (·.text) = (ls.take i).map (·.text) ++ [x.text] := by
 rw [List.take_add_one, h]; simp
theorem txTo_all (ls : List Ln) : Lib.join (ls.map (·.text)) [10] = txTo ls ls.length := by
 rw [txTo_join ls ls.length (Nat.le_refl _), List.take_length]
theorem text22 (e : Ev) (hn : e.lines.length ≤ 40) (ht : ∀ x ∈ e.lines, x.text.length ≤ 2000) : PCall Tryz.prog 22 [.agg (evC e)] (fun r => r = str (textF e)) := by
 have hjl := txTo_len e.lines ht e.lines.length
 have hjm : (txTo e.lines e.lines.length).length ≤ 140737488355328 := Nat.le_trans hjl (Nat.le_trans (Nat.mul_le_mul hn (Nat.le_refl _)) (by decide))
 all_goals refine PCall.go 21 (fn := Tryz.f22) Tryz.func22 rfl rfl rfl (by simp) rfl ?_
 all_goals try refine XW.ra0 0 [1] ?_
 all_goals try refine XW.ra0 1 [1, 3] ?_
 all_goals try refine XW.ra0 2 [3, 7, 8, 9] ?_
 all_goals try (refine XW.lp 1 (fun s : Nat × List S => ⟨[(3, .osl 0 s.2.length 1), (7, .sl 3 (lnE e.lines)), (8, I (e.lines.length : Nat)), (9, I (s.1 : Nat))], [(0, some ⟨9, 1, strE s.2⟩)]⟩) (fun s => s.1 ≤ e.lines.length ∧ s.2 = (e.lines.take s.1).map (·.text)) (fun s => e.lines.length - s.1) (0, []) (mkWk [none] [] (by simp [wkEnv, lk, lkh, I, str, B, U8, U64, U32, lnE, lnC, evC, nilV, strE]; first | done | omega) (by simp [wkHp, wkHp1, wkEnt, lkh, I, str, lnE, lnC, evC, nilV, strE])) ?_ (h0 := ⟨by simp, by simp⟩); rintro ⟨i, out⟩ hI0 Y0 hY0; skip)
 all_goals try refine XW.ra0 3 [3, 7, 8, 9, 10] ?_
 all_goals try first | refine XW.cT 10 ?_ | refine XW.cF 10 ?_ | refine XW.cB 10 (fun c10 => ?_) (fun c10 => ?_)
 all_goals try (refine XW.at 4 ?_; obtain ⟨m1, m2⟩ := hI0; (try simp only at m1 m2); have hi := ltC c10; obtain ⟨x, hx, hxm⟩ := getx e.lines i hi; have hst := tk_step e.lines i x hx; rw [← m2] at hst)
 all_goals try refine XW.ra1 4 [3, 5, 7, 8, 9] ?_
 all_goals try refine XW.ra0 5 [3, 7, 8, 9] ?_
 all_goals try refine XW.ra2 6 [3, 7, 8, 9] ?_
 all_goals try (refine XH.le ?_; first | (exact hY0 (i + 1, out ++ [x.text]) (by (refine ⟨?_, ?_⟩ <;> first | (simp only; omega) | (simp only; rw [hst]))) (by first | omega | (simp; done) | (simp; omega)) _ _ (mkWk [some 0] [] (by simp [wkEnv, lk, lkh, I, str, B, U8, U64, U32, lnE, lnC]; first | done | omega) (by simp [wkHp, wkHp1, wkEnt, lkh, I, str, lnE, lnC]))))
 all_goals try (refine XW.at 7 ?_; obtain ⟨m1, m2⟩ := hI0; (try simp only at m1 m2); have h9 := geC c10; obtain rfl : i = e.lines.length := (by omega); have hol : out.length = e.lines.length := (by rw [m2]; simp); have hfin : str (Lib.join out [10]) = str (textF e) := (by rw [m2, List.take_length, txTo_all]; unfold textF; exact rfl); refine XW.wkr 7 0 ⟨[(3, .sl 1 (strE out))], []⟩ ⟨[], [0], ⟨by simp [srcIds], by simp [srcIds], by simp⟩, by simp, by first | (simp [wkEnv, lk, lkh, I, str, B, strE_len, nilV]; done) | (simp [wkEnv, lk, lkh, I, str, B, strE_len, nilV]; omega), by first | (simp [wkHp, wkHp1, wkEnt, lkh]; done) | simp [wkHp, wkHp1, wkEnt, lkh, I, str, B, nilV, evC]⟩ ?_)
 all_goals try refine XW.rS 7 ?_
 all_goals try refine XO.r0 1 ?_
 all_goals try (refine XO.p (PCall.of (join47 out [10] (by omega) (by rw [m2, List.take_length, txTo_all]; exact hjm))) ?_; rintro _ rfl)
 all_goals try refine XO.r0 1 ?_
 all_goals try refine XO.done [2] ?_
 all_goals try (refine XW.atr ?_; first | (exact XP.rs hfin))
end Go.Proofs.YtffchapiaampmaaGreatDoor
