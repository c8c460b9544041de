/-
 It is proved that logtidelaw41.PlanSkipsOnlyWhatCannotMatch returns true for every list of bytes, and leaves it as it was: the tied card; no condition of our own.
-/
import Derived.Test.YtpkhodjlnodagaaGreatDoorB41
import Derived.Test.YtpkhodjlnodagaaGreatDoorCards
import Derived.Test.YtpkhodjlnodagaaGreatDoorTie
import Derived.Below
import Derived.Carry
import Derived.WalkKit
import Derived.ProofKit
import Derived.OpenShut
import Derived.ShutString
import Derived.LaidMore
import Derived.Stop.Joined
import Derived.SevenTiedAt
import Derived.Stop.LaidErr
set_option linter.unusedSimpArgs false
set_option linter.unusedVariables false
set_option linter.unusedSectionVars false
namespace Go.Proofs.YtpkhodjlnodagaaGreatDoor.planSkipsOnlyWhatCannotMatch
open Go.ChangeShapes Go.WideShapes Go.ChangeAt Go.RowKit Go.Av
open Go.ChangeMaps (open_string shut_string)
theorem own : ownKnob Tryz.prog.godebug = none := by kernel_rfl
theorem laidOut : laidOutB Tryz.prog = true := by kernel_rfl
theorem cells5 : Tryz.prog.cellsOf 5 = 1 := by kernel_rfl
def O0 : Nat → Prop := Own (fun _ => False) β0 (hpL [])
theorem O0_no (b : Nat) : ¬ O0 b := by
 rintro (h | ⟨i, e, h, _⟩)
 · exact h
 · simp [hpL] at h
theorem walk (cs : List UInt8) (hc : cs.length < 2 ^ 63) (v : Value) (w : World) (hr : Rep w β0 O0 (.sl 1 (Ab cs)) v) (hlw : L5 w) :
   Calls Tryz.prog 4 #[v] w fun e w' => e = .returned (.bool true) ∧ Below w.heap.size w w' := by
 obtain ⟨_, rfl, _, h0⟩ := law4 cs hc
 unfold Ad at h0
 obtain ⟨_, h⟩ := h0
 have hg : Go.Av.Good (fun _ => False) w β0 (hpL []) := ⟨fun i j e e' b h => by simp [hpL] at h, fun i e h => by simp [hpL] at h, fun i e b h => by simp [hpL] at h, fun b h => h.elim, hlw, fun b hb => ⟨by obtain ⟨_, _, h0⟩ := hlw; obtain rfl : b = 0 := hb; exact (Array.getElem?_eq_some_iff.1 h0).1, O0_no b⟩⟩
 refine (h (fun _ => False) w β0 [v] ⟨v, [], rfl, hr, rfl⟩ hg (fun _ _ => rfl)).mono ?_
 rintro e w' ⟨u, β', rfl, hu, _, hf, _⟩
 have hu' : u = .bool true := by simpa only [B, Rep] using hu
 have hb : Below w.heap.size w w' := ⟨hf.os, hf.tape, hf.output, hf.size, fun k hk => hf.same k hk (O0_no k)⟩
 exact ⟨by rw [hu'], hb⟩
theorem rep_nil (w : World) : Rep w β0 O0 (.sl 1 (Ab [])) (.slice none 0 0) := by
 simp [Rep, Ab]
theorem rep_ints {w : World} {b off len cap : Nat} {zs : List Int} (hl : len ≤ cap) (hz : zs.length = cap) (hb : b < w.heap.size) (hcell : ∀ i, i < zs.length → w.cell? ⟨b, off + i, none⟩ = some (.int .u8 (zs.getD i 0))) (hw : ∀ n ∈ zs, (Lit.int .u8 n).wf = true) :
   ∃ cs : List UInt8, cs.length = len ∧ Rep w β0 O0 (.sl 1 (Ab cs)) (.slice (some ⟨b, off, none⟩) len cap) := by
 refine ⟨(zs.take len).map fun z => UInt8.ofNat z.toNat, by simp; omega, ?_⟩
 have hlen : (Ab ((zs.take len).map fun z => UInt8.ofNat z.toNat)).length = len := by simp; omega
 simp only [Rep]
 refine .inr ⟨b, off, cap, ((zs.take len).map fun z => UInt8.ofNat z.toNat).map (fun c => .int .u8 c.toNat), by rw [hlen], by rw [hlen]; exact hl, hb, O0_no b, ?_, JX _⟩
 intro j v hv
 rw [List.getElem?_map, List.getElem?_map] at hv
 by_cases hj : j < len
 · have hj2 : j < zs.length := by omega
   have hx : (zs.take len)[j]? = some zs[j] := by rw [List.getElem?_take, if_pos hj, List.getElem?_eq_getElem hj2]
   rw [hx] at hv
   simp only [Option.map_some, Option.some.injEq] at hv
   have hb := Go.bounds_u8 (hw _ (List.getElem_mem hj2))
   have hc := hcell j hj2
   rw [show zs.getD j 0 = zs[j] by simp [List.getD, hj2]] at hc
   rw [hc, ← hv]
   simp only [Option.some.injEq, Value.int.injEq, true_and]
   simp; omega
 · rw [List.getElem?_eq_none (by simp; omega)] at hv
   simp at hv
/-- What the condition says of the one variable that is read. -/
theorem lw_of {w : World} (h : laidMetH Tryz.prog Rows.planSkipsOnlyWhatCannotMatchRow.laid w) : L5 w := by
 rw [MakeChecks.laidMetH_plain _ _ _ (by kernel_rfl)] at h
 obtain ⟨ps, ⟨g, t, cs, fuel, p, q, hg, ht, hvar, hd, _, _⟩, _⟩ := h
 have hg' : Tryz.prog.globalNamed "logtide/match.whole" = some 0 := by kernel_rfl
 obtain rfl := Option.some.inj (hg'.symm.trans hg)
 have ht' : (Tryz.prog.globals[0]?).map (·.type) = some 192 := by kernel_rfl
 obtain rfl := Option.some.inj (ht'.symm.trans ht)
 have hc3 : Tryz.prog.cellsOf 3 = 1 := by kernel_rfl
 have hc192 : Tryz.prog.cellsOf 192 = 2 := by kernel_rfl
 have hcs : cs.toList = Jy := by
   cases fuel with
   | zero => simp [DataW.trod] at hd
   | succ fuel =>
     simp only [DataW.trod, Tryz.underlying192, hc192] at hd
     split at hd
     · rename_i hl
       obtain ⟨a, b, hab⟩ : ∃ a b, cs.toList = [a, b] := by
         match hx : cs.toList, hl with
         | [a, b], _ => exact ⟨a, b, rfl⟩
       rw [hab] at hd ⊢
       simp only [List.mapM_cons, List.mapM_nil, List.drop_zero, List.drop_succ_cons, List.take_succ_cons, List.take_zero, hc3, Rows.laid_logtide_match_whole] at hd
       cases h0 : DataW.trod (fun _ => ()) Tryz.prog w 0 (fun _ => true) false fuel 3 [a] with
       | none => simp [h0] at hd
       | some x =>
         cases h1 : DataW.trod (fun _ => ()) Tryz.prog w 0 (fun _ => true) false fuel 3 [b] with
         | none => simp [h0, h1] at hd
         | some y =>
           obtain ⟨m, hm, rfl, _⟩ := DataW.trod_int Tryz.underlying3 h0
           obtain ⟨n, hn, rfl, _⟩ := DataW.trod_int Tryz.underlying3 h1
           simp [h0, h1] at hd
           simp only [List.cons.injEq, and_true] at hm hn
           rw [hm, hn, hd.1.1, hd.1.2]
           rfl
     · cases hd
 unfold World.var? at hvar
 rw [hg'] at hvar
 simp only [Option.bind_some] at hvar
 cases h0 : w.heap[0]? with
 | none => rw [h0] at hvar; cases hvar
 | some b =>
   rw [h0] at hvar
   cases b <;> first | (simp at hvar; done) | skip
   simp only [Option.some.injEq] at hvar
   subst hvar
   exact ⟨_, _, by rw [h0, ← hcs]⟩
/-- The door's own heap meets the condition. -/
theorem door_met (os : Os) (args : Array Value) : laidMetH Tryz.prog Rows.planSkipsOnlyWhatCannotMatchRow.laid ((World.doorLaid Tryz.prog 5 os).forCall (fun _ _ => 0) ⟨#[], args, []⟩).memory :=
 laidMetH_of_parts3 (fuel := 8) (laidMet_of_run' 8 (by kernel_rfl) (by kernel_rfl)) (by kernel_rfl) (by kernel_rfl)
set_option maxRecDepth 100000 in
theorem lifted (os : Os) (started : os.Started) (H : Type) (enc : TypeId × Value → H) :
   ReturnsInHanded {} Tryz.checked os 4 .any (fun w args => (Rows.planSkipsOnlyWhatCannotMatchSpec.pre enc Tryz.prog Tryz.f4 [] false w args ∧ laidMetH Tryz.prog Rows.planSkipsOnlyWhatCannotMatchRow.laid w) ∧ sizedMet enc Tryz.prog Tryz.f4 (OpenSpec.ofChange Rows.planSkipsOnlyWhatCannotMatchSpec) false w args)
     (Rows.planSkipsOnlyWhatCannotMatchSpec.post enc Tryz.prog Tryz.f4 false true false false) := by
 refine returnsInHanded_of_change_and (C := Tryz.checked) (X := fun w _ => laidMetH Tryz.prog Rows.planSkipsOnlyWhatCannotMatchRow.laid w) (fun _ _ _ hh h => h.of_heap hh) own started (by kernel_rfl) Tryz.func4
   (ChangeSpec.witness_shaped (enc := enc) (C := Tryz.checked) (os := os) (X := fun w _ => laidMetH Tryz.prog Rows.planSkipsOnlyWhatCannotMatchRow.laid w) false (World.doorLaid Tryz.prog 5 os) #[.slice none 0 0] 8 rfl (World.shaped_of_RefB (by kernel_rfl) (by kernel_rfl)) (by kernel_rfl) (by kernel_rfl) (by kernel_rfl) (door_met os _)) ?_
 intro W base args ds gs before hval0 hW _ _ hL _
 have hval : ∀ (j : Nat) t v, Tryz.f4.params[j]? = some t → args[j]? = some v → Value.okWide Tryz.prog W .any base t v := hval0
 have hW' := hW
 obtain ⟨p, q, hA0, hV, rfl, hfz, hnd⟩ := hW
 have hA : DataW.TrodAll enc Tryz.prog W 0 (fun _ => true) true Tryz.f4.params.toList args.toList ds p := hA0
 rw [Tryz.params4] at hA hval
 obtain ⟨v0, vs0, d0, ds0, p0, q0, hargs, rfl, rfl, h0, r0⟩ := trodAll_cons hA
 obtain ⟨rfl, rfl, rfl⟩ := trodAll_nil r0
 obtain rfl : args = #[v0] := by cases args; simp_all
 obtain ⟨rfl, rfl⟩ := trodVars_none hV
 have h0k := h0
 have hlt : ∀ x ∈ p0, x.block < W.heap.size := fun x hx => by simpa using hW'.lt x (by simpa using hx)
 have hv22 := hval 0 22 v0 rfl rfl
 obtain ⟨a0, len, cap, rfl⟩ := okWide_slice Tryz.underlying22 hv22
 obtain ⟨cs, hcl, hrep⟩ : ∃ cs : List UInt8, cs.length < 2 ^ 63 ∧ Rep W β0 O0 (.sl 1 (Ab cs)) (.slice a0 len cap) := by
   obtain ⟨fuel0, hf⟩ := h0
   rcases open_ints Tryz.underlying22 Tryz.underlying5 cells5 hf with ⟨hcs, hx⟩ | ⟨a, len', cap', zs, hcs, _, hl, hm, hz, hx, hcell, hwz⟩
   · simp [Value.cells] at hcs
     obtain ⟨rfl, rfl, rfl⟩ := hcs
     exact ⟨[], by simp, rep_nil W⟩
   · simp [Value.cells] at hcs
     obtain ⟨rfl, rfl, rfl⟩ := hcs
     simp only [if_true] at hz
     have hh : W.has Tryz.prog .any base a 5 cap := by
       have := hv22
       simp only [Value.okWide, Tryz.underlying22, Cell.okWide, Cell.ok] at this
       exact this.2.2
     obtain ⟨_, hsp, row, cells, hsh, _⟩ := hh
     obtain ⟨b, off, spot⟩ := a
     simp only at hsp
     subst hsp
     have hb : b < W.heap.size := by
       unfold World.shape? at hsh
       rcases Nat.lt_or_ge b W.heap.size with h | h
       · exact h
       · rw [Array.getElem?_eq_none h] at hsh; simp at hsh
     obtain ⟨cs, h1, h2⟩ := rep_ints (off := off) hl hz hb (fun i hi => by rw [← Go.WideShapes.add_plain]; exact hcell i hi) hwz
     exact ⟨cs, by unfold maxLen at hm; omega, h2⟩
 clear hA0 hval0
 refine (walk cs hcl _ W hrep (lw_of hL)).mono fun e W' ⟨he, hg⟩ => ?_
 subst he
 exact ⟨_, rfl, _, _, _, [], _, [], hW', trodAll_mk1 (shut_bool Tryz.underlying4 _), (trodAll_cons_mk (Below.trod laidOut (by kernel_rfl) (of_decide_eq_true (by kernel_rfl)) h0k hg hlt) trodAll_mk0), rfl, hg.frame _, fun h => by cases h⟩
theorem over : Rows.planSkipsOnlyWhatCannotMatchRow.holds Tryz.pinned (OpenSpec.ofChange Rows.planSkipsOnlyWhatCannotMatchSpec) :=
 OpenClaim.holds_of_wide 4 Tryz.f4 rfl rfl rfl rfl rfl rfl rfl ⟨rfl, rfl, rfl, rfl, rfl⟩ rfl rfl rfl rfl rfl (by kernel_rfl) Tryz.func4 (by kernel_rfl)
   (of_decide_eq_true (by kernel_rfl)) (by unfold Func.isWrapper; first | (rw [if_pos (by decide +kernel)]; kernel_rfl) | (rw [if_neg (by decide +kernel)]; exact ⟨rfl, rfl⟩))
   (fun os started H enc _ => lifted os started H enc)
theorem proved : Rows.PlanSkipsOnlyWhatCannotMatchCardSaid :=
 Claim7.holds_tied_plain_at .later [] [.data] true (true, "e3e0a8c238eb144b3e8ad73de3f8bcc729694d3dde97986b0e5d363ef2f67737") false
   over (fun _ h => by cases h) (by kernel_rfl) (fun _ h => by cases h) planSkipsOnlyWhatCannotMatch_row_tie rfl ⟨rfl, rfl⟩ (by kernel_rfl) rfl
   (fun f fn hf hfn => by
     obtain rfl : f = 4 := Option.some.inj ((show Tryz.prog.funcNamed "logtide/logtidelaw41.PlanSkipsOnlyWhatCannotMatch" = some 4 by kernel_rfl).symm.trans hf) |>.symm
     obtain rfl : fn = Tryz.f4 := (Option.some.inj (Tryz.func4.symm.trans hfn)).symm
     exact ⟨by kernel_rfl, fun j t ht => by
       rw [Tryz.params4] at ht
       have hm : t ∈ [22] := by simpa using Array.mem_of_getElem? ht
       have hall : ([22].all fun u => !Tryz.prog.wantsStandIn u) = true := by kernel_rfl
       exact (show Tryz.prog.wantsStandIn t = false by simpa using List.all_eq_true.1 hall t hm)⟩)
   (by kernel_rfl)
end Go.Proofs.YtpkhodjlnodagaaGreatDoor.planSkipsOnlyWhatCannotMatch
