/-
  It is proved that logtidelaw45.ConsoleAnswer returns true for every list of bytes and every text, and leaves both as they were: the tied card; no condition of our own.
-/
import Derived.Test.YtffchapiaampmaaGreatDoorA49
import Derived.Test.YtffchapiaampmaaGreatDoorCards
import Derived.Test.YtffchapiaampmaaGreatDoorTie
import Derived.Below
import Derived.Carry
import Derived.WalkKit
import Derived.ProofKit
import Derived.OpenShut
import Derived.ShutString
import Derived.LaidMore
import Derived.Stop.Joined
import Derived.SevenTiedAt
import Derived.Stop.LaidErr
import Derived.Lib.LaidTab
set_option linter.unusedSimpArgs false
set_option linter.unusedVariables false
namespace Go.Proofs.YtffchapiaampmaaGreatDoor.consoleAnswer
open Go.ChangeShapes Go.WideShapes Go.ChangeAt Go.RowKit Go.Av
open Go.ChangeMaps (open_string shut_string)
theorem own : ownKnob Tryz.prog.godebug = none := by kernel_rfl
theorem laidOut : laidOutB Tryz.prog = true := by kernel_rfl
theorem cells5 : Tryz.prog.cellsOf 5 = 1 := by kernel_rfl
def O0 : Nat → Prop := Own (fun _ => False) β0 (hpL [])
theorem O0_no (b : Nat) : ¬ O0 b := by
 rintro (h | ⟨i, e, h, _⟩)
 · exact h
 · simp [hpL] at h
theorem walk (cs : List UInt8) (hc : cs.length < 2 ^ 63) (t : ByteArray) (ht : t.size < 2 ^ 63) (v : Value) (w : World) (hr : Rep w β0 O0 (.sl 1 (bytesE cs)) v) (hlw : lwOk w) :
   Calls Tryz.prog 3 #[v, .string t] w fun e w' => e = .returned (.bool true) ∧ Below w.heap.size w w' := by
 have h0 := consoleAnswer3 cs hc t.data.toList (by rw [Array.length_toList]; exact ht)
 unfold ACall at h0
 obtain ⟨_, h⟩ := h0
 have hg : Go.Av.Good (fun _ => False) w β0 (hpL []) := ⟨fun i j e e' b h => by simp [hpL] at h, fun i e h => by simp [hpL] at h, fun i e b h => by simp [hpL] at h, fun b h => h.elim, hlw, fun b hb => ⟨by obtain ⟨_, _, h0⟩ := hlw; obtain rfl : b = 0 := hb; exact (Array.getElem?_eq_some_iff.1 h0).1, O0_no b⟩⟩
 refine (h (fun _ => False) w β0 [v, .string t] ⟨v, [.string t], rfl, hr, _, [], rfl, rfl, rfl⟩ hg (fun _ _ => rfl)).mono ?_
 rintro e w' ⟨u, β', rfl, hu, _, hf, _⟩
 have hu' : u = .bool true := by simpa only [B, Rep] using hu
 have hb : Below w.heap.size w w' := ⟨hf.os, hf.tape, hf.output, hf.size, fun k hk => hf.same k hk (O0_no k)⟩
 exact ⟨by rw [hu'], hb⟩
theorem rep_nil (w : World) : Rep w β0 O0 (.sl 1 (bytesE [])) (.slice none 0 0) := by
 simp [Rep, bytesE]
theorem rep_ints {w : World} {b off len cap : Nat} {zs : List Int} (hl : len ≤ cap) (hz : zs.length = cap) (hb : b < w.heap.size) (hcell : ∀ i, i < zs.length → w.cell? ⟨b, off + i, none⟩ = some (.int .u8 (zs.getD i 0))) (hw : ∀ n ∈ zs, (Lit.int .u8 n).wf = true) :
   ∃ cs : List UInt8, cs.length = len ∧ Rep w β0 O0 (.sl 1 (bytesE cs)) (.slice (some ⟨b, off, none⟩) len cap) := by
 refine ⟨(zs.take len).map fun z => UInt8.ofNat z.toNat, by simp; omega, ?_⟩
 have hlen : (bytesE ((zs.take len).map fun z => UInt8.ofNat z.toNat)).length = len := by simp; omega
 simp only [Rep]
 refine .inr ⟨b, off, cap, ((zs.take len).map fun z => UInt8.ofNat z.toNat).map (fun c => .int .u8 c.toNat), by rw [hlen], by rw [hlen]; exact hl, hb, O0_no b, ?_, bytes_rep _⟩
 intro j v hv
 rw [List.getElem?_map, List.getElem?_map] at hv
 by_cases hj : j < len
 · have hj2 : j < zs.length := by omega
   have hx : (zs.take len)[j]? = some zs[j] := by rw [List.getElem?_take, if_pos hj, List.getElem?_eq_getElem hj2]
   rw [hx] at hv
   simp only [Option.map_some, Option.some.injEq] at hv
   have hb := Go.bounds_u8 (hw _ (List.getElem_mem hj2))
   have hc := hcell j hj2
   rw [show zs.getD j 0 = zs[j] by simp [List.getD, hj2]] at hc
   rw [hc, ← hv]
   simp only [Option.some.injEq, Value.int.injEq, true_and]
   simp; omega
 · rw [List.getElem?_eq_none (by simp; omega)] at hv
   simp at hv
/-- What the condition says of the one table that is read. -/
theorem lw_of {w : World} (h : laidMetH Tryz.prog Rows.consoleAnswerRow.laid w) : lwOk w := by
 rw [MakeChecks.laidMetH_plain _ _ _ (by kernel_rfl)] at h
 have h3 : Lib.TabIs Tryz.prog w "internal/strconv.uint64pow10" .u64 pow10 := Lib.tabIs_of_head (g := 0) (t := 213) (e := 147) (n := 20) (by kernel_rfl) (by kernel_rfl) (by kernel_rfl) (by kernel_rfl) (by kernel_rfl) (by kernel_rfl) h.tail.tail
 have hg : Tryz.prog.globalNamed "internal/strconv.uint64pow10" = some 0 := by kernel_rfl
 unfold Lib.TabIs World.var? at h3
 rw [hg] at h3
 simp only [Option.bind_some] at h3
 cases h0 : w.heap[0]? with
 | none => rw [h0] at h3; cases h3
 | some b =>
   rw [h0] at h3
   cases b <;> first | (simp at h3; done) | skip
   simp only [Option.some.injEq] at h3
   subst h3
   exact ⟨_, _, h0⟩
/-- The door's own heap meets the condition. -/
theorem door_met (os : Os) (args : Array Value) : laidMetH Tryz.prog Rows.consoleAnswerRow.laid ((World.doorLaid Tryz.prog 24 os).forCall (fun _ _ => 0) ⟨#[], args, []⟩).memory :=
 laidMetH_of_parts3 (fuel := 8) (laidMet_of_run' 8 (by kernel_rfl) (by kernel_rfl)) (by kernel_rfl) (by kernel_rfl)
set_option maxRecDepth 100000 in
theorem lifted (os : Os) (started : os.Started) (H : Type) (enc : TypeId × Value → H) :
   ReturnsInHanded {} Tryz.checked os 3 .any (fun w args => (Rows.consoleAnswerSpec.pre enc Tryz.prog Tryz.f3 [] false w args ∧ laidMetH Tryz.prog Rows.consoleAnswerRow.laid w) ∧ sizedMet enc Tryz.prog Tryz.f3 (OpenSpec.ofChange Rows.consoleAnswerSpec) false w args)
     (Rows.consoleAnswerSpec.post enc Tryz.prog Tryz.f3 false true false false) := by
 refine returnsInHanded_of_change_and (C := Tryz.checked) (X := fun w _ => laidMetH Tryz.prog Rows.consoleAnswerRow.laid w) (fun _ _ _ hh h => h.of_heap hh) own started (by kernel_rfl) Tryz.func3
   (ChangeSpec.witness_shaped (enc := enc) (C := Tryz.checked) (os := os) (X := fun w _ => laidMetH Tryz.prog Rows.consoleAnswerRow.laid w) false (World.doorLaid Tryz.prog 24 os) #[.slice none 0 0, .string ByteArray.empty] 8 rfl (World.shaped_of_RefB (by kernel_rfl) (by kernel_rfl)) (by kernel_rfl) (by kernel_rfl) (by kernel_rfl) (door_met os _)) ?_
 intro W base args ds gs before hval0 hW _ _ hL _
 have hval : ∀ (j : Nat) t v, Tryz.f3.params[j]? = some t → args[j]? = some v → Value.okWide Tryz.prog W .any base t v := hval0
 have hW' := hW
 obtain ⟨p, q, hA0, hV, rfl, hfz, hnd⟩ := hW
 have hA : DataW.TrodAll enc Tryz.prog W 0 (fun _ => true) true Tryz.f3.params.toList args.toList ds p := hA0
 rw [Tryz.params3] at hA hval
 obtain ⟨v0, vs0, d0, ds0, p0, q0, hargs, rfl, rfl, h0, r0⟩ := trodAll_cons hA
 obtain ⟨v1, vs1, d1, ds1, p1, q1, rfl, rfl, rfl, h1, r1⟩ := trodAll_cons r0
 obtain ⟨rfl, rfl, rfl⟩ := trodAll_nil r1
 obtain rfl : args = #[v0, v1] := by cases args; simp_all
 obtain ⟨rfl, rfl⟩ := trodVars_none hV
 obtain ⟨t, rfl, rfl, rfl, w1⟩ := open_string Tryz.underlying9 (hval 1 9 v1 rfl rfl) h1
 have h0k := h0
 have hlt : ∀ x ∈ p0, x.block < W.heap.size := fun x hx => by simpa using hW'.lt x (by simpa using hx)
 have hv22 := hval 0 22 v0 rfl rfl
 obtain ⟨a0, len, cap, rfl⟩ := okWide_slice Tryz.underlying22 hv22
 obtain ⟨cs, hcl, hrep⟩ : ∃ cs : List UInt8, cs.length < 2 ^ 63 ∧ Rep W β0 O0 (.sl 1 (bytesE cs)) (.slice a0 len cap) := by
   obtain ⟨fuel0, hf⟩ := h0
   rcases open_ints Tryz.underlying22 Tryz.underlying5 cells5 hf with ⟨hcs, hx⟩ | ⟨a, len', cap', zs, hcs, _, hl, hm, hz, hx, hcell, hwz⟩
   · simp [Value.cells] at hcs
     obtain ⟨rfl, rfl, rfl⟩ := hcs
     exact ⟨[], by simp, rep_nil W⟩
   · simp [Value.cells] at hcs
     obtain ⟨rfl, rfl, rfl⟩ := hcs
     simp only [if_true] at hz
     have hh : W.has Tryz.prog .any base a 5 cap := by
       have := hv22
       simp only [Value.okWide, Tryz.underlying22, Cell.okWide, Cell.ok] at this
       exact this.2.2
     obtain ⟨_, hsp, row, cells, hsh, _⟩ := hh
     obtain ⟨b, off, spot⟩ := a
     simp only at hsp
     subst hsp
     have hb : b < W.heap.size := by
       unfold World.shape? at hsh
       rcases Nat.lt_or_ge b W.heap.size with h | h
       · exact h
       · rw [Array.getElem?_eq_none h] at hsh; simp at hsh
     obtain ⟨cs, h1, h2⟩ := rep_ints (off := off) hl hz hb (fun i hi => by rw [← Go.WideShapes.add_plain]; exact hcell i hi) hwz
     exact ⟨cs, by unfold maxLen at hm; omega, h2⟩
 clear hA0 hval0
 refine (walk cs hcl t (by unfold maxLen at w1; omega) _ W hrep (lw_of hL)).mono fun e W' ⟨he, hg⟩ => ?_
 subst he
 exact ⟨_, rfl, _, _, _, [], _, [], hW', trodAll_mk1 (shut_bool Tryz.underlying4 _), (trodAll_cons_mk (Below.trod laidOut (by kernel_rfl) (of_decide_eq_true (by kernel_rfl)) h0k hg hlt) (trodAll_cons_mk (shut_string Tryz.underlying9 w1) trodAll_mk0)), rfl, hg.frame _, fun h => by cases h⟩
theorem over : Rows.consoleAnswerRow.holds Tryz.pinned (OpenSpec.ofChange Rows.consoleAnswerSpec) :=
 OpenClaim.holds_of_wide 3 Tryz.f3 rfl rfl rfl rfl rfl rfl rfl ⟨rfl, rfl, rfl, rfl, rfl⟩ rfl rfl rfl rfl rfl (by kernel_rfl) Tryz.func3 (by kernel_rfl)
   (of_decide_eq_true (by kernel_rfl)) (by unfold Func.isWrapper; first | (rw [if_pos (by decide +kernel)]; kernel_rfl) | (rw [if_neg (by decide +kernel)]; exact ⟨rfl, rfl⟩))
   (fun os started H enc _ => lifted os started H enc)
theorem proved : Rows.ConsoleAnswerCardSaid :=
 Claim7.holds_tied_plain_at .later [] [.data, .data, .data] true (true, "8343c2e37cbde9bf108e2e271db1478bc6fdd7d16433eae4a43d486b83684fd3") true
   over (fun _ h => by cases h) (by kernel_rfl) (fun _ h => by cases h) consoleAnswer_row_tie rfl ⟨rfl, rfl⟩ (by kernel_rfl) rfl
   (fun f fn hf hfn => by
     obtain rfl : f = 3 := Option.some.inj ((show Tryz.prog.funcNamed "logtide/logtidelaw45.ConsoleAnswer" = some 3 by kernel_rfl).symm.trans hf) |>.symm
     obtain rfl : fn = Tryz.f3 := (Option.some.inj (Tryz.func3.symm.trans hfn)).symm
     exact ⟨by kernel_rfl, fun j t ht => by
       rw [Tryz.params3] at ht
       have hm : t ∈ [22, 9] := by simpa using Array.mem_of_getElem? ht
       have hall : ([22, 9].all fun u => !Tryz.prog.wantsStandIn u) = true := by kernel_rfl
       exact (show Tryz.prog.wantsStandIn t = false by simpa using List.all_eq_true.1 hall t hm)⟩)
   (by kernel_rfl)
#print axioms proved
end Go.Proofs.YtffchapiaampmaaGreatDoor.consoleAnswer
