/-
  logtideref34's parser: step, is, take, str: their walks.
-/
import Derived.Test.YtkhcbhagecnndaaNext
import Derived.Deep.RegionWith
namespace Go.Proofs.Ytkhcbhagecnndaa
open Go.RowKit

/-- the parser's block: no error so far, no nesting. -/
def PB (w : World) (p : Nat) (s : ByteArray) (kind : Int) (t : ByteArray) (a nx : Int) : Prop :=
  w.heap[p]? = some (.cells #[.string s, .int .i64 kind, .string t, .int .i64 a, .int .i64 nx, .int .i64 0, .int .i64 0, .int .i64 0] 40 (0, 0))
/-- what next says -/
def NextSays (s : ByteArray) (nx kind : Int) (t : ByteArray) (a nx' : Int) : Prop :=
  ∀ w : World, Calls Try.prog 14 #[.string s, .int .i64 nx] w fun e w' => e = .returned (.agg #[.int .i64 kind, .string t, .int .i64 a, .int .i64 nx']) ∧ Below w.heap.size w w'

theorem PB.cells {w : World} {p : Nat} {s : ByteArray} {kind : Int} {t : ByteArray} {a nx : Int} (h : PB w p s kind t a nx) :
    w.cell? ⟨p, 0, none⟩ = some (.string s) ∧ w.cell? ⟨p, 1, none⟩ = some (.int .i64 kind) ∧ w.cell? ⟨p, 2, none⟩ = some (.string t) ∧ w.cell? ⟨p, 3, none⟩ = some (.int .i64 a) ∧ w.cell? ⟨p, 4, none⟩ = some (.int .i64 nx) ∧ w.cell? ⟨p, 5, none⟩ = some (.int .i64 0) ∧ w.cell? ⟨p, 6, none⟩ = some (.int .i64 0) ∧ w.cell? ⟨p, 7, none⟩ = some (.int .i64 0) := by
  refine ⟨?_, ?_, ?_, ?_, ?_, ?_, ?_, ?_⟩ <;> (rw [cell_of_row w p _ _ _ _ h]; rfl)
theorem PB.free {w : World} {p : Nat} {s : ByteArray} {kind : Int} {t : ByteArray} {a nx : Int} (h : PB w p s kind t a nx) (i : Nat) : w.frozen? ⟨p, i, none⟩ = false := by
  unfold PB at h
  simp [World.frozen?, h]
theorem PB.lt {w : World} {p : Nat} {s : ByteArray} {kind : Int} {t : ByteArray} {a nx : Int} (h : PB w p s kind t a nx) : p < w.heap.size := World.block_lt_of_cell? _ _ h.cells.1
theorem PB.below {w w' : World} {p B : Nat} {s : ByteArray} {kind : Int} {t : ByteArray} {a nx : Int} (h : PB w p s kind t a nx) (hb : Below B w w') (hp : p < B) : PB w' p s kind t a nx := (hb.block p hp).trans h
theorem PB.drew {w : World} {p : Nat} {s : ByteArray} {kind : Int} {t : ByteArray} {a nx : Int} (h : PB w p s kind t a nx) : PB w.drew p s kind t a nx := h
theorem PB.set4 {w : World} {p : Nat} {s : ByteArray} {kind : Int} {t : ByteArray} {a nx : Int} (h : PB w p s kind t a nx) (kind' : Int) (t' : ByteArray) (a' nx' : Int) :
    PB ((((w.setCell ⟨p, 1, none⟩ (.int .i64 kind')).setCell ⟨p, 2, none⟩ (.string t')).setCell ⟨p, 3, none⟩ (.int .i64 a')).setCell ⟨p, 4, none⟩ (.int .i64 nx')) p s kind' t' a' nx' := by
  unfold PB at h ⊢
  simp [World.setCell, Array.getElem?_modify, h]

theorem grown_below {w w1 : World} (hb : Below w.heap.size w w1) (row : Option Nat) : w.grownBy w1 row := ⟨hb.os, hb.tape, hb.output, hb.size, fun k hk _ => hb.block k hk⟩
theorem grown_set {w w1 : World} {p : Nat} (hb : w.grownBy w1 (some p)) (i : Nat) (u : Value) : w.grownBy (w1.setCell ⟨p, i, none⟩ u) (some p) :=
  ⟨hb.os, hb.tape, hb.output, by simpa [World.setCell] using hb.size, fun k hk hne => (Below.heap_setCell _ _ _ _ (by intro e; exact hne (by rw [e]))).trans (hb.block k hk hne)⟩
theorem grown_trans {w w1 w2 : World} {row : Option Nat} (h : w.grownBy w1 row) (k : w1.grownBy w2 row) : w.grownBy w2 row :=
  ⟨k.os.trans h.os, k.tape.trans h.tape, k.output.trans h.output, Nat.le_trans h.size k.size, fun i hi hne => (k.block i (Nat.lt_of_lt_of_le hi h.size) hne).trans (h.block i hi hne)⟩

set_option maxHeartbeats 1000000 in
set_option maxRecDepth 100000 in
theorem step_any (w : World) (p : Nat) (s : ByteArray) (kind : Int) (t : ByteArray) (a nx kind' : Int) (t' : ByteArray) (a' nx' : Int) (h : PB w p s kind t a nx) (hn : NextSays s nx kind' t' a' nx') :
    Calls Try.prog 7 #[.pointer (some ⟨p, 0, none⟩)] w fun e w' => e = .returned (.tuple #[]) ∧ PB w' p s kind' t' a' nx' ∧ w.grownBy w' (some p) := by
  obtain ⟨c0, c1, c2, c3, c4, c5, c6, c7⟩ := h.cells
  have f1 := h.free 1
  have f2 := h.free 2
  have f3 := h.free 3
  have f4 := h.free 4
  have hlt := h.lt
  have H := Lib.hid h
  clear h
  go_enter Try.func7, Try.ntmps7
  go_wp2_with fail
  go_region_with ((go_at_call 14; refine (hn _).mono ?_; rintro e w1 ⟨rfl, hb⟩; obtain ⟨hcc, hff⟩ := bcell hb; have k0 : w1.cell? _ = _ := (hcc p 0 hlt).trans c0; have k1 : w1.cell? _ = _ := (hcc p 1 hlt).trans c1; have k2 : w1.cell? _ = _ := (hcc p 2 hlt).trans c2; have k3 : w1.cell? _ = _ := (hcc p 3 hlt).trans c3; have k4 : w1.cell? _ = _ := (hcc p 4 hlt).trans c4; have g1 : w1.frozen? _ = _ := (hff p 1 hlt).trans f1; have g2 : w1.frozen? _ = _ := (hff p 2 hlt).trans f2; have g3 : w1.frozen? _ = _ := (hff p 3 hlt).trans f3; have g4 : w1.frozen? _ = _ := (hff p 4 hlt).trans f4; clear hcc hff))
  all_goals
    go_end0
    have hb' : Below w.heap.size w w1 := ⟨hb.os, hb.tape, hb.output, hb.size, hb.block⟩
    exact ⟨rfl, (H.out.below hb' hlt).set4 _ _ _ _, grown_set (grown_set (grown_set (grown_set (grown_below hb' _) _ _) _ _) _ _) _ _⟩

theorem is_no_kind (w : World) (p : Nat) (s : ByteArray) (kind : Int) (t : ByteArray) (a nx : Int) (x : ByteArray) (h : PB w p s kind t a nx) (h1 : (kind == 4) = false) (h2 : (kind == 1) = false) :
    Calls Try.prog 16 #[.pointer (some ⟨p, 0, none⟩), .string x] w fun e w' => e = .returned (.bool false) ∧ w = w' := by
  obtain ⟨c0, c1, c2, c3, c4, c5, c6, c7⟩ := h.cells
  clear h c0 c2 c3 c4 c5 c6 c7
  go_enter Try.func16, Try.ntmps16
  go_wp2
  go_ret
  exact ⟨rfl, rfl⟩
theorem is_name (w : World) (p : Nat) (s : ByteArray) (t : ByteArray) (a nx : Int) (x : ByteArray) (h : PB w p s 1 t a nx) (r : Bool) (hr : (t.toList == x.toList) = r) :
    Calls Try.prog 16 #[.pointer (some ⟨p, 0, none⟩), .string x] w fun e w' => e = .returned (.bool r) ∧ w = w' := by
  obtain ⟨c0, c1, c2, c3, c4, c5, c6, c7⟩ := h.cells
  clear h c0 c3 c4 c5 c6 c7
  have HR := Lib.hid hr
  clear hr
  go_enter Try.func16, Try.ntmps16
  go_wp2
  go_ret
  exact ⟨by rw [← HR.out]; rfl, rfl⟩
theorem take_no (w : World) (p : Nat) (s : ByteArray) (kind : Int) (t : ByteArray) (a nx : Int) (x : ByteArray) (h : PB w p s kind t a nx)
    (his : Calls Try.prog 16 #[.pointer (some ⟨p, 0, none⟩), .string x] w fun e w' => e = .returned (.bool false) ∧ w = w') :
    Calls Try.prog 9 #[.pointer (some ⟨p, 0, none⟩), .string x] w fun e w' => e = .returned (.bool false) ∧ w = w' := by
  obtain ⟨c0, c1, c2, c3, c4, c5, c6, c7⟩ := h.cells
  clear h c0 c1 c2 c3 c4 c6 c7
  have HI := Lib.hid his
  clear his
  go_enter Try.func9, Try.ntmps9
  go_wp2_with (go_at_call 16; refine (HI.out).mono ?_; rintro e w' ⟨rfl, rfl⟩)
  go_ret
  exact ⟨rfl, rfl⟩
theorem take_yes (w : World) (p : Nat) (s : ByteArray) (t : ByteArray) (a nx : Int) (kind' : Int) (t' : ByteArray) (a' nx' : Int) (h : PB w p s 1 t a nx) (hn : NextSays s nx kind' t' a' nx') :
    Calls Try.prog 9 #[.pointer (some ⟨p, 0, none⟩), .string t] w fun e w' => e = .returned (.bool true) ∧ PB w' p s kind' t' a' nx' ∧ w.grownBy w' (some p) := by
  obtain ⟨c0, c1, c2, c3, c4, c5, c6, c7⟩ := h.cells
  clear c0 c1 c2 c3 c4 c6 c7
  have H := Lib.hid h
  clear h
  go_enter Try.func9, Try.ntmps9
  go_wp2_with (first | (go_at_call 16; refine (is_name _ _ _ _ _ _ _ H.out true (by simp)).mono ?_; rintro e w' ⟨rfl, rfl⟩) | (go_at_call 7; refine (step_any _ _ _ _ _ _ _ _ _ _ _ H.out hn).mono ?_; rintro e w' ⟨rfl, hp1, hg1⟩))
  go_ret
  exact ⟨rfl, hp1, hg1⟩
theorem str_yes (w : World) (p : Nat) (s : ByteArray) (t : ByteArray) (a nx : Int) (kind' : Int) (t' : ByteArray) (a' nx' : Int) (h : PB w p s 3 t a nx) (hn : NextSays s nx kind' t' a' nx') :
    Calls Try.prog 10 #[.pointer (some ⟨p, 0, none⟩)] w fun e w' => e = .returned (.string t) ∧ PB w' p s kind' t' a' nx' ∧ w.grownBy w' (some p) := by
  obtain ⟨c0, c1, c2, c3, c4, c5, c6, c7⟩ := h.cells
  clear c0 c3 c4 c6 c7
  have H := Lib.hid h
  clear h
  go_enter Try.func10, Try.ntmps10
  go_wp2_with (go_at_call 7; refine (step_any _ _ _ _ _ _ _ _ _ _ _ H.out hn).mono ?_; rintro e w' ⟨rfl, hp1, hg1⟩)
  go_ret
  exact ⟨rfl, hp1, hg1⟩
end Go.Proofs.Ytkhcbhagecnndaa
