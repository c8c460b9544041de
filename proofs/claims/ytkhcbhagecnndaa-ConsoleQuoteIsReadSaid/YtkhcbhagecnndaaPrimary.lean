/-
  logtideref34's parser: primary, conjunction, test at a query 'contains' with a quoted text.
-/
import Derived.Test.YtkhcbhagecnndaaStep
namespace Go.Proofs.Ytkhcbhagecnndaa
open Go.RowKit

theorem neq_conts (x : ByteArray) (h : (conts.data.toList == x.data.toList) = false) : (conts.toList == x.toList) = false := by
  rw [ByteArray.toList_eq, ByteArray.toList_eq]; exact h
/-- no word but 'contains' is 'contains' -/
theorem take_other (w : World) (p : Nat) (s : ByteArray) (a nx : Int) (x : ByteArray) (h : PB w p s 1 conts a nx) (hx : (conts.toList == x.toList) = false) :
    Calls Try.prog 9 #[.pointer (some ⟨p, 0, none⟩), .string x] w fun e w' => e = .returned (.bool false) ∧ w = w' :=
  take_no w p s 1 conts a nx x h (is_name w p s conts a nx x h false hx)
theorem take_end (w : World) (p : Nat) (s : ByteArray) (t : ByteArray) (a nx : Int) (x : ByteArray) (h : PB w p s 0 t a nx) :
    Calls Try.prog 9 #[.pointer (some ⟨p, 0, none⟩), .string x] w fun e w' => e = .returned (.bool false) ∧ w = w' :=
  take_no w p s 0 t a nx x h (is_no_kind w p s 0 t a nx x h rfl rfl)
theorem take_conts (w : World) (p : Nat) (s : ByteArray) (a nx : Int) (kind' : Int) (t' : ByteArray) (a' nx' : Int) (h : PB w p s 1 conts a nx) (hn : NextSays s nx kind' t' a' nx') :
    Calls Try.prog 9 #[.pointer (some ⟨p, 0, none⟩), .string ⟨#[99, 111, 110, 116, 97, 105, 110, 115]⟩] w fun e w' => e = .returned (.bool true) ∧ PB w' p s kind' t' a' nx' ∧ w.grownBy w' (some p) :=
  take_yes w p s conts a nx kind' t' a' nx' h hn
theorem PB.alloc {w : World} {p : Nat} {s : ByteArray} {kind : Int} {t : ByteArray} {a nx : Int} (h : PB w p s kind t a nx) (o : Obj) : PB (w.alloc o) p s kind t a nx := (Below.heap_alloc w o p h.lt).trans h

/-- a block of a result that is a Test, as yet zero -/
def ZB (w : World) (g : Nat) : Prop := w.heap[g]? = some (.cells #[.int .i64 0, .string ⟨#[]⟩, .string ⟨#[]⟩, .int .i64 0, .slice none 0 0] 25 (0, 0))
theorem ZB.new (w : World) : ZB (w.alloc (.cells #[.int .i64 0, .string ⟨#[]⟩, .string ⟨#[]⟩, .int .i64 0, .slice none 0 0] 25)) w.heap.size := heap_alloc_new w _
theorem ZB.lt {w : World} {g : Nat} (h : ZB w g) : g < w.heap.size := (Array.getElem?_eq_some_iff.1 h).1
theorem ZB.grown {w w' : World} {g p : Nat} (h : ZB w g) (hg : w.grownBy w' (some p)) (hne : g ≠ p) : ZB w' g := (hg.block g h.lt (by intro e; injection e with e; exact hne e)).trans h
theorem ZB.cells {w : World} {g : Nat} (h : ZB w g) : w.cell? ⟨g, 0, none⟩ = some (.int .i64 0) ∧ w.cell? ⟨g, 1, none⟩ = some (.string ⟨#[]⟩) ∧ w.cell? ⟨g, 2, none⟩ = some (.string ⟨#[]⟩) ∧ w.cell? ⟨g, 3, none⟩ = some (.int .i64 0) ∧ w.cell? ⟨g, 4, none⟩ = some (.slice none 0 0) := by
  refine ⟨?_, ?_, ?_, ?_, ?_⟩ <;> (rw [cell_of_row w g _ _ _ _ h]; rfl)
theorem ZB.free {w : World} {g : Nat} (h : ZB w g) : w.frozen? ⟨g, 0, none⟩ = false ∧ w.frozen? ⟨g, 1, none⟩ = false ∧ w.frozen? ⟨g, 2, none⟩ = false ∧ w.frozen? ⟨g, 3, none⟩ = false ∧ w.frozen? ⟨g, 4, none⟩ = false := by
  unfold ZB at h
  simp [World.frozen?, h]

theorem PB.far {w : World} {p : Nat} {s : ByteArray} {kind : Int} {t : ByteArray} {a nx : Int} (h : PB w p s kind t a nx) {q : Nat} (hq : p ≠ q) (i : Nat) (u : Value) : PB (w.setCell ⟨q, i, none⟩ u) p s kind t a nx := (Below.heap_setCell w _ u p hq).trans h
theorem grown_new {w w1 : World} {row : Option Nat} (hb : w.grownBy w1 row) {q : Nat} (hq : w.heap.size ≤ q) (i : Nat) (u : Value) : w.grownBy (w1.setCell ⟨q, i, none⟩ u) row :=
  ⟨hb.os, hb.tape, hb.output, by simpa [World.setCell] using hb.size, fun k hk hne => (Below.heap_setCell _ _ _ _ (by show k ≠ q; omega)).trans (hb.block k hk hne)⟩
theorem grown_alloc {w w1 : World} {row : Option Nat} (hb : w.grownBy w1 row) (o : Obj) : w.grownBy (w1.alloc o) row := grown_trans hb (World.grownBy_alloc _ _ _)

set_option maxHeartbeats 1000000 in
set_option maxRecDepth 100000 in
theorem primary_q (w : World) (p : Nat) (s tx : ByteArray) (a : Int) (n2 n3 : Int) (h : PB w p s 1 conts a 8) (h2 : NextSays s 8 3 tx 9 n2) (h3 : NextSays s n2 0 ⟨#[]⟩ n3 n3) :
    Calls Try.prog 32 #[.pointer (some ⟨p, 0, none⟩)] w fun e w' => e = .returned (.agg #[.int .i64 3, .string ⟨#[]⟩, .string tx, .int .i64 0, .slice none 0 0]) ∧ PB w' p s 0 ⟨#[]⟩ n3 n3 ∧ w.grownBy w' (some p) := by
  obtain ⟨c0, c1, c2, c3, c4, c5, c6, c7⟩ := h.cells
  clear c0 c1 c2 c3 c4 c6 c7
  have hlt := h.lt
  have H := Lib.hid h
  clear h
  go_enter Try.func32, Try.ntmps32
  go_wp2_with (first | (go_at_call 16; refine (is_name _ _ _ _ _ _ _ (H.out.alloc _) false (neq_conts _ (by decide))).mono ?_; rintro e w' ⟨rfl, rfl⟩) | (go_at_call 9; refine (take_other _ _ _ _ _ _ (H.out.alloc _) (neq_conts _ (by decide))).mono ?_; rintro e w' ⟨rfl, rfl⟩) | (go_at_call 9; refine (take_conts _ _ _ _ _ _ _ _ _ (H.out.alloc _) h2).mono ?_; rintro e w1 ⟨rfl, hp1, hg1⟩) | (go_at_call 10; refine (str_yes _ _ _ _ _ _ _ _ _ _ hp1 h3).mono ?_; rintro e w2 ⟨rfl, hp2, hg2⟩; have hz := ((ZB.new w).grown hg1 (by omega)).grown hg2 (by omega); obtain ⟨z0, z1, z2, z3, z4⟩ := hz.cells; obtain ⟨y0, y1, y2, y3, y4⟩ := hz.free))
  refine bodyPost_ret (v := .agg #[.int .i64 3, .string ⟨#[]⟩, .string tx, .int .i64 0, .slice none 0 0]) (by simp [results, Try.results32, go_sem, z0, z1, z2, z3, z4]) rfl ⟨rfl, ?_, ?_⟩
  · exact ((((hp2.far (by omega) _ _).far (by omega) _ _).far (by omega) _ _).far (by omega) _ _).far (by omega) _ _
  · have hg := grown_trans (grown_trans (World.grownBy_alloc w _ _) hg1) hg2
    exact grown_new (grown_new (grown_new (grown_new (grown_new hg (Nat.le_refl _) _ _) (Nat.le_refl _) _ _) (Nat.le_refl _) _ _) (Nat.le_refl _) _ _) (Nat.le_refl _) _ _

set_option maxHeartbeats 1000000 in
set_option maxRecDepth 100000 in
theorem conj_q (w : World) (p : Nat) (s tx : ByteArray) (a : Int) (n2 n3 : Int) (h : PB w p s 1 conts a 8) (h2 : NextSays s 8 3 tx 9 n2) (h3 : NextSays s n2 0 ⟨#[]⟩ n3 n3) :
    Calls Try.prog 15 #[.pointer (some ⟨p, 0, none⟩)] w fun e w' => e = .returned (.agg #[.int .i64 3, .string ⟨#[]⟩, .string tx, .int .i64 0, .slice none 0 0]) ∧ PB w' p s 0 ⟨#[]⟩ n3 n3 ∧ w.grownBy w' (some p) := by
  have hlt := h.lt
  have H := Lib.hid h
  clear h
  go_enter Try.func15, Try.ntmps15
  go_wp2_with (go_at_call 32; refine (primary_q _ _ _ _ _ _ _ (H.out.alloc _) h2 h3).mono ?_; rintro e w1 ⟨rfl, hp1, hg1⟩; have hz1 := (ZB.new w).grown hg1 (by omega); have HP1 := Lib.hid hp1; clear hp1; have hl1 := hz1.lt; obtain ⟨z0, z1, z2, z3, z4⟩ := hz1.cells; obtain ⟨y0, y1, y2, y3, y4⟩ := hz1.free; have HG1 := Lib.hid hg1; clear hg1 hz1)
  refine wp_loop_rounds 1 ?_
  rw [rounds_succ]
  go_wp2_with (go_at_call 9; refine (take_end _ _ _ _ _ _ _ (HP1.out.alloc _)).mono ?_; rintro e w' ⟨rfl, rfl⟩)
  refine bodyPost_ret (v := .agg #[.int .i64 3, .string ⟨#[]⟩, .string tx, .int .i64 0, .slice none 0 0]) (by simp [results, Try.results15, go_sem, hl1, z0, z1, z2, z3, z4]) rfl ⟨rfl, ?_, ?_⟩
  · exact (((((HP1.out.far (by omega) _ _).far (by omega) _ _).far (by omega) _ _).far (by omega) _ _).far (by omega) _ _).alloc _
  · have hg := grown_trans (World.grownBy_alloc w _ _) HG1.out
    exact grown_alloc (grown_new (grown_new (grown_new (grown_new (grown_new hg (Nat.le_refl _) _ _) (Nat.le_refl _) _ _) (Nat.le_refl _) _ _) (Nat.le_refl _) _ _) (Nat.le_refl _) _ _) _

set_option maxHeartbeats 1000000 in
set_option maxRecDepth 100000 in
theorem test_q (w : World) (p : Nat) (s tx : ByteArray) (a : Int) (n2 n3 : Int) (h : PB w p s 1 conts a 8) (h2 : NextSays s 8 3 tx 9 n2) (h3 : NextSays s n2 0 ⟨#[]⟩ n3 n3) :
    Calls Try.prog 8 #[.pointer (some ⟨p, 0, none⟩)] w fun e w' => e = .returned (.agg #[.int .i64 3, .string ⟨#[]⟩, .string tx, .int .i64 0, .slice none 0 0]) ∧ PB w' p s 0 ⟨#[]⟩ n3 n3 ∧ w.grownBy w' (some p) := by
  have hlt := h.lt
  have H := Lib.hid h
  clear h
  go_enter Try.func8, Try.ntmps8
  go_wp2_with (go_at_call 15; refine (conj_q _ _ _ _ _ _ _ (H.out.alloc _) h2 h3).mono ?_; rintro e w1 ⟨rfl, hp1, hg1⟩; have hz1 := (ZB.new w).grown hg1 (by omega); have HP1 := Lib.hid hp1; clear hp1; have hl1 := hz1.lt; obtain ⟨z0, z1, z2, z3, z4⟩ := hz1.cells; obtain ⟨y0, y1, y2, y3, y4⟩ := hz1.free; have HG1 := Lib.hid hg1; clear hg1 hz1)
  refine wp_loop_rounds 1 ?_
  rw [rounds_succ]
  go_wp2_with (go_at_call 9; refine (take_end _ _ _ _ _ _ _ (HP1.out.alloc _)).mono ?_; rintro e w' ⟨rfl, rfl⟩)
  refine bodyPost_ret (v := .agg #[.int .i64 3, .string ⟨#[]⟩, .string tx, .int .i64 0, .slice none 0 0]) (by simp [results, Try.results8, go_sem, hl1, z0, z1, z2, z3, z4]) rfl ⟨rfl, ?_, ?_⟩
  · exact (((((HP1.out.far (by omega) _ _).far (by omega) _ _).far (by omega) _ _).far (by omega) _ _).far (by omega) _ _).alloc _
  · have hg := grown_trans (World.grownBy_alloc w _ _) HG1.out
    exact grown_alloc (grown_new (grown_new (grown_new (grown_new (grown_new hg (Nat.le_refl _) _ _) (Nat.le_refl _) _ _) (Nat.le_refl _) _ _) (Nat.le_refl _) _ _) (Nat.le_refl _) _ _) _

end Go.Proofs.Ytkhcbhagecnndaa
