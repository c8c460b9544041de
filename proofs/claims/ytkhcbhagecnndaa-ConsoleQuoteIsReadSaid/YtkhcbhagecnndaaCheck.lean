/-
  logtideref34: shape, one, visit, CheckTest, zeroTest, unused, Check at the query of a test 'contains'.
-/
import Derived.Test.YtkhcbhagecnndaaPrimary
namespace Go.Proofs.Ytkhcbhagecnndaa
open Go.RowKit

theorem shape_c (tx : ByteArray) (w : World) : Calls Try.prog 45 #[.agg #[.int .i64 3, .string ⟨#[]⟩, .string tx, .int .i64 0, .slice none 0 0]] w fun e w' => e = .returned (.bool true) ∧ Below w.heap.size w w' := by
  go_enter Try.func45, Try.ntmps45
  go_wp2
  go_ret
  exact ⟨rfl, (Below.refl _ _).alloc (Nat.le_refl _) _⟩
theorem digits_0 (w : World) : Calls Try.prog 47 #[.int .i64 0] w fun e w' => e = .returned (.bool true) ∧ w = w' := by
  go_enter Try.func47, Try.ntmps47
  go_wp2
  go_ret
  exact ⟨rfl, rfl⟩
set_option maxRecDepth 100000 in
theorem one_c (tx : ByteArray) (w : World) (h0 : (tx.toList == []) = false) (h2 : tx.size ≤ 300) : Calls Try.prog 41 #[.agg #[.int .i64 3, .string ⟨#[]⟩, .string tx, .int .i64 0, .slice none 0 0]] w fun e w' => e = .returned (.int .i64 0) ∧ Below w.heap.size w w' := by
  have hd : decide ((2000 : Int) < (tx.size : Int)) = false := by simp; omega
  go_enter Try.func41, Try.ntmps41
  go_wp2_with (first | (go_at_call 45; refine (shape_c _ _).mono ?_; rintro e w1 ⟨rfl, hb⟩; obtain ⟨hc, hf⟩ := bcell hb; have hz := hb.size; simp at hz) | (go_at_call 47; refine (digits_0 _).mono ?_; rintro e w' ⟨rfl, rfl⟩))
  go_ret
  exact ⟨rfl, ((Below.refl _ _).alloc (Nat.le_refl _) _).trans (hb.mono (by simp))⟩
set_option maxRecDepth 100000 in
theorem visit_c (tx : ByteArray) (w : World) (h0 : (tx.toList == []) = false) (h2 : tx.size ≤ 300) : Calls Try.prog 35 #[.agg #[.int .i64 3, .string ⟨#[]⟩, .string tx, .int .i64 0, .slice none 0 0], .int .i64 0, .int .i64 0] w fun e w' => e = .returned (.tuple #[.int .i64 1, .int .i64 0]) ∧ Below w.heap.size w w' := by
  go_enter Try.func35, Try.ntmps35
  go_wp2_with (go_at_call 41; refine (one_c _ _ h0 h2).mono ?_; rintro e w1 ⟨rfl, hb⟩; obtain ⟨hc, hf⟩ := bcell hb; have hz := hb.size; simp at hz)
  refine wp_loop_rounds 1 ?_
  rw [rounds_succ]
  go_wp2
  go_ret2
  exact ⟨rfl, ((Below.refl _ _).alloc (Nat.le_refl _) _).trans (hb.mono (by simp))⟩
theorem checkTest_c (tx : ByteArray) (w : World) (h0 : (tx.toList == []) = false) (h2 : tx.size ≤ 300) : Calls Try.prog 22 #[.agg #[.int .i64 3, .string ⟨#[]⟩, .string tx, .int .i64 0, .slice none 0 0]] w fun e w' => e = .returned (.int .i64 0) ∧ Below w.heap.size w w' := by
  go_enter Try.func22, Try.ntmps22
  go_wp2_with (go_at_call 35; refine (visit_c _ _ h0 h2).mono ?_; rintro e w1 ⟨rfl, hb⟩)
  go_ret
  exact ⟨rfl, ((Below.refl _ _).alloc (Nat.le_refl _) _).trans (hb.mono (by simp))⟩
theorem zeroTest_z (w : World) : Calls Try.prog 23 #[.agg #[.int .i64 0, .string ⟨#[]⟩, .string ⟨#[]⟩, .int .i64 0, .slice none 0 0]] w fun e w' => e = .returned (.bool true) ∧ Below w.heap.size w w' := by
  go_enter Try.func23, Try.ntmps23
  go_wp2
  go_ret
  exact ⟨rfl, (Below.refl _ _).alloc (Nat.le_refl _) _⟩
/-- the query of a test 'contains', its cells -/
def qCells (tx : ByteArray) : Array Value := #[.int .i64 3, .string ⟨#[]⟩, .string tx, .int .i64 0, .slice none 0 0, .slice none 0 0, .int .i64 0, .int .i64 0, .bool false, .slice none 0 0, .slice none 0 0, .int .i64 0, .int .i64 0, .string ⟨#[]⟩, .string ⟨#[]⟩, .int .i64 0, .slice none 0 0, .string ⟨#[]⟩, .int .i64 0]
set_option maxHeartbeats 1000000 in
set_option maxRecDepth 100000 in
theorem unused_c (tx : ByteArray) (w : World) : Calls Try.prog 25 #[.agg (qCells tx)] w fun e w' => e = .returned (.bool false) ∧ Below w.heap.size w w' := by
  unfold qCells
  go_enter Try.func25, Try.ntmps25
  go_wp2_with (go_at_call 23; refine (zeroTest_z _).mono ?_; rintro e w1 ⟨rfl, hb⟩; obtain ⟨hc, hf⟩ := bcell hb; have hz := hb.size; simp at hz)
  go_ret
  exact ⟨rfl, ((Below.refl _ _).alloc (Nat.le_refl _) _).trans (hb.mono (by simp))⟩
set_option maxHeartbeats 1000000 in
set_option maxRecDepth 100000 in
theorem check_c (tx : ByteArray) (w : World) (h0 : (tx.toList == []) = false) (h2 : tx.size ≤ 300) : Calls Try.prog 13 #[.agg (qCells tx)] w fun e w' => e = .returned (.int .i64 0) ∧ Below w.heap.size w w' := by
  have q0 : (qCells tx)[0]? = some (.int .i64 3) := rfl
  have q1 : (qCells tx)[1]? = some (.string ⟨#[]⟩) := rfl
  have q2 : (qCells tx)[2]? = some (.string tx) := rfl
  have q3 : (qCells tx)[3]? = some (.int .i64 0) := rfl
  have q4 : (qCells tx)[4]? = some (.slice none 0 0) := rfl
  go_enter Try.func13, Try.ntmps13
  go_wp2_with fail
  refine (checkTest_c _ _ h0 h2).mono ?_
  rintro e w1 ⟨rfl, hb⟩
  have hB : w1.heap[w.heap.size]? = some (.cells (qCells tx) 30 (0, 0)) := (hb.block _ (by simp)).trans (heap_alloc_new w _)
  have hbw : Below w.heap.size w w1 := ((Below.refl _ _).alloc (Nat.le_refl _) _).trans (hb.mono (by simp))
  have k5 : w1.cell? ⟨w.heap.size, 5, none⟩ = some (.slice none 0 0) := cell_of_row w1 w.heap.size 5 _ _ _ hB
  have k6 : w1.cell? ⟨w.heap.size, 6, none⟩ = some (.int .i64 0) := cell_of_row w1 w.heap.size 6 _ _ _ hB
  have k7 : w1.cell? ⟨w.heap.size, 7, none⟩ = some (.int .i64 0) := cell_of_row w1 w.heap.size 7 _ _ _ hB
  have HB := Lib.hid hB
  have HW := Lib.hid hbw
  have hlt : w.heap.size < w1.heap.size := World.block_lt_of_cell? _ _ k5
  clear hB hbw hb q0 q1 q2 q3 q4
  go_wp2_with fail
  refine wp_loop_rounds 1 ?_
  rw [rounds_succ]
  go_wp2_with (first | (refine wpList_load_row rfl 30 _ rfl w.heap.size rfl 30 (qCells tx) (0, 0) _ HB.out Try.underlying30 rfl (by kernel_rfl) ?_) | (go_at_call 25; refine (unused_c _ _).mono ?_; rintro e w2 ⟨rfl, hb2⟩; have k6' : w2.cell? ⟨w.heap.size, 6, none⟩ = _ := (hb2.cell (p := ⟨w.heap.size, 6, none⟩) hlt).trans k6; have k7' : w2.cell? ⟨w.heap.size, 7, none⟩ = _ := (hb2.cell (p := ⟨w.heap.size, 7, none⟩) hlt).trans k7))
  go_ret
  exact ⟨rfl, HW.out.trans (hb2.mono (by omega))⟩
end Go.Proofs.Ytkhcbhagecnndaa
