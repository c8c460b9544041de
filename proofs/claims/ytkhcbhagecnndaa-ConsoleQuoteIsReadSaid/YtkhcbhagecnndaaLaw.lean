/-
  logtidelaw45.ConsoleQuoteIsRead: its walk.
-/
import Derived.Test.YtkhcbhagecnndaaParse
namespace Go.Proofs.Ytkhcbhagecnndaa
open Go.RowKit

theorem quote_a (w : World) : Calls Try.prog 6 #[.string ⟨#[97]⟩] w fun e w' => e = .returned (.string ⟨#[34, 97, 34]⟩) ∧ Below w.heap.size w w' :=
  quote_any ⟨#[97]⟩ w (by decide)
theorem awake_any (w : World) : Calls Try.prog 4 #[] w fun e w' => e = .returned (.bool true) ∧ Below w.heap.size w w' := by
  go_enter Try.func4, Try.ntmps4
  go_wp2_with (go_at_call 6; refine (quote_a _).mono ?_; rintro e w1 ⟨rfl, hb⟩)
  go_ret
  exact ⟨rfl, hb⟩

set_option maxHeartbeats 1000000 in
set_option maxRecDepth 100000 in
theorem law_out (s : ByteArray) (w : World) (h : s.size < 1 ∨ 300 < s.size) (_hm : s.size ≤ 9223372036854775807) :
    Calls Try.prog 3 #[.string s] w fun e w' => e = .returned (.bool true) ∧ Below w.heap.size w w' := by
  rcases h with h | h
  · have hd : decide ((s.size : Int) < 1) = true := by simp; omega
    clear h
    go_enter Try.func3, Try.ntmps3
    go_wp2_with (go_at_call 4; refine (awake_any _).mono ?_; rintro e w1 ⟨rfl, hb⟩)
    go_ret
    exact ⟨rfl, hb⟩
  · have hd : decide ((s.size : Int) < 1) = false := by simp; omega
    have hd2 : decide ((300 : Int) < (s.size : Int)) = true := by simp; omega
    clear h
    go_enter Try.func3, Try.ntmps3
    go_wp2_with (go_at_call 4; refine (awake_any _).mono ?_; rintro e w1 ⟨rfl, hb⟩)
    go_ret
    exact ⟨rfl, hb⟩

set_option maxHeartbeats 1000000 in
set_option maxRecDepth 100000 in
theorem law_in (s : ByteArray) (w : World) (h1 : 1 ≤ s.size) (h2 : s.size ≤ 300) :
    Calls Try.prog 3 #[.string s] w fun e w' => e = .returned (.bool true) ∧ Below w.heap.size w w' := by
  have hd : decide ((s.size : Int) < 1) = false := by simp; omega
  have hd2 : decide ((300 : Int) < (s.size : Int)) = false := by simp; omega
  have HQ := fun w => quote_any s w (by omega)
  generalize hr : (⟨(quoted s.data.toList).toArray⟩ : ByteArray) = r at HQ
  have hrs : r.size ≤ 1202 := by
    rw [← hr]
    have h := (qbody_len s.data.toList).2
    have e : s.data.toList.length = s.size := Array.length_toList
    show (quoted s.data.toList).toArray.size ≤ 1202
    simp [quoted]
    omega
  have hP : (⟨#[99, 111, 110, 116, 97, 105, 110, 115, 32]⟩ ++ r : ByteArray).data.toList = pre10 ++ (qbody s.data.toList ++ [34]) := by
    rw [← hr, ByteArray.data_append]
    simp [pre10, quoted]
  have hPz : (⟨#[99, 111, 110, 116, 97, 105, 110, 115, 32]⟩ ++ r : ByteArray).size ≤ 2000 := by
    rw [ByteArray.size_append]
    have : (⟨#[99, 111, 110, 116, 97, 105, 110, 115, 32]⟩ : ByteArray).size = 9 := rfl
    omega
  have hse : (⟨s.data.toList.toArray⟩ : ByteArray) = s := by simp
  have hne : (s.toList == []) = false := by
    rw [ByteArray.toList_eq]
    cases hl : s.data.toList with
    | nil =>
      have e : s.data.toList.length = s.size := Array.length_toList
      rw [hl] at e
      simp at e
      omega
    | cons a b => rfl
  have HP := fun w => parse_q _ _ w hP hPz (by rw [hse]; exact hne) (by rw [hse]; exact h2)
  rw [hse] at HP
  generalize ((⟨#[99, 111, 110, 116, 97, 105, 110, 115, 32]⟩ ++ r : ByteArray).size : Int) = sz at HP
  clear hse hne
  replace HP := Lib.hid HP
  replace HQ := Lib.hid HQ
  clear hP hPz hr
  go_enter Try.func3, Try.ntmps3
  go_wp2_with (first | (go_at_call 4; refine (awake_any _).mono ?_; rintro e w1 ⟨rfl, hb1⟩) | (go_at_call 6; refine (HQ.out _).mono ?_; rintro e w2 ⟨rfl, hb2⟩) | (go_at_call 5; refine (HP.out _).mono ?_; rintro e w3 ⟨rfl, hb3⟩) | ((refine wpList_store_mid rfl 30 _ _ rfl w3.heap.size 0 (qCells s) rfl rfl (there_z w3 s) (qCells_size s) (qCells_one s) ?_); (generalize hw4 : World.setCells _ _ _ _ = w4); (have hQ : w4.heap[w3.heap.size]? = some (.cells (qCells s) 30 (0, 0)) := by (rw [← hw4]; exact setCells_all (heap_alloc_new w3 _) rfl)); (have hW := Lib.hid (show Below w.heap.size w w4 by (rw [← hw4]; exact below_setCells ((((hb1.trans (hb2.mono hb1.size)).trans (hb3.mono (Nat.le_trans hb1.size hb2.size))).alloc (Nat.le_trans (Nat.le_trans hb1.size hb2.size) hb3.size) _)) (Nat.le_trans (Nat.le_trans hb1.size hb2.size) hb3.size) _ _))); (have k0 : w4.cell? ⟨w3.heap.size, 0, none⟩ = some (.int .i64 3) := cell_of_row w4 w3.heap.size 0 _ _ _ hQ); (have k2 : w4.cell? ⟨w3.heap.size, 2, none⟩ = some (.string s) := cell_of_row w4 w3.heap.size 2 _ _ _ hQ); clear hQ hw4))
  go_ret
  exact ⟨rfl, hW.out⟩

theorem law_any (s : ByteArray) (w : World) (_hm : s.size ≤ 9223372036854775807) :
    Calls Try.prog 3 #[.string s] w fun e w' => e = .returned (.bool true) ∧ Below w.heap.size w w' := by
  by_cases h : s.size < 1 ∨ 300 < s.size
  · exact law_out s w h _hm
  · exact law_in s w (by omega) (by omega)
end Go.Proofs.Ytkhcbhagecnndaa
