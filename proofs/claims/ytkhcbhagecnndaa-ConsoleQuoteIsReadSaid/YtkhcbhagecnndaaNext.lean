/-
  logtideref34.letter, inner, next: their walks, next at the three places of a query 'contains' with a quoted text.
-/
import Derived.Test.YtkhcbhagecnndaaText
namespace Go.Proofs.Ytkhcbhagecnndaa
open Go.RowKit

theorem letter_low (b : Int) (w : World) (h1 : 97 ≤ b) (h2 : b ≤ 122) : Calls Try.prog 28 #[.int .u8 b] w fun e w' => e = .returned (.bool true) ∧ w = w' := by
  go_enter Try.func28, Try.ntmps28
  go_wp2
  go_ret
  exact ⟨rfl, rfl⟩
theorem letter_34 (w : World) : Calls Try.prog 28 #[.int .u8 34] w fun e w' => e = .returned (.bool false) ∧ w = w' := by
  go_enter Try.func28, Try.ntmps28
  go_wp2
  go_ret
  exact ⟨rfl, rfl⟩
theorem inner_low (b : Int) (w : World) (h1 : 97 ≤ b) (h2 : b ≤ 122) : Calls Try.prog 29 #[.int .u8 b] w fun e w' => e = .returned (.bool true) ∧ w = w' := by
  go_enter Try.func29, Try.ntmps29
  go_wp2
  go_ret
  exact ⟨rfl, rfl⟩
theorem inner_32 (w : World) : Calls Try.prog 29 #[.int .u8 32] w fun e w' => e = .returned (.bool false) ∧ w = w' := by
  go_enter Try.func29, Try.ntmps29
  go_wp2_with (go_at_call 30; refine (digit_b _ false _ (by decide)).mono ?_; rintro e w' ⟨rfl, rfl⟩)
  go_ret
  exact ⟨rfl, rfl⟩

/-- what stands ahead of the text -/
def pre10 : List UInt8 := [99, 111, 110, 116, 97, 105, 110, 115, 32, 34]
def conts : ByteArray := ⟨#[99, 111, 110, 116, 97, 105, 110, 115]⟩

theorem pre_at {s : ByteArray} {r : List UInt8} (hs : s.data.toList = pre10 ++ r) (j : Nat) (b : UInt8) (hj : pre10[j]? = some b) : s.data.toList[j]? = some b := by
  have h : j < pre10.length := (List.getElem?_eq_some_iff.1 hj).1
  rw [hs, List.getElem?_append_left h, hj]

set_option maxRecDepth 100000 in
theorem next_end (s : ByteArray) (w : World) :
    Calls Try.prog 14 #[.string s, .int .i64 (s.size : Int)] w fun e w' => e = .returned (.agg #[.int .i64 0, .string ⟨#[]⟩, .int .i64 (s.size : Int), .int .i64 (s.size : Int)]) ∧ Below w.heap.size w w' := by
  have h0 : decide ((s.size : Int) < (s.size : Int)) = false := by simp
  have h1 : ((s.size : Int) == (s.size : Int)) = true := by simp
  go_enter Try.func14, Try.ntmps14
  go_wp2
  refine wp_loop_rounds 1 ?_
  rw [rounds_succ]
  go_wp2
  exact bodyPost_ret (v := .agg #[.int .i64 0, .string ⟨#[]⟩, .int .i64 (s.size : Int), .int .i64 (s.size : Int)]) (by simp [results, Try.results14, go_sem]) rfl ⟨rfl, (Below.refl _ _).alloc (Nat.le_refl _) _⟩

theorem ext_conts {s : ByteArray} {r : List UInt8} (hs : s.data.toList = pre10 ++ r) : s.extract (Int.toNat 0) (Int.toNat 8) = conts := by
  have h : (s.extract (Int.toNat 0) (Int.toNat 8)).data.toList = conts.data.toList := by
    rw [ByteArray.data_extract, Array.toList_extract, hs]
    simp [pre10, conts, List.extract]
  have h2 : (s.extract (Int.toNat 0) (Int.toNat 8)).data = conts.data := by rw [← Array.toList_inj]; exact h
  generalize s.extract (Int.toNat 0) (Int.toNat 8) = x at h2 ⊢
  cases x; simp at h2; subst h2; rfl

set_option maxHeartbeats 1000000 in
set_option maxRecDepth 100000 in
theorem next_name (s : ByteArray) (r : List UInt8) (w : World) (hs : s.data.toList = pre10 ++ r) (hz : s.size ≤ 2000) :
    Calls Try.prog 14 #[.string s, .int .i64 0] w fun e w' => e = .returned (.agg #[.int .i64 1, .string conts, .int .i64 0, .int .i64 8]) ∧ Below w.heap.size w w' := by
  have h10 : 10 ≤ s.size := by
    have := congrArg List.length hs
    simp [pre10] at this
    have e : s.size = s.data.size := rfl
    omega
  have x0 := idx_run s 0 0 99 rfl (pre_at hs 0 99 rfl)
  simp only [show ((99 : UInt8).toNat : Int) = 99 from rfl] at x0
  have HS := Lib.hid hs
  clear hs
  go_enter Try.func14, Try.ntmps14
  go_wp2
  refine wp_loop_rounds 1 ?_
  rw [rounds_succ]
  go_wp2_with (go_at_call 28; refine (letter_low _ _ (by omega) (by omega)).mono ?_; rintro e w' ⟨rfl, rfl⟩)
  go_loop [6] (fun i => ∃ k : Nat, 1 ≤ k ∧ k ≤ 8 ∧ i = .int .i64 (k : Int)) (fun i => 8 - (intOf i).toNat)
  case atStart => exact ⟨1, by omega, by omega, rfl⟩
  case round =>
    obtain ⟨k, hk1, hk2, rfl⟩ := hrel
    by_cases hlt : k < 8
    · obtain ⟨b, hb, hb1, hb2⟩ : ∃ b : UInt8, pre10[k]? = some b ∧ (97 : Int) ≤ (b.toNat : Int) ∧ (b.toNat : Int) ≤ 122 := by
        rcases (show k = 1 ∨ k = 2 ∨ k = 3 ∨ k = 4 ∨ k = 5 ∨ k = 6 ∨ k = 7 from by omega) with rfl | rfl | rfl | rfl | rfl | rfl | rfl <;> exact ⟨_, rfl, by decide, by decide⟩
      have x1 := idx_run s (k : Int) k b rfl (pre_at HS.out k b hb)
      generalize (b.toNat : Int) = c at *
      clear hb
      go_wp2_with (go_at_call 29; refine (inner_low _ _ (by omega) (by omega)).mono ?_; rintro e w' ⟨rfl, rfl⟩)
      go_round
      case rel => exact ⟨k + 1, by omega, by omega, by go_num⟩
      case measure => simp [intOf]; omega
    · obtain rfl : k = 8 := by omega
      have x1 := idx_run s 8 8 32 rfl (pre_at HS.out 8 32 rfl)
      simp only [show ((32 : UInt8).toNat : Int) = 32 from rfl] at x1
      have xs : ∀ w, (Instr.slice 9 (.string s) (some (.int .i64 0)) (some (.int .i64 8)) none).run Try.prog w = .ok (.string conts) w := by
        intro w
        have := run_slice_string (P := Try.prog) w 9 s .i64 .i64 0 8 Try.underlying9 (by omega) (by omega) (by omega)
        rw [this, ext_conts HS.out]
      go_wp2_with (go_at_call 29; refine (inner_32 _).mono ?_; rintro e w' ⟨rfl, rfl⟩)
      exact bodyPost_ret (v := .agg #[.int .i64 1, .string conts, .int .i64 0, .int .i64 8]) (by simp [results, Try.results14, go_sem]) rfl ⟨rfl, (Below.refl _ _).alloc (Nat.le_refl _) _⟩

set_option maxHeartbeats 1000000 in
set_option maxRecDepth 100000 in
theorem next_str (s : ByteArray) (l : List UInt8) (w : World) (hs : s.data.toList = pre10 ++ (qbody l ++ [34])) (hz : s.size ≤ 2000) :
    Calls Try.prog 14 #[.string s, .int .i64 8] w fun e w' => e = .returned (.agg #[.int .i64 3, .string ⟨l.toArray⟩, .int .i64 9, .int .i64 (s.size : Int)]) ∧ Below w.heap.size w w' := by
  have h10 : 10 ≤ s.size := by
    have := text_size hs
    simp [pre10] at this
    omega
  have x8 := idx_run s 8 8 32 rfl (pre_at hs 8 32 rfl)
  simp only [show ((32 : UInt8).toNat : Int) = 32 from rfl] at x8
  have x9 := idx_run s 9 9 34 rfl (pre_at hs 9 34 rfl)
  simp only [show ((34 : UInt8).toNat : Int) = 34 from rfl] at x9
  have HT := fun w => text_q s pre10 l w hs hz
  generalize (⟨l.toArray⟩ : ByteArray) = r at HT ⊢
  have e10 : (pre10.length : Int) = 10 := rfl
  rw [e10] at HT
  replace HT := Lib.hid HT
  clear e10 hs
  go_enter Try.func14, Try.ntmps14
  go_wp2
  refine wp_loop_rounds 2 ?_
  rw [rounds_succ]
  go_wp2
  rw [rounds_succ]
  go_wp2_with (first | (go_at_call 28; refine (letter_34 _).mono ?_; rintro e w' ⟨rfl, rfl⟩) | (go_at_call 30; refine (digit_b _ false _ (by decide)).mono ?_; rintro e w' ⟨rfl, rfl⟩) | (go_at_call 31; refine (HT.out _).mono ?_; rintro e w1 ⟨rfl, hb⟩; obtain ⟨hc, hf⟩ := bcell hb; have hz := hb.size; simp at hz))
  refine bodyPost_ret (v := .agg #[.int .i64 3, .string r, .int .i64 9, .int .i64 (s.size : Int)]) (by simp [results, Try.results14, go_sem, hc]) rfl ⟨rfl, ?_⟩
  have hb0 : Below w.heap.size w w1 := ((Below.refl _ _).alloc (Nat.le_refl _) _).trans (hb.mono (by simp))
  exact (((hb0.setCell (by simp) _).setCell (by simp) _).setCell (by simp) _).setCell (by simp) _
end Go.Proofs.Ytkhcbhagecnndaa
