/-
  console.Quote: its walk.
-/
import Derived.Test.YtkhcbhagecnndaaProg
import Derived.Test.YtkhcbhagecnndaaPlain
import Derived.WalkKit
import Derived.WalkSpells
import Derived.WalkLawsBesides
import Derived.Lib.Hide
import Derived.Laws.IdiomStrings
import Derived.RegionTactic
import Derived.Deep.RegionLaw
import Derived.Deep.RegionHeld3
import Derived.Deep.AppendLies
import Derived.Deep.QuietTactic
import Derived.BigQuiet
namespace Go.Proofs.Ytkhcbhagecnndaa
open Go.RowKit

theorem info_u8 : (Try.prog.info? 5).map (fun i => (i.zero, i.size, i.bytes)) = some (some (.int .u8 0), 1, 1) := by kernel_rfl


theorem hex_at (n : Nat) (h : n < 16) (w : World) :
    (Instr.index 9 (.string ⟨#[48, 49, 50, 51, 52, 53, 54, 55, 56, 57, 97, 98, 99, 100, 101, 102]⟩) (.int .u8 (n : Int))).run Try.prog w = .ok (.int .u8 ((hexd n).toNat : Int)) w := by
  rcases (show n = 0 ∨ n = 1 ∨ n = 2 ∨ n = 3 ∨ n = 4 ∨ n = 5 ∨ n = 6 ∨ n = 7 ∨ n = 8 ∨ n = 9 ∨ n = 10 ∨ n = 11 ∨ n = 12 ∨ n = 13 ∨ n = 14 ∨ n = 15 from by omega) with rfl | rfl | rfl | rfl | rfl | rfl | rfl | rfl | rfl | rfl | rfl | rfl | rfl | rfl | rfl | rfl <;> kernel_rfl

/-- what a round of the loop keeps: the bytes written so far are owned; the text's bytes lie in block B + 1. -/
def QInv (B : Nat) (w wr : World) (C : Array Value) (v : Value) (l : List UInt8) : Prop :=
  wr.ownsRow B 5 1 v l.length (cellsB l) ∧ wr.heap[B + 1]? = some (.cells C 5 (C.size, C.size + 1)) ∧ Below B w wr ∧ B + 2 ≤ wr.heap.size

theorem QInv.ne {B : Nat} {w wr : World} {C : Array Value} {v : Value} {l : List UInt8} (h : QInv B w wr C v l) : some (B + 1) ≠ v.ownBlock := by
  intro he
  rcases h.1.2 with ⟨rfl, _⟩ | ⟨g, cap, cur, rfl, _, hh, _⟩
  · simp [Value.ownBlock] at he
  · have : B + 1 = g := by simpa [Value.ownBlock] using he
    subst this
    rw [h.2.1] at hh
    injection hh with hh
    injection hh with _ _ h3
    injection h3 with h4 h5
    omega
theorem QInv.cell {B : Nat} {w wr : World} {s : ByteArray} {C : Array Value} {v : Value} {l : List UInt8} (h : QInv B w wr C v l) {cap k : Nat} (hC : C = bytesRow s cap) (hk : k < s.size) : wr.cell? ⟨B + 1, k, none⟩ = some (.int .u8 (s[k].toNat : Int)) := by
  rw [cell_of_row wr (B + 1) k C _ _ h.2.1, hC, bytesRow_at s cap k hk]; rfl
/-- behind the block of the new elements and the append. -/
theorem QInv.push {B : Nat} {w wr w0 w1 : World} {C : Array Value} {v v' : Value} {l : List UInt8} (h : QInv B w wr C v l) {o : Obj} (m : List UInt8) {n : Nat} {xs : List Value}
    (hown : w1.ownsRow B 5 1 v' n xs) (hn : n = l.length + m.length) (hx : xs = cellsB l ++ cellsB m) (hg : w0.grownBy w1 v.ownBlock) (h0 : w0.heap = (wr.alloc o).heap ∧ w0.os = wr.os ∧ w0.tape = wr.tape ∧ w0.output = wr.output) : QInv B w w1 C v' (l ++ m) := by
  have hs := h.2.2.2
  have hg' : (wr.alloc o).grownBy w1 v.ownBlock := ⟨hg.os.trans h0.2.1, hg.tape.trans h0.2.2.1, hg.output.trans h0.2.2.2, by rw [← h0.1]; exact hg.size, by rw [← h0.1]; exact hg.block⟩
  have hsz := hg'.size
  simp at hsz
  subst hn hx
  refine ⟨by rw [List.length_append, cellsB_append]; exact hown, ?_, ?_, by omega⟩
  · rw [hg'.block (B + 1) (by simp; omega) h.ne, Below.heap_alloc wr o (B + 1) (by omega)]; exact h.2.1
  · refine (h.2.2.1.alloc (by omega) o).grown hg' (by simp; omega) ?_
    intro k hk
    exact (h.1.lt k hk).1

theorem conv_own {w : World} {base g n cap : Nat} {l : List UInt8} (h : w.ownsRow base 5 1 (.slice (some ⟨g, 0, none⟩) n cap) n (cellsB l)) :
    (convert 49 9 (.slice (some ⟨g, 0, none⟩) n cap)).run Try.prog w = .ok (.string ⟨l.toArray⟩) w := by
  have hn : n = l.length := by have := h.1; simpa [cellsB] using this.symm
  subst hn
  refine run_convert_bytes_back w 49 9 5 ⟨g, 0, none⟩ cap l Try.underlying49 Try.underlying5 Try.underlying9 ?_
  intro j hj
  refine h.cells (g := g) rfl j _ ?_
  simp [cellsB, hj]

set_option maxHeartbeats 1000000 in
set_option maxRecDepth 100000 in
theorem quote_any (s : ByteArray) (w : World) (hs : s.size ≤ 1000) :
    Calls Try.prog 6 #[.string s] w fun e w' => e = .returned (.string ⟨(quoted s.data.toList).toArray⟩) ∧ Below w.heap.size w w' := by
  obtain ⟨i0, hi, hz0, hz1, hz2⟩ := info_parts info_u8
  have kc := fun (w : World) => run_bytes_of_string (P := Try.prog) w 9 49 5 s Try.underlying9 Try.underlying49 Try.underlying5
  go_enter Try.func6, Try.ntmps6
  go_wp2
  generalize hcap : grownCap (w.alloc (Obj.cells #[Value.int IntKind.u8 34] 5)) s.size 0 5 = cap0
  have hC : ∃ C, C = bytesRow s cap0 := ⟨_, rfl⟩
  obtain ⟨C, hC⟩ := hC
  rw [← hC]
  have HC := Lib.hid hC
  clear hcap hC kc
  go_loopw [3, 10] (fun v i wr => ∃ k : Nat, k ≤ s.size ∧ i = .int .i64 k ∧ QInv w.heap.size w wr C v (34 :: qbody (s.data.toList.take k))) (fun _ i _ => s.size - (intOf i).toNat)
  case atStart =>
    refine ⟨0, Nat.zero_le _, rfl, ?_, ?_, ?_, ?_⟩
    · exact ((World.ownsRow_lit (base := w.heap.size) (e := 5) (size := 1) w #[.int .u8 34] 1 (Nat.le_refl _) (by decide) rfl).alloc _).drew
    · have := heap_alloc_new (w.alloc (Obj.cells #[Value.int IntKind.u8 34] 5)) (Obj.cells C 5 (C.size, C.size + 1))
      exact (congrArg (fun i => ((w.alloc (Obj.cells #[Value.int IntKind.u8 34] 5)).alloc (Obj.cells C 5 (C.size, C.size + 1))).heap[i]?) (by simp)).trans this
    · exact (((Below.refl _ _).alloc (Nat.le_refl _) _).alloc (by simp) _).drew
    · simp
  case round =>
    obtain ⟨k, hk, rfl, hq⟩ := hrel
    have hlen : (s.data.toList.take k).length = k := by rw [List.length_take]; exact Nat.min_eq_left hk
    have hql := qbody_len (s.data.toList.take k)
    rw [hlen] at hql
    have hwr := hq.2.2.2
    clear hlen
    by_cases hlt : k < s.size
    · have hcell := hq.cell HC.out hlt
      have hb := UInt8.toNat_lt s[k]
      have HQ := Lib.hid hq
      clear hq
      generalize hc : s[k].toNat = c at *
      have Hc := Lib.hid hc
      clear hc
      have HS : ∀ x, qch s[k] = x → (34 :: qbody (s.data.toList.take (k + 1))) = (34 :: qbody (s.data.toList.take k)) ++ x := by
        intro x hx; rw [qbody_take s k hlt, hx]; rfl
      replace HS := Lib.hid HS
      by_cases h1 : c = 34 ∨ c = 92
      · have hq := Lib.hid (HS.out _ (qch_esc _ _ Hc.out h1))
        clear HS
        rcases h1 with h34 | h92
        · have n34 : ((c : Int) == 34) = true := by rw [beq_iff_eq]; omega
          clear h34
          go_wp2_with (at_builtin; refine wpList_append_lies _ rfl (.tmp 25) (.tmp 27) _ rfl w.heap.size 5 i0 _ 1 1 Try.underlying49 hi hz0 hz1 hz2 rfl (by omega) u3 _ _ (by rfl) (HQ.out.1.alloc _) ⟨wr.heap.size, 0, none⟩ 2 2 [.int .u8 92, .int .u8 (c : Int)] (by rfl) (by rfl) (World.news_of_block (heap_alloc_new wr _)) (by simp [Value.oneCell']) (by omega) (by simp [maxLen]; omega) (by simp; omega) (by simp; omega) (wr.heap.size + 1) (by simp) ?_; intro gg cap w1 hown1 hgrow hat hlt)
          have hq1 := HQ.out.push [92, s[k]] hown1 (by simp) (by rw [← Hc.out]; rfl) hgrow ⟨rfl, rfl, rfl, rfl⟩
          rw [← hq.out] at hq1
          have HQ1 := Lib.hid hq1
          clear hown1 hgrow hat hq1
          go_wp2
          go_roundw
          case rel => exact ⟨k + 1, by omega, by go_num, HQ1.out⟩
          case measure => simp [intOf]; omega
        · have n34 : ((c : Int) == 34) = false := by rw [beq_eq_false_iff_ne]; omega
          have n92 : ((c : Int) == 92) = true := by rw [beq_iff_eq]; omega
          clear h92
          go_wp2_with (at_builtin; refine wpList_append_lies _ rfl (.tmp 25) (.tmp 27) _ rfl w.heap.size 5 i0 _ 1 1 Try.underlying49 hi hz0 hz1 hz2 rfl (by omega) u3 _ _ (by rfl) (HQ.out.1.alloc _) ⟨wr.heap.size, 0, none⟩ 2 2 [.int .u8 92, .int .u8 (c : Int)] (by rfl) (by rfl) (World.news_of_block (heap_alloc_new wr _)) (by simp [Value.oneCell']) (by omega) (by simp [maxLen]; omega) (by simp; omega) (by simp; omega) (wr.heap.size + 1) (by simp) ?_; intro gg cap w1 hown1 hgrow hat hlt)
          have hq1 := HQ.out.push [92, s[k]] hown1 (by simp) (by rw [← Hc.out]; rfl) hgrow ⟨rfl, rfl, rfl, rfl⟩
          rw [← hq.out] at hq1
          have HQ1 := Lib.hid hq1
          clear hown1 hgrow hat hq1
          go_wp2
          go_roundw
          case rel => exact ⟨k + 1, by omega, by go_num, HQ1.out⟩
          case measure => simp [intOf]; omega
      · have n34 : ((c : Int) == 34) = false := by rw [beq_eq_false_iff_ne]; omega
        have n92 : ((c : Int) == 92) = false := by rw [beq_eq_false_iff_ne]; omega
        by_cases h2 : c < 32 ∨ 126 < c
        · have hq := Lib.hid (HS.out _ (qch_hex _ _ Hc.out h1 h2))
          have x15 := u8_and15 (x := (c : Int)) (by omega) (by omega)
          have x1 := fun w => hex_at (c / 16) (by omega) w
          have x2 := fun w => hex_at (c % 16) (by omega) w
          simp only [Int.natCast_ediv, Int.natCast_emod, Int.cast_ofNat_Int] at x1 x2
          clear h1
          by_cases h3 : c < 32
          · have hd : decide ((c : Int) < 32) = true := by simp; omega
            clear h2
            go_wp2_with fail
            go_region_held3 (fun _ => True) (trivial) ((refine step_append_lies _ (by rfl) _ _ _ (by rfl) w.heap.size 5 i0 _ 1 1 Try.underlying49 hi hz0 hz1 hz2 rfl (by omega) u3 _ _ (by rfl) ((HQ.out.1.alloc _).drew) ⟨wr.heap.size, 0, none⟩ 4 4 (cellsB [92, 120, hexd (c / 16), hexd (c % 16)]) (by rfl) (by rfl) (World.news_of_block (cs := #[.int .u8 92, .int .u8 120, .int .u8 ((hexd (c / 16)).toNat : Int), .int .u8 ((hexd (c % 16)).toNat : Int)]) (t := 5) (fr := (0, 0)) (heap_alloc_new wr _)) (cellsB_one _) (by omega) (by simp [maxLen]; omega) (by simp; omega) (by simp; omega) (wr.heap.size + 1) (by simp) ?_; intro gg cap w1 hown1 hgrow hat hlt))
            all_goals
              have hq1 := HQ.out.push [92, 120, hexd (c / 16), hexd (c % 16)] hown1 (by simp) rfl hgrow ⟨rfl, rfl, rfl, rfl⟩
              rw [← hq.out] at hq1
              have HQ1 := Lib.hid hq1
              clear hown1 hgrow hat hq1 x1 x2 x15
              go_wp2
              go_roundw
              case rel => exact ⟨k + 1, by omega, by go_num, HQ1.out⟩
              case measure => simp [intOf]; omega
          · have h4 : 126 < c := by omega
            have hd : decide ((c : Int) < 32) = false := by simp; omega
            have hd2 : decide ((126 : Int) < (c : Int)) = true := by simp; omega
            clear h2
            go_wp2_with fail
            go_region_held3 (fun _ => True) (trivial) ((refine step_append_lies _ (by rfl) _ _ _ (by rfl) w.heap.size 5 i0 _ 1 1 Try.underlying49 hi hz0 hz1 hz2 rfl (by omega) u3 _ _ (by rfl) ((HQ.out.1.alloc _).drew) ⟨wr.heap.size, 0, none⟩ 4 4 (cellsB [92, 120, hexd (c / 16), hexd (c % 16)]) (by rfl) (by rfl) (World.news_of_block (cs := #[.int .u8 92, .int .u8 120, .int .u8 ((hexd (c / 16)).toNat : Int), .int .u8 ((hexd (c % 16)).toNat : Int)]) (t := 5) (fr := (0, 0)) (heap_alloc_new wr _)) (cellsB_one _) (by omega) (by simp [maxLen]; omega) (by simp; omega) (by simp; omega) (wr.heap.size + 1) (by simp) ?_; intro gg cap w1 hown1 hgrow hat hlt))
            all_goals
              have hq1 := HQ.out.push [92, 120, hexd (c / 16), hexd (c % 16)] hown1 (by simp) rfl hgrow ⟨rfl, rfl, rfl, rfl⟩
              rw [← hq.out] at hq1
              have HQ1 := Lib.hid hq1
              clear hown1 hgrow hat hq1 x1 x2 x15
              go_wp2
              go_roundw
              case rel => exact ⟨k + 1, by omega, by go_num, HQ1.out⟩
              case measure => simp [intOf]; omega
        · have hq := Lib.hid (HS.out _ (qch_self _ _ Hc.out h1 h2))
          clear HS
          have hd : decide ((c : Int) < 32) = false := by simp; omega
          have hd2 : decide ((126 : Int) < (c : Int)) = false := by simp; omega
          clear h1 h2
          go_wp2_with (at_builtin; refine wpList_append_lies _ rfl (.tmp 14) (.tmp 16) _ rfl w.heap.size 5 i0 _ 1 1 Try.underlying49 hi hz0 hz1 hz2 rfl (by omega) u3 _ _ (by rfl) (HQ.out.1.alloc _) ⟨wr.heap.size, 0, none⟩ 1 1 [.int .u8 (c : Int)] (by rfl) (by rfl) (World.news_of_block (heap_alloc_new wr _)) (by simp [Value.oneCell']) (by omega) (by simp [maxLen]; omega) (by simp; omega) (by simp; omega) (wr.heap.size + 1) (by simp) ?_; intro gg cap w1 hown1 hgrow hat hlt)
          have hq1 := HQ.out.push [s[k]] hown1 (by simp) (by rw [← Hc.out]; rfl) hgrow ⟨rfl, rfl, rfl, rfl⟩
          rw [← hq.out] at hq1
          have HQ1 := Lib.hid hq1
          clear hown1 hgrow hat hq1
          go_wp2
          go_roundw
          case rel => exact ⟨k + 1, by omega, by go_num, HQ1.out⟩
          case measure => simp [intOf]; omega
    · have hks : k = s.size := by omega
      have HQ := Lib.hid hq
      have hge : ¬ ((k : Int) < (s.size : Int)) := by omega
      clear hq
      have HK := Lib.hid hks
      clear hks
      go_wp2_with (at_builtin; (refine wpList_append_lies _ rfl (.tmp 46) (.tmp 47) _ rfl w.heap.size 5 i0 _ 1 1 Try.underlying49 hi hz0 hz1 hz2 rfl (by omega) u3 _ _ (by rfl) (HQ.out.1.alloc _) ⟨wr.heap.size, 0, none⟩ 1 1 [.int .u8 34] (by rfl) (by rfl) (World.news_of_block (heap_alloc_new wr _)) (by simp [Value.oneCell']) (by omega) (by simp [maxLen]; omega) (by simp; omega) (by simp; omega) (wr.heap.size + 1) (by simp) ?_); intro gg cap w1 hown1 hgrow hat hlt; (have hq1 := HQ.out.push [34] hown1 (by simp) rfl hgrow ⟨rfl, rfl, rfl, rfl⟩); (have hcv := conv_own (l := (34 :: qbody (s.data.toList.take k)) ++ [34]) (by rw [cellsB_append]; exact hown1)); simp only [List.length_cons] at hcv; generalize hr : (⟨((34 :: qbody (s.data.toList.take k)) ++ [34]).toArray⟩ : ByteArray) = r at hcv; have HR := Lib.hid hr; clear hr; have HQ1 := Lib.hid hq1; clear hq1 hown1 hgrow hat)
      go_ret
      refine ⟨?_, HQ1.out.2.2.1⟩
      rw [← HR.out, HK.out, List.take_of_length_le (by simp)]
      rfl
end Go.Proofs.Ytkhcbhagecnndaa
