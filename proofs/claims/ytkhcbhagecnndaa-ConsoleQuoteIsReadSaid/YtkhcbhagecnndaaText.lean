/-
  logtideref34.hex and text: their walks, text at a quoted text.
-/
import Derived.Test.YtkhcbhagecnndaaQuote
import Derived.Lib.BufferRead
import Derived.IntWalk
namespace Go.Proofs.Ytkhcbhagecnndaa
open Go.RowKit

theorem idx_run (s : ByteArray) (i : Int) (n : Nat) (b : UInt8) (hi : i = n) (h : s.data.toList[n]? = some b) (w : World) :
    (Instr.index 9 (.string s) (.int .i64 i)).run Try.prog w = .ok (.int .u8 (b.toNat : Int)) w := by
  subst hi
  have hn : n < s.size := by
    have := (List.getElem?_eq_some_iff.1 h).1
    simpa using this
  rw [run_index_string _ _ _ _ _ Try.underlying9]
  have hb : s[n] = b := by
    have := (List.getElem?_eq_some_iff.1 h).2
    rw [← this]; rfl
  simp [hn, hb]

theorem or_hex : ∀ a b : Fin 16, bits BinOp.or IntKind.i64 ((a.val : Int) * 16) (b.val : Int) = ((a.val * 16 + b.val : Nat) : Int) := by decide +kernel
/-- b is the digit of v -/
def HexV (b v : Int) : Prop := 48 ≤ b ∧ b ≤ 57 ∧ v = b - 48 ∨ 97 ≤ b ∧ b ≤ 102 ∧ v = b - 87
theorem hexV_hexd (n : Nat) (h : n < 16) : HexV ((hexd n).toNat : Int) (n : Int) := by
  rcases (show n = 0 ∨ n = 1 ∨ n = 2 ∨ n = 3 ∨ n = 4 ∨ n = 5 ∨ n = 6 ∨ n = 7 ∨ n = 8 ∨ n = 9 ∨ n = 10 ∨ n = 11 ∨ n = 12 ∨ n = 13 ∨ n = 14 ∨ n = 15 from by omega) with rfl | rfl | rfl | rfl | rfl | rfl | rfl | rfl | rfl | rfl | rfl | rfl | rfl | rfl | rfl | rfl <;> (unfold HexV; decide)

theorem digit_b (b : Int) (r : Bool) (w : World) (hr : decide (48 ≤ b ∧ b ≤ 57) = r) : Calls Try.prog 30 #[.int .u8 b] w fun e w' => e = .returned (.bool r) ∧ w = w' := by
  have HR := Lib.hid hr
  clear hr
  by_cases h1 : 48 ≤ b
  · by_cases h2 : b ≤ 57
    · go_enter Try.func30, Try.ntmps30
      go_wp2
      go_ret
      exact ⟨by rw [← HR.out]; simp [h1, h2], rfl⟩
    · have h3 : decide (b ≤ 57) = false := by simpa using h2
      go_enter Try.func30, Try.ntmps30
      go_wp2
      go_ret
      exact ⟨by rw [← HR.out]; simp [h2], rfl⟩
  · have h3 : decide (48 ≤ b) = false := by simpa using h1
    go_enter Try.func30, Try.ntmps30
    go_wp2
    go_ret
    exact ⟨by rw [← HR.out]; simp; omega, rfl⟩

theorem hex_v (b v : Int) (w : World) (h : HexV b v) : Calls Try.prog 39 #[.int .u8 b] w fun e w' => e = .returned (.int .i64 v) ∧ w = w' := by
  rcases h with ⟨h1, h2, h3⟩ | ⟨h1, h2, h3⟩
  · have H3 := Lib.hid h3
    clear h3
    have hd : (decide (48 ≤ b ∧ b ≤ 57)) = true := by simp; omega
    go_enter Try.func39, Try.ntmps39
    go_wp2_with (go_at_call 30; refine (digit_b _ _ _ hd).mono ?_; rintro e w' ⟨rfl, rfl⟩)
    go_ret
    exact ⟨by rw [H3.out]; rfl, rfl⟩
  · have H3 := Lib.hid h3
    clear h3
    have hd : (decide (48 ≤ b ∧ b ≤ 57)) = false := by simp; omega
    go_enter Try.func39, Try.ntmps39
    go_wp2_with (go_at_call 30; refine (digit_b _ _ _ hd).mono ?_; rintro e w' ⟨rfl, rfl⟩)
    go_ret
    have e : v = b - 97 + 10 := by rw [H3.out]; omega
    exact ⟨by rw [e]; rfl, rfl⟩

theorem text_at {s : ByteArray} {pre l : List UInt8} (hs : s.data.toList = pre ++ (qbody l ++ [34])) {k : Nat} (hk : k < l.length) {q : List UInt8} (hq : qch l[k] = q) (j : Nat) (b : UInt8) (hj : q[j]? = some b) :
    s.data.toList[pre.length + (qbody (l.take k)).length + j]? = some b := by
  have e : qbody l = qbody (l.take k) ++ (q ++ qbody (l.drop (k + 1))) := by
    have e1 : l = l.take k ++ (l[k] :: l.drop (k + 1)) := by rw [← List.drop_eq_getElem_cons hk, List.take_append_drop]
    have e2 := congrArg qbody e1
    rw [qbody_append, qbody_cons, hq] at e2
    exact e2
  have hjl : j < q.length := (List.getElem?_eq_some_iff.1 hj).1
  rw [hs, Nat.add_assoc, List.getElem?_append_right (by omega), Nat.add_sub_cancel_left, e, List.append_assoc, List.getElem?_append_right (by omega), Nat.add_sub_cancel_left, List.append_assoc, List.getElem?_append_left hjl, hj]
theorem text_end {s : ByteArray} {pre l : List UInt8} (hs : s.data.toList = pre ++ (qbody l ++ [34])) : s.data.toList[pre.length + (qbody l).length]? = some 34 := by
  rw [hs, List.getElem?_append_right (by omega), Nat.add_sub_cancel_left, List.getElem?_append_right (by omega)]
  simp
theorem text_size {s : ByteArray} {pre l : List UInt8} (hs : s.data.toList = pre ++ (qbody l ++ [34])) : s.size = pre.length + (qbody l).length + 1 := by
  have := congrArg List.length hs
  simp at this
  have e : s.size = s.data.size := rfl
  omega
theorem qbody_take_le (l : List UInt8) (k : Nat) : (qbody (l.take k)).length ≤ (qbody l).length := by
  have e2 := congrArg (fun x => (qbody x).length) (List.take_append_drop k l)
  simp only [qbody_append, List.length_append] at e2
  omega

/-- what the loop of text keeps -/
def TInv (B : Nat) (w wr : World) (v : Value) (l : List UInt8) : Prop := wr.ownsRow B 5 1 v l.length (cellsB l) ∧ Below B w wr ∧ B ≤ wr.heap.size
theorem TInv.push {B : Nat} {w wr w0 w1 : World} {v v' : Value} {l : List UInt8} (h : TInv B w wr v l) {o : Obj} (m : List UInt8) {n : Nat} {xs : List Value}
    (hown : w1.ownsRow B 5 1 v' n xs) (hn : n = l.length + m.length) (hx : xs = cellsB l ++ cellsB m) (hg : w0.grownBy w1 v.ownBlock) (h0 : w0.heap = (wr.alloc o).heap ∧ w0.os = wr.os ∧ w0.tape = wr.tape ∧ w0.output = wr.output) : TInv B w w1 v' (l ++ m) := by
  have hs := h.2.2
  have hg' : (wr.alloc o).grownBy w1 v.ownBlock := ⟨hg.os.trans h0.2.1, hg.tape.trans h0.2.2.1, hg.output.trans h0.2.2.2, by rw [← h0.1]; exact hg.size, by rw [← h0.1]; exact hg.block⟩
  have hsz := hg'.size
  simp at hsz
  subst hn hx
  refine ⟨by rw [List.length_append, cellsB_append]; exact hown, ?_, by omega⟩
  refine (h.2.1.alloc (by omega) o).grown hg' (by simp; omega) ?_
  intro k hk
  exact (h.1.lt k hk).1
theorem conv_own_any {w : World} {base n : Nat} {v : Value} {l : List UInt8} (h : w.ownsRow base 5 1 v n (cellsB l)) :
    (convert 49 9 v).run Try.prog w = .ok (.string ⟨l.toArray⟩) w := by
  rcases h.2 with ⟨rfl, rfl⟩ | ⟨g, cap, cur, rfl, _⟩
  · have : l = [] := List.eq_nil_of_length_eq_zero (by have := h.1; simpa [cellsB] using this)
    subst this
    exact Lib.run_convert_nil_bytes w _ _ 5 0 Try.underlying49 Try.underlying5 Try.underlying9
  · exact conv_own h

set_option maxHeartbeats 1000000 in
set_option maxRecDepth 100000 in
theorem text_q (s : ByteArray) (pre l : List UInt8) (w : World) (hs : s.data.toList = pre ++ (qbody l ++ [34])) (hsz : s.size ≤ 2000) :
    Calls Try.prog 31 #[.string s, .int .i64 (pre.length : Int)] w fun e w' => e = .returned (.tuple #[.string ⟨l.toArray⟩, .int .i64 (s.size : Int), .bool true]) ∧ Below w.heap.size w w' := by
  obtain ⟨i0, hi, hz0, hz1, hz2⟩ := info_parts info_u8
  have hsize := text_size hs
  have Hs := Lib.hid hs
  have Hsize := Lib.hid hsize
  clear hs hsize
  go_enter Try.func31, Try.ntmps31
  go_wp2
  go_loopw [1, 7] (fun i v wr => ∃ k n : Nat, k ≤ l.length ∧ n = pre.length + (qbody (l.take k)).length ∧ i = .int .i64 (n : Int) ∧ TInv w.heap.size w wr v (l.take k)) (fun i _ _ => s.size - (intOf i).toNat)
  case atStart =>
    exact ⟨0, pre.length, Nat.zero_le _, by simp [qbody], rfl, World.ownsRow_nil _ _ _ _, Below.refl _ _, Nat.le_refl _⟩
  case round =>
    obtain ⟨k, n, hk, hn, rfl, ht⟩ := hrel
    have hn' : n < s.size := by rw [Hsize.out, hn]; have := qbody_take_le l k; omega
    have Hn := Lib.hid hn
    have HT := Lib.hid ht
    clear hn ht
    by_cases hlt : k < l.length
    · have hkl : l.length ≤ 2000 := by have := (qbody_len l).1; have := Hsize.out; omega
      have hwr := HT.out.2.2
      generalize hc : l[k].toNat = c
      have Hc := Lib.hid hc
      have hb := UInt8.toNat_lt l[k]
      rw [hc] at hb
      clear hc
      have HS : l.take (k + 1) = l.take k ++ [l[k]] := List.take_succ_eq_append_getElem hlt
      have hq2 : (qbody (l.take (k + 1))).length = (qbody (l.take k)).length + (qch l[k]).length := by rw [HS, qbody_snoc, List.length_append]
      replace HS := Lib.hid HS
      replace hq2 := Lib.hid hq2
      by_cases h1 : c = 34 ∨ c = 92
      · have hqc := qch_esc _ _ Hc.out h1
        have e0 := text_at Hs.out hlt hqc 0 92 rfl
        have e1 := text_at Hs.out hlt hqc 1 l[k] rfl
        have hn3 : n + 1 < s.size := by
          have := (List.getElem?_eq_some_iff.1 e1).1
          rw [← Hn.out] at this; simpa using this
        rw [← Hn.out] at e0 e1
        have x0 := idx_run s (n : Int) n 92 rfl e0
        have x1 := idx_run s ((n : Int) + 1) (n + 1) l[k] (by omega) e1
        have hnx := Lib.hid (show n + 2 = pre.length + (qbody (l.take (k + 1))).length by rw [hq2.out, hqc, Hn.out]; rfl)
        rw [Hc.out] at x1
        clear e0 e1 hqc
        simp only [show ((92 : UInt8).toNat : Int) = 92 from rfl] at x0
        rcases h1 with h34 | h92
        · have n34 : ((c : Int) == 34) = true := by rw [beq_iff_eq]; omega
          clear h34
          go_wp2_with (at_builtin; refine wpList_append_lies _ rfl (.tmp 59) (.tmp 64) _ rfl w.heap.size 5 i0 _ 1 1 Try.underlying49 hi hz0 hz1 hz2 rfl (by omega) u7 _ _ (by rfl) (HT.out.1.alloc _) ⟨wr.heap.size, 0, none⟩ 1 1 [.int .u8 (c : Int)] (by rfl) (by rfl) (World.news_of_block (heap_alloc_new wr _)) (by simp [Value.oneCell']) (by omega) (by simp [maxLen]; omega) (by simp; omega) (by simp; omega) (wr.heap.size + 1) (by simp) ?_; intro gg cap w1 hown1 hgrow hat hlt)
          have hq1 := HT.out.push [l[k]] hown1 (by simp) (by rw [← Hc.out]; rfl) hgrow ⟨rfl, rfl, rfl, rfl⟩
          rw [← HS.out, List.length_take_of_le hk] at hq1
          have HT1 := Lib.hid hq1
          clear hown1 hgrow hat hq1
          go_wp2
          go_roundw
          case rel => exact ⟨k + 1, _, by omega, hnx.out, by go_num, HT1.out⟩
          case measure => simp [intOf]; omega
        · have n34 : ((c : Int) == 34) = false := by rw [beq_eq_false_iff_ne]; omega
          have n92 : ((c : Int) == 92) = true := by rw [beq_iff_eq]; omega
          clear h92
          go_wp2_with (at_builtin; refine wpList_append_lies _ rfl (.tmp 59) (.tmp 64) _ rfl w.heap.size 5 i0 _ 1 1 Try.underlying49 hi hz0 hz1 hz2 rfl (by omega) u7 _ _ (by rfl) (HT.out.1.alloc _) ⟨wr.heap.size, 0, none⟩ 1 1 [.int .u8 (c : Int)] (by rfl) (by rfl) (World.news_of_block (heap_alloc_new wr _)) (by simp [Value.oneCell']) (by omega) (by simp [maxLen]; omega) (by simp; omega) (by simp; omega) (wr.heap.size + 1) (by simp) ?_; intro gg cap w1 hown1 hgrow hat hlt)
          have hq1 := HT.out.push [l[k]] hown1 (by simp) (by rw [← Hc.out]; rfl) hgrow ⟨rfl, rfl, rfl, rfl⟩
          rw [← HS.out, List.length_take_of_le hk] at hq1
          have HT1 := Lib.hid hq1
          clear hown1 hgrow hat hq1
          go_wp2
          go_roundw
          case rel => exact ⟨k + 1, _, by omega, hnx.out, by go_num, HT1.out⟩
          case measure => simp [intOf]; omega
      · have n34 : ((c : Int) == 34) = false := by rw [beq_eq_false_iff_ne]; omega
        have n92 : ((c : Int) == 92) = false := by rw [beq_eq_false_iff_ne]; omega
        have m92 : ((c : Int) != 92) = true := by rw [bne_iff_ne]; omega
        by_cases h2 : c < 32 ∨ 126 < c
        · have hqc := qch_hex _ _ Hc.out h1 h2
          have e0 := text_at Hs.out hlt hqc 0 92 rfl
          have e1 := text_at Hs.out hlt hqc 1 120 rfl
          have e2 := text_at Hs.out hlt hqc 2 _ rfl
          have e3 := text_at Hs.out hlt hqc 3 _ rfl
          have hn3 : n + 3 < s.size := by
            have := (List.getElem?_eq_some_iff.1 e3).1
            rw [← Hn.out] at this; simpa using this
          rw [← Hn.out] at e0 e1 e2 e3
          have x0 := idx_run s (n : Int) n 92 rfl e0
          have x1 := idx_run s ((n : Int) + 1) (n + 1) 120 (by omega) e1
          have x2 := idx_run s ((n : Int) + 2) (n + 2) _ (by omega) e2
          have x3 := idx_run s ((n : Int) + 3) (n + 3) _ (by omega) e3
          have g2 := hexV_hexd (c / 16) (by omega)
          have g3 := hexV_hexd (c % 16) (by omega)
          have hnx := Lib.hid (show n + 4 = pre.length + (qbody (l.take (k + 1))).length by rw [hq2.out, hqc, Hn.out]; rfl)
          simp only [show ((92 : UInt8).toNat : Int) = 92 from rfl] at x0
          simp only [show ((120 : UInt8).toNat : Int) = 120 from rfl] at x1
          generalize ((hexd (c / 16)).toNat : Int) = d2 at x2 g2
          generalize ((hexd (c % 16)).toNat : Int) = d3 at x3 g3
          clear e0 e1 e2 e3 hqc h1 h2 n34 n92 m92
          go_wp2_with (go_at_call 39; refine (hex_v _ _ _ (by assumption)).mono ?_; rintro e w' ⟨rfl, rfl⟩)
          generalize hv2 : c / 16 = v2 at g2
          generalize hv3 : c % 16 = v3 at g3
          have b2 : v2 < 16 := by omega
          have b3 : v3 < 16 := by omega
          have hv := Lib.hid (show c = v2 * 16 + v3 by omega)
          clear hv2 hv3
          have w2 : IntKind.i64.wrap ((n : Int) + 2) = (n : Int) + 2 := IntWalk.i64_in _ (by omega)
          have w3 : IntKind.i64.wrap ((n : Int) + 3) = (n : Int) + 3 := IntWalk.i64_in _ (by omega)
          have w4 : IntKind.i64.wrap ((v2 : Int) * 16) = (v2 : Int) * 16 := IntWalk.i64_in _ (by omega)
          have w5 : bits BinOp.or IntKind.i64 ((v2 : Int) * 16) (v3 : Int) = (c : Int) := by rw [hv.out]; exact or_hex ⟨v2, b2⟩ ⟨v3, b3⟩
          have w6 : IntKind.u8.wrap (c : Int) = (c : Int) := by rw [IntKind.wrap_u8]; omega
          go_region_held3 (fun _ => True) (trivial) (first | (go_at_call 39; refine (hex_v _ _ _ (by assumption)).mono ?_; rintro e w' ⟨rfl, rfl⟩) | (refine step_append_lies _ (by rfl) _ _ _ (by rfl) w.heap.size 5 i0 _ 1 1 Try.underlying49 hi hz0 hz1 hz2 rfl (by omega) u7 _ _ (by rfl) ((HT.out.1.alloc _).drew) ⟨wr.heap.size, 0, none⟩ 1 1 [.int .u8 (c : Int)] (by rfl) (by rfl) (World.news_of_block (heap_alloc_new wr _)) (by simp [Value.oneCell']) (by omega) (by simp [maxLen]; omega) (by simp; omega) (by simp; omega) (wr.heap.size + 1) (by simp) ?_; intro gg cap w1 hown1 hgrow hat hlt))
          all_goals
            have hq1 := HT.out.push [l[k]] hown1 (by simp) (by rw [← Hc.out]; rfl) hgrow ⟨rfl, rfl, rfl, rfl⟩
            rw [← HS.out, List.length_take_of_le hk] at hq1
            have HT1 := Lib.hid hq1
            clear hown1 hgrow hat hq1 w2 w3 w4 w5 w6
            go_wp2
            go_roundw
            case rel => exact ⟨k + 1, _, by omega, hnx.out, by go_num, HT1.out⟩
            case measure => simp [intOf]; omega
        · have hqc := qch_self _ _ Hc.out h1 h2
          have e0 := text_at Hs.out hlt hqc 0 l[k] rfl
          rw [← Hn.out] at e0
          have x0 := idx_run s (n : Int) n l[k] rfl e0
          have hnx := Lib.hid (show n + 1 = pre.length + (qbody (l.take (k + 1))).length by rw [hq2.out, hqc, Hn.out]; rfl)
          rw [Hc.out] at x0
          clear e0 hqc h1
          have hd : decide ((c : Int) < 32) = false := by simp; omega
          have hd2 : decide ((126 : Int) < (c : Int)) = false := by simp; omega
          clear h2
          go_wp2_with (at_builtin; refine wpList_append_lies _ rfl (.tmp 33) (.tmp 35) _ rfl w.heap.size 5 i0 _ 1 1 Try.underlying49 hi hz0 hz1 hz2 rfl (by omega) u7 _ _ (by rfl) (HT.out.1.alloc _) ⟨wr.heap.size, 0, none⟩ 1 1 [.int .u8 (c : Int)] (by rfl) (by rfl) (World.news_of_block (heap_alloc_new wr _)) (by simp [Value.oneCell']) (by omega) (by simp [maxLen]; omega) (by simp; omega) (by simp; omega) (wr.heap.size + 1) (by simp) ?_; intro gg cap w1 hown1 hgrow hat hlt)
          have hq1 := HT.out.push [l[k]] hown1 (by simp) (by rw [← Hc.out]; rfl) hgrow ⟨rfl, rfl, rfl, rfl⟩
          rw [← HS.out, List.length_take_of_le hk] at hq1
          have HT1 := Lib.hid hq1
          clear hown1 hgrow hat hq1
          go_wp2
          go_roundw
          case rel => exact ⟨k + 1, _, by omega, hnx.out, by go_num, HT1.out⟩
          case measure => simp [intOf]; omega
    · have hn2 : s.data.toList[n]? = some 34 := by rw [Hn.out, List.take_of_length_le (by omega)]; exact text_end Hs.out
      have hx := idx_run s (n : Int) n 34 rfl hn2
      have hcv := conv_own_any HT.out.1
      rw [List.take_of_length_le (by omega)] at hcv
      have he := Lib.hid (show ((n : Int) + 1) = (s.size : Int) by rw [Hsize.out, Hn.out, List.take_of_length_le (by omega)]; omega)
      generalize hr : (⟨l.toArray⟩ : ByteArray) = r at hcv
      have HR := Lib.hid hr
      clear hr
      go_wp2
      go_ret3
      exact ⟨by rw [HR.out, ← he.out]; rfl, HT.out.2.1⟩

end Go.Proofs.Ytkhcbhagecnndaa
