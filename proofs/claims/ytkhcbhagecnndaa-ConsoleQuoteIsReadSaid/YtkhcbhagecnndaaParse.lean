/-
  logtideref34.Parse at a query 'contains' with a quoted text.
-/
import Derived.Test.YtkhcbhagecnndaaCheck
import Derived.Deep.MidRow
namespace Go.Proofs.Ytkhcbhagecnndaa
open Go.RowKit

theorem setCells_block (b : Nat) (t : TypeId) : ∀ (vs : List Value) (o : Nat) (cur : Array Value) (w : World), w.heap[b]? = some (.cells cur t (0, 0)) → o + vs.length ≤ cur.size →
    (w.setCells b o vs).heap[b]? = some (.cells (cur.toList.take o ++ vs ++ cur.toList.drop (o + vs.length)).toArray t (0, 0))
  | [], o, cur, w, h, _ => by simp [World.setCells, h]
  | v :: r, o, cur, w, h, hl => by
    simp only [List.length_cons] at hl
    rw [World.setCells]
    rw [setCells_block b t r (o + 1) (cur.setIfInBounds o v) (w.setCell ⟨b, o, none⟩ v) (heap_setCell_same w b o cur t v h) (by simp; omega)]
    congr 2
    simp only [Array.toList_setIfInBounds]
    rw [List.take_set, List.drop_set_of_lt (by omega)]
    rw [List.take_succ_eq_append_getElem (by simp; omega)]
    rw [List.set_append_right _ _ (by simp; omega)]
    simp [List.length_take, Nat.min_eq_left (show o ≤ cur.size by omega)]
    omega
theorem setCells_all {b : Nat} {t : TypeId} {cs cur : Array Value} {w : World} (h : w.heap[b]? = some (.cells cur t (0, 0))) (hs : cur.size = cs.size) : (w.setCells b 0 cs.toList).heap[b]? = some (.cells cs t (0, 0)) := by
  rw [setCells_block b t cs.toList 0 cur w h (by simp; omega)]
  rw [List.drop_of_length_le (by simp; omega)]
  simp
theorem setCells_other (b : Nat) : ∀ (vs : List Value) (o : Nat) (w : World) (k : Nat), k ≠ b → (w.setCells b o vs).heap[k]? = w.heap[k]?
  | [], _, _, _, _ => rfl
  | v :: r, o, w, k, h => by
    rw [World.setCells, setCells_other b r (o + 1) _ k h, Below.heap_setCell _ _ _ _ h]
theorem setCells_rest (b : Nat) : ∀ (vs : List Value) (o : Nat) (w : World), (w.setCells b o vs).os = w.os ∧ (w.setCells b o vs).tape = w.tape ∧ (w.setCells b o vs).output = w.output ∧ (w.setCells b o vs).heap.size = w.heap.size
  | [], _, _ => ⟨rfl, rfl, rfl, rfl⟩
  | v :: r, o, w => by
    have h := setCells_rest b r (o + 1) (w.setCell ⟨b, o, none⟩ v)
    rw [World.setCells]
    exact ⟨h.1, h.2.1, h.2.2.1, h.2.2.2.trans (by simp [World.setCell])⟩
theorem below_setCells {B : Nat} {a w : World} (h : Below B a w) {b : Nat} (hb : B ≤ b) (o : Nat) (vs : List Value) : Below B a (w.setCells b o vs) := by
  obtain ⟨h1, h2, h3, h4⟩ := setCells_rest b vs o w
  exact h.trans ⟨h1, h2, h3, Nat.le_of_eq h4.symm, fun k hk => setCells_other b vs o w k (by omega)⟩
theorem there_block {w : World} {b : Nat} {t : TypeId} {cur : Array Value} (h : w.heap[b]? = some (.cells cur t (0, 0))) : w.there b 0 cur.size := by
  intro j hj
  rw [Nat.zero_add]
  refine ⟨?_, frozen_of_row w b j cur t h⟩
  rw [cell_of_row w b j cur t (0, 0) h]
  simp [hj]
theorem results_cell_tmp2 {P : Program} {fn : Func} {p u v : Tmp} {ty : TypeId} (h : fn.results = #[.cell p ty, .tmp u, .tmp v]) (tmps : Array Value) (w : World) (g : Nat) (t : TypeId) (cs : Array Value) (fr : Nat × Nat) (d : TypeDesc)
    (hp : tmps.getD p undef = .pointer (some ⟨g, 0, none⟩)) (hg : w.heap[g]? = some (.cells cs t fr))
    (hu : P.underlying ty = some d) (hd : (match d with | .struct _ | .array _ _ => true | _ => false) = true) (hi : (P.info? ty).map (·.size) = some cs.size) :
    (results fn tmps).run P w = .ok (.tuple #[.agg cs, tmps.getD u undef, tmps.getD v undef]) w := by
  have hp' : tmps[p]?.getD undef = .pointer (some ⟨g, 0, none⟩) := by simpa using hp
  simp [results, h, hp', asAddr, run_loadVar_row w g t ty cs fr d hg hu hd hi]

def zCells : Array Value := #[.int .i64 0, .string ⟨#[]⟩, .string ⟨#[]⟩, .int .i64 0, .slice none 0 0, .slice none 0 0, .int .i64 0, .int .i64 0, .bool false, .slice none 0 0, .slice none 0 0, .int .i64 0, .int .i64 0, .string ⟨#[]⟩, .string ⟨#[]⟩, .int .i64 0, .slice none 0 0, .string ⟨#[]⟩, .int .i64 0]

theorem qCells_one (tx : ByteArray) : (qCells tx).all (·.oneCell') = true := by simp [qCells, Value.oneCell']
theorem there_z (w : World) (tx : ByteArray) : (w.alloc (.cells zCells 30)).there w.heap.size 0 (qCells tx).size := there_block (cur := zCells) (heap_alloc_new w _)
theorem qCells_size (tx : ByteArray) : (Try.prog.info? 30).map (·.size) = some (qCells tx).size := by
  rw [show (qCells tx).size = 19 from rfl]; kernel_rfl

set_option maxHeartbeats 1000000 in
set_option maxRecDepth 100000 in
theorem parse_q (s : ByteArray) (l : List UInt8) (w : World) (hs : s.data.toList = pre10 ++ (qbody l ++ [34])) (hz : s.size ≤ 2000) (h0 : ((⟨l.toArray⟩ : ByteArray).toList == []) = false) (h300 : (⟨l.toArray⟩ : ByteArray).size ≤ 300) :
    Calls Try.prog 5 #[.string s] w fun e w' => e = .returned (.tuple #[.agg (qCells ⟨l.toArray⟩), .int .i64 s.size, .int .i64 0]) ∧ Below w.heap.size w w' := by
  have g1 : NextSays s 0 1 conts 0 8 := fun w => next_name s _ w hs hz
  have g2 : NextSays s 8 3 ⟨l.toArray⟩ 9 s.size := fun w => next_str s l w hs hz
  have g3 : NextSays s s.size 0 ⟨#[]⟩ s.size s.size := fun w => next_end s w
  have hd : decide ((2000 : Int) < (s.size : Int)) = false := by simp; omega
  clear hs
  generalize (⟨l.toArray⟩ : ByteArray) = tx at *
  go_enter Try.func5, Try.ntmps5
  go_wp2_with fail
  rw [show (#[.int .i64 0, .string ⟨#[]⟩, .string ⟨#[]⟩, .int .i64 0, .slice none 0 0, .slice none 0 0, .int .i64 0, .int .i64 0, .bool false, .slice none 0 0, .slice none 0 0, .int .i64 0, .int .i64 0, .string ⟨#[]⟩, .string ⟨#[]⟩, .int .i64 0, .slice none 0 0, .string ⟨#[]⟩, .int .i64 0] : Array Value) = zCells from rfl]
  have hP0 : PB ((w.alloc (.cells zCells 30)).alloc (.cells #[.string s, .int .i64 0, .string ⟨#[]⟩, .int .i64 0, .int .i64 0, .int .i64 0, .int .i64 0, .int .i64 0] 40)) (w.heap.size + 1) s 0 ⟨#[]⟩ 0 0 := heap_alloc2_new w _ _
  have hZ0 : ((w.alloc (.cells zCells 30)).alloc (.cells #[.string s, .int .i64 0, .string ⟨#[]⟩, .int .i64 0, .int .i64 0, .int .i64 0, .int .i64 0, .int .i64 0] 40)).heap[w.heap.size]? = some (.cells zCells 30 (0, 0)) := heap_alloc2_old w _ _
  have hW0 : Below w.heap.size w ((w.alloc (.cells zCells 30)).alloc (.cells #[.string s, .int .i64 0, .string ⟨#[]⟩, .int .i64 0, .int .i64 0, .int .i64 0, .int .i64 0, .int .i64 0] 40)) := ((Below.refl _ _).alloc (Nat.le_refl _) _).alloc (by simp) _
  have hS0 : w.heap.size + 2 ≤ ((w.alloc (.cells zCells 30)).alloc (.cells #[.string s, .int .i64 0, .string ⟨#[]⟩, .int .i64 0, .int .i64 0, .int .i64 0, .int .i64 0, .int .i64 0] 40)).heap.size := by simp
  generalize ((w.alloc (.cells zCells 30)).alloc (.cells #[.string s, .int .i64 0, .string ⟨#[]⟩, .int .i64 0, .int .i64 0, .int .i64 0, .int .i64 0, .int .i64 0] 40)) = w0 at hP0 hZ0 hW0 hS0 ⊢
  replace hZ0 := Lib.hid hZ0
  refine (step_any _ _ _ _ _ _ _ _ _ _ _ hP0 g1).mono ?_
  rintro e w1 ⟨rfl, hp1, hg1⟩
  go_wp2_with fail
  refine (test_q _ _ _ _ _ _ _ hp1 g2 g3).mono ?_
  rintro e w2 ⟨rfl, hp2, hg2⟩
  go_wp2_with (refine wpList_store_mid rfl 30 _ _ rfl w2.heap.size 0 (qCells tx) rfl rfl (there_z w2 tx) (qCells_size tx) (qCells_one tx) ?_; generalize hw3 : World.setCells _ _ _ _ = w3; replace hw3 := Lib.hid hw3)
  go_frame
  have hsz1 := hg1.size
  have hsz2 := hg2.size
  have hQ3 : w3.heap[w2.heap.size]? = some (.cells (qCells tx) 30 (0, 0)) := by rw [← hw3.out]; exact setCells_all (heap_alloc_new w2 _) rfl
  have hP3 : PB w3 (w.heap.size + 1) s 0 ⟨#[]⟩ s.size s.size := by
    rw [← hw3.out]
    exact (setCells_other _ _ _ _ _ (by omega)).trans (hp2.alloc _)
  have hZ3 : w3.heap[w.heap.size]? = some (.cells zCells 30 (0, 0)) := by
    rw [← hw3.out, setCells_other _ _ _ _ _ (by omega), Below.heap_alloc _ _ _ (by omega), hg2.block _ (by omega) (by simp), hg1.block _ (by omega) (by simp)]
    exact hZ0.out
  have hW3 : Below w.heap.size w w3 := by
    rw [← hw3.out]
    refine below_setCells (((hW0.grown hg1 (by omega) ?_).grown hg2 (by omega) ?_).alloc (by omega) _) (by omega) _ _
    · intro k hk; injection hk with hk; omega
    · intro k hk; injection hk with hk; omega
  have hS3 : w2.heap.size < w3.heap.size := (Array.getElem?_eq_some_iff.1 hQ3).1
  obtain ⟨c0, c1, c2, c3, c4, c5, c6, c7⟩ := hP3.cells
  clear c0 c2 c3 c4 c6 c7 hw3 hp1 hg1 hp2 hg2 hZ0 hP0 hW0 g1 g2 g3
  replace hQ3 := Lib.hid hQ3
  replace hP3 := Lib.hid hP3
  replace hZ3 := Lib.hid hZ3
  replace hW3 := Lib.hid hW3
  refine wp_loop_rounds 1 ?_
  rw [rounds_succ]
  go_wp2_with (first | (refine wpList_load_row rfl 30 _ rfl w2.heap.size rfl 30 (qCells tx) (0, 0) _ hQ3.out Try.underlying30 rfl (qCells_size tx) ?_) | (go_at_call 9; refine (take_end _ _ _ _ _ _ _ hP3.out).mono ?_; rintro e w' ⟨rfl, rfl⟩) | (go_at_call 13; refine (check_c _ _ h0 h300).mono ?_; rintro e w4 ⟨rfl, hb4⟩; have hQ4 := Lib.hid ((hb4.block _ hS3).trans hQ3.out); have hZ4 := Lib.hid ((hb4.block w.heap.size (by omega)).trans hZ3.out)) | (refine wpList_load_row rfl 30 _ rfl w2.heap.size rfl 30 (qCells tx) (0, 0) _ hQ4.out Try.underlying30 rfl (qCells_size tx) ?_) | (refine wpList_store_mid rfl 30 _ _ rfl w.heap.size 0 (qCells tx) rfl rfl (there_block (cur := zCells) hZ4.out) (qCells_size tx) (qCells_one tx) ?_; generalize hw5 : World.setCells _ _ _ _ = w5; replace hw5 := Lib.hid hw5))
  refine bodyPost_ret (results_cell_tmp2 rfl _ _ w.heap.size 30 (qCells tx) (0, 0) _ rfl ?_ Try.underlying30 rfl (qCells_size tx)) rfl ⟨rfl, ?_⟩
  · rw [← hw5.out]; exact setCells_all hZ4.out rfl
  · rw [← hw5.out]; exact below_setCells (hW3.out.trans (hb4.mono (by omega))) (Nat.le_refl _) _ _
end Go.Proofs.Ytkhcbhagecnndaa
