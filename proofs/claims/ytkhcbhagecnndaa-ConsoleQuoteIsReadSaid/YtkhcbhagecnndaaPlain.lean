/-
  Plain words: what Quote writes, on lists of bytes.
-/
import Derived.WalkKit
import Derived.WalkSpells
namespace Go.Proofs.Ytkhcbhagecnndaa
open Go.RowKit

def hexd (n : Nat) : UInt8 := if n < 10 then UInt8.ofNat (48 + n) else UInt8.ofNat (87 + n)
def qch (c : UInt8) : List UInt8 :=
  if c.toNat = 34 ∨ c.toNat = 92 then [92, c]
  else if c.toNat < 32 ∨ 126 < c.toNat then [92, 120, hexd (c.toNat / 16), hexd (c.toNat % 16)]
  else [c]
def qbody (l : List UInt8) : List UInt8 := l.flatMap qch
def quoted (l : List UInt8) : List UInt8 := 34 :: (qbody l ++ [34])

theorem qch_len (c : UInt8) : 1 ≤ (qch c).length ∧ (qch c).length ≤ 4 := by
  unfold qch; split
  · simp
  · split <;> simp
theorem qbody_len (l : List UInt8) : l.length ≤ (qbody l).length ∧ (qbody l).length ≤ 4 * l.length := by
  induction l with
  | nil => simp [qbody]
  | cons c l ih =>
    have h := qch_len c
    have e : qbody (c :: l) = qch c ++ qbody l := by simp [qbody]
    rw [e, List.length_append, List.length_cons]; omega
theorem qbody_append (a b : List UInt8) : qbody (a ++ b) = qbody a ++ qbody b := by simp [qbody]
theorem qbody_cons (c : UInt8) (l : List UInt8) : qbody (c :: l) = qch c ++ qbody l := by simp [qbody]
theorem qbody_snoc (l : List UInt8) (c : UInt8) : qbody (l ++ [c]) = qbody l ++ qch c := by simp [qbody]
theorem take_snoc (s : ByteArray) (k : Nat) (h : k < s.size) : s.data.toList.take (k + 1) = s.data.toList.take k ++ [s[k]] := by
  rw [List.take_succ_eq_append_getElem (by simpa using h)]; rfl
theorem qbody_take (s : ByteArray) (k : Nat) (h : k < s.size) : qbody (s.data.toList.take (k + 1)) = qbody (s.data.toList.take k) ++ qch s[k] := by
  rw [take_snoc s k h, qbody_snoc]
theorem qch_esc (b : UInt8) (c : Nat) (h : b.toNat = c) (h1 : c = 34 ∨ c = 92) : qch b = [92, b] := by
  subst h; unfold qch; rw [if_pos h1]
theorem qch_hex (b : UInt8) (c : Nat) (h : b.toNat = c) (h1 : ¬ (c = 34 ∨ c = 92)) (h2 : c < 32 ∨ 126 < c) : qch b = [92, 120, hexd (c / 16), hexd (c % 16)] := by
  subst h; unfold qch; rw [if_neg h1, if_pos h2]
theorem qch_self (b : UInt8) (c : Nat) (h : b.toNat = c) (h1 : ¬ (c = 34 ∨ c = 92)) (h2 : ¬ (c < 32 ∨ 126 < c)) : qch b = [b] := by
  subst h; unfold qch; rw [if_neg h1, if_neg h2]
/-- bytes as cells -/
def cellsB (l : List UInt8) : List Value := l.map fun b => Value.int .u8 (b.toNat : Int)
theorem cellsB_append (a b : List UInt8) : cellsB (a ++ b) = cellsB a ++ cellsB b := by simp [cellsB]
theorem cellsB_length (a : List UInt8) : (cellsB a).length = a.length := by simp [cellsB]
theorem cellsB_one (a : List UInt8) : ∀ u ∈ cellsB a, u.oneCell' = true := by
  intro u hu
  simp only [cellsB, List.mem_map] at hu
  obtain ⟨b, _, rfl⟩ := hu
  rfl
theorem bcell {W w1 : World} (hb : Below W.heap.size W w1) : (∀ b o, b < W.heap.size → w1.cell? ⟨b, o, none⟩ = W.cell? ⟨b, o, none⟩) ∧ (∀ b o, b < W.heap.size → w1.frozen? ⟨b, o, none⟩ = W.frozen? ⟨b, o, none⟩) :=
  ⟨fun b o h => hb.cell (p := ⟨b, o, none⟩) h, fun b o h => hb.frozen (p := ⟨b, o, none⟩) h⟩
end Go.Proofs.Ytkhcbhagecnndaa
