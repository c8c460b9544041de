/-
  Part 1 of the proof that logtidelaw41.PlanCombine returns true for every list of bytes and leaves its argument as it was; no condition.
-/
import Derived.Orders
import Derived.Below
import Derived.Laws.Strings
set_option linter.unusedSimpArgs false
set_option linter.unusedVariables false
namespace Go.Av
inductive AV where
 | any
 | val (v : Value)
 | agg (cs : List AV)
 | tup (cs : List AV)
 | sl (sz : Nat) (es : List (List AV))
 | rp (cs : List AV)
 | osl (id n sz : Nat)
 | ptr (id sz k off : Nat)
 deriving Inhabited
structure Ent where
 ty : TypeId
 sz : Nat
 es : List (List AV)
abbrev Env := Nat → AV
abbrev Hp := Nat → Option Ent
abbrev Gm := Nat → Option (Option Nat)
def β0 : Gm := fun _ => none
/-- The blocks that are owned; X: those that a caller owns. -/
def Own (X : Nat → Prop) (β : Gm) (hp : Hp) (b : Nat) : Prop := X b ∨ ∃ i e, hp i = some e ∧ β i = some (some b)
def cellsAt (w : World) (b off : Nat) (vs : List Value) : Prop := ∀ (j : Nat) (v : Value), vs[j]? = some v → w.cell? ⟨b, off + j, none⟩ = some v
mutual
def Rep (w : World) (β : Gm) (O : Nat → Prop) : AV → Value → Prop
 | .any, _ => True
 | .val u, v => v = u
 | .agg cs, v => ∃ vs : List Value, v = .agg vs.toArray ∧ RepL w β O cs vs
 | .tup cs, v => ∃ vs : List Value, v = .tuple vs.toArray ∧ RepL w β O cs vs
 | .sl sz es, v => (v = .slice none 0 0 ∧ es = []) ∨ ∃ b off cap vs, v = .slice (some ⟨b, off, none⟩) es.length cap ∧ es.length ≤ cap ∧ b < w.heap.size ∧ ¬ O b ∧ cellsAt w b off vs ∧ RepE w β0 O sz es vs
 | .rp cs, v => ∃ b off vs, v = .pointer (some ⟨b, off, none⟩) ∧ b < w.heap.size ∧ ¬ O b ∧ cellsAt w b off vs ∧ RepL w β0 O cs vs
 | .osl i n sz, v => (β i = some none ∧ v = .slice none 0 0 ∧ n = 0) ∨ ∃ b cap T m, β i = some (some b) ∧ v = .slice (some ⟨b, 0, none⟩) n cap ∧ n ≤ cap ∧ w.shape? b = some (T, m) ∧ cap * sz ≤ m
 | .ptr i sz k off, v => ∃ b, β i = some (some b) ∧ v = .pointer (some ⟨b, k * sz + off, none⟩)
def RepL (w : World) (β : Gm) (O : Nat → Prop) : List AV → List Value → Prop
 | [], vs => vs = []
 | c :: cs, vs => ∃ v r, vs = v :: r ∧ Rep w β O c v ∧ RepL w β O cs r
def RepE (w : World) (β : Gm) (O : Nat → Prop) (sz : Nat) : List (List AV) → List Value → Prop
 | [], vs => vs = []
 | c :: cs, vs => ∃ v r, vs = v ++ r ∧ c.length = sz ∧ RepL w β O c v ∧ RepE w β O sz cs r
end
/-- What a step may do to memory, as far as standing values are concerned. -/
structure Stab (w w' : World) (β β' : Gm) (O O' : Nat → Prop) : Prop where
 size : w.heap.size ≤ w'.heap.size
 gm : ∀ i p, β i = some p → β' i = some p
 shape : ∀ b s, w.shape? b = some s → w'.shape? b = some s
 blk : ∀ b, b < w.heap.size → ¬ O b → w'.heap[b]? = w.heap[b]? ∧ ¬ O' b
theorem Stab.z {w w' : World} {β β' : Gm} {O O' : Nat → Prop} (h : Stab w w' β β' O O') : Stab w w' β0 β0 O O' := ⟨h.size, fun _ _ h => h, h.shape, h.blk⟩
theorem Stab.up (w : World) (β : Gm) (O : Nat → Prop) : Stab w w β0 β O O := ⟨Nat.le_refl _, fun _ _ h => by simp [β0] at h, fun _ _ h => h, fun _ _ h => ⟨rfl, h⟩⟩
theorem cell_of_heap {w w' : World} {b : Nat} (h : w'.heap[b]? = w.heap[b]?) (o : Nat) (s : Option Nat) : w'.cell? ⟨b, o, s⟩ = w.cell? ⟨b, o, s⟩ := by
 simp only [World.cell?, h]
theorem cellsAt.keep {w w' : World} {b off : Nat} {vs : List Value} (h : cellsAt w b off vs) (hb : w'.heap[b]? = w.heap[b]?) : cellsAt w' b off vs :=
 fun j v hv => (cell_of_heap hb _ _).trans (h j v hv)
mutual
theorem Rep.mono {w w' : World} {β β' : Gm} {O O' : Nat → Prop} (h : Stab w w' β β' O O') : ∀ (a : AV) (v : Value), Rep w β O a v → Rep w' β' O' a v
 | .any, _, _ => by simp [Rep]
 | .val u, v, hr => by simpa [Rep] using hr
 | .agg cs, v, hr => by
   simp only [Rep] at hr ⊢
   obtain ⟨vs, rfl, hl⟩ := hr
   exact ⟨vs, rfl, RepL.mono h cs vs hl⟩
 | .tup cs, v, hr => by
   simp only [Rep] at hr ⊢
   obtain ⟨vs, rfl, hl⟩ := hr
   exact ⟨vs, rfl, RepL.mono h cs vs hl⟩
 | .sl sz es, v, hr => by
   simp only [Rep] at hr ⊢
   rcases hr with hr | ⟨b, off, cap, vs, h1, h2, h3, h4, h5, h6⟩
   · exact .inl hr
   · exact .inr ⟨b, off, cap, vs, h1, h2, Nat.lt_of_lt_of_le h3 h.size, (h.blk b h3 h4).2, h5.keep (h.blk b h3 h4).1, RepE.mono h.z sz es vs h6⟩
 | .rp cs, v, hr => by
   simp only [Rep] at hr ⊢
   obtain ⟨b, off, vs, h1, h3, h4, h5, h6⟩ := hr
   exact ⟨b, off, vs, h1, Nat.lt_of_lt_of_le h3 h.size, (h.blk b h3 h4).2, h5.keep (h.blk b h3 h4).1, RepL.mono h.z cs vs h6⟩
 | .osl i n sz, v, hr => by
   simp only [Rep] at hr ⊢
   rcases hr with ⟨h1, h2⟩ | ⟨b, cap, T, m, h1, h2, h3, h4, h5⟩
   · exact .inl ⟨h.gm _ _ h1, h2⟩
   · exact .inr ⟨b, cap, T, m, h.gm _ _ h1, h2, h3, h.shape _ _ h4, h5⟩
 | .ptr i sz k off, v, hr => by
   simp only [Rep] at hr ⊢
   obtain ⟨b, h1, h2⟩ := hr
   exact ⟨b, h.gm _ _ h1, h2⟩
theorem RepL.mono {w w' : World} {β β' : Gm} {O O' : Nat → Prop} (h : Stab w w' β β' O O') : ∀ (a : List AV) (v : List Value), RepL w β O a v → RepL w' β' O' a v
 | [], v, hr => by simpa [RepL] using hr
 | c :: cs, v, hr => by
   simp only [RepL] at hr ⊢
   obtain ⟨u, r, h1, h2, h3⟩ := hr
   exact ⟨u, r, h1, Rep.mono h c u h2, RepL.mono h cs r h3⟩
theorem RepE.mono {w w' : World} {β β' : Gm} {O O' : Nat → Prop} (h : Stab w w' β β' O O') (sz : Nat) : ∀ (a : List (List AV)) (v : List Value), RepE w β O sz a v → RepE w' β' O' sz a v
 | [], v, hr => by simpa [RepE] using hr
 | c :: cs, v, hr => by
   simp only [RepE] at hr ⊢
   obtain ⟨u, r, h1, h2, h3, h4⟩ := hr
   exact ⟨u, r, h1, h2, RepL.mono h c u h3, RepE.mono h sz cs r h4⟩
end
theorem Rep.up {w : World} {β : Gm} {O : Nat → Prop} {a : AV} {v : Value} (h : Rep w β0 O a v) : Rep w β O a v := Rep.mono (Stab.up w β O) a v h
theorem RepL.up {w : World} {β : Gm} {O : Nat → Prop} {a : List AV} {v : List Value} (h : RepL w β0 O a v) : RepL w β O a v := RepL.mono (Stab.up w β O) a v h
theorem RepE.up {w : World} {β : Gm} {O : Nat → Prop} {sz : Nat} {a : List (List AV)} {v : List Value} (h : RepE w β0 O sz a v) : RepE w β O sz a v := RepE.mono (Stab.up w β O) sz a v h
section lists
variable {w : World} {β : Gm} {O : Nat → Prop}
theorem RepL.length : ∀ {a : List AV} {v : List Value}, RepL w β O a v → a.length = v.length
 | [], v, h => by simp only [RepL] at h; simp [h]
 | c :: cs, v, h => by
   simp only [RepL] at h
   obtain ⟨u, r, rfl, _, h3⟩ := h
   simp [RepL.length h3]
theorem RepL.append : ∀ {a a' : List AV} {v v' : List Value}, RepL w β O a v → RepL w β O a' v' → RepL w β O (a ++ a') (v ++ v')
 | [], a', v, v', h, h' => by simp only [RepL] at h; subst h; simpa using h'
 | c :: cs, a', v, v', h, h' => by
   simp only [RepL] at h
   obtain ⟨u, r, rfl, h2, h3⟩ := h
   simp only [List.cons_append, RepL]
   exact ⟨u, r ++ v', rfl, h2, h3.append h'⟩
theorem RepL.split : ∀ {a a' : List AV} {v : List Value}, RepL w β O (a ++ a') v → ∃ v1 v2, v = v1 ++ v2 ∧ RepL w β O a v1 ∧ RepL w β O a' v2
 | [], a', v, h => ⟨[], v, rfl, by simp [RepL], h⟩
 | c :: cs, a', v, h => by
   simp only [List.cons_append, RepL] at h
   obtain ⟨u, r, rfl, h2, h3⟩ := h
   obtain ⟨v1, v2, rfl, h4, h5⟩ := RepL.split h3
   exact ⟨u :: v1, v2, rfl, by simp only [RepL]; exact ⟨u, v1, rfl, h2, h4⟩, h5⟩
theorem RepL.get : ∀ {a : List AV} {v : List Value}, RepL w β O a v → ∀ (j : Nat) (c : AV), a[j]? = some c → ∃ u, v[j]? = some u ∧ Rep w β O c u
 | [], v, h, j, c, hj => by simp at hj
 | c' :: cs, v, h, j, c, hj => by
   simp only [RepL] at h
   obtain ⟨u, r, rfl, h2, h3⟩ := h
   cases j with
   | zero => simp at hj; subst hj; exact ⟨u, rfl, h2⟩
   | succ j => simp at hj; simpa using RepL.get h3 j c hj
theorem RepE.length : ∀ {sz : Nat} {a : List (List AV)} {v : List Value}, RepE w β O sz a v → v.length = a.length * sz
 | sz, [], v, h => by simp only [RepE] at h; simp [h]
 | sz, c :: cs, v, h => by
   simp only [RepE] at h
   obtain ⟨u, r, rfl, h1, h2, h3⟩ := h
   simp [RepE.length h3, ← h2.length, h1, Nat.succ_mul]
   omega
theorem RepE.append : ∀ {sz : Nat} {a a' : List (List AV)} {v v' : List Value}, RepE w β O sz a v → RepE w β O sz a' v' → RepE w β O sz (a ++ a') (v ++ v')
 | sz, [], a', v, v', h, h' => by simp only [RepE] at h; subst h; simpa using h'
 | sz, c :: cs, a', v, v', h, h' => by
   simp only [RepE] at h
   obtain ⟨u, r, rfl, h1, h2, h3⟩ := h
   simp only [List.cons_append, RepE]
   exact ⟨u, r ++ v', by simp, h1, h2, h3.append h'⟩
theorem RepE.split : ∀ {sz : Nat} {a a' : List (List AV)} {v : List Value}, RepE w β O sz (a ++ a') v → ∃ v1 v2, v = v1 ++ v2 ∧ RepE w β O sz a v1 ∧ RepE w β O sz a' v2
 | sz, [], a', v, h => ⟨[], v, rfl, by simp [RepE], h⟩
 | sz, c :: cs, a', v, h => by
   simp only [List.cons_append, RepE] at h
   obtain ⟨u, r, rfl, h1, h2, h3⟩ := h
   obtain ⟨v1, v2, rfl, h4, h5⟩ := RepE.split h3
   exact ⟨u ++ v1, v2, by simp, by simp only [RepE]; exact ⟨u, v1, rfl, h1, h2, h4⟩, h5⟩
theorem RepE.mem : ∀ {sz : Nat} {a : List (List AV)} {v : List Value}, RepE w β O sz a v → ∀ c ∈ a, c.length = sz
 | sz, [], v, h, c, hc => by simp at hc
 | sz, c' :: cs, v, h, c, hc => by
   simp only [RepE] at h
   obtain ⟨u, r, rfl, h1, h2, h3⟩ := h
   rcases List.mem_cons.1 hc with rfl | hc
   · exact h1
   · exact RepE.mem h3 c hc
/-- The k-th element, with what lies before and behind it. -/
theorem RepE.at {sz : Nat} {a : List (List AV)} {v : List Value} (h : RepE w β O sz a v) (k : Nat) (c : List AV) (hk : a[k]? = some c) :
   ∃ v1 u v2, v = v1 ++ u ++ v2 ∧ v1.length = k * sz ∧ RepL w β O c u ∧ RepE w β O sz (a.take k) v1 ∧ RepE w β O sz (a.drop (k + 1)) v2 := by
 have hlt : k < a.length := by
   rcases Nat.lt_or_ge k a.length with h | h
   · exact h
   · simp [List.getElem?_eq_none h] at hk
 have e : a = a.take k ++ (c :: a.drop (k + 1)) := by
   have h1 : a[k] = c := by simpa [List.getElem?_eq_getElem hlt] using hk
   rw [← h1, List.getElem_cons_drop]; simp
 rw [e] at h
 obtain ⟨v1, v2, rfl, h1, h2⟩ := RepE.split h
 simp only [RepE] at h2
 obtain ⟨u, r, rfl, h3, h4, h5⟩ := h2
 refine ⟨v1, u, r, by simp, ?_, h4, h1, h5⟩
 rw [h1.length, List.length_take, Nat.min_eq_left (by omega)]
end lists
structure TI where
 size : Nat
 bytes : Nat
 desc : TypeDesc
 zero : List Value
abbrev Tab := TypeId → Option TI
def aggD (d : TypeDesc) : Bool := match d with | .struct _ | .array _ _ => true | _ => false
def isStruct (d : TypeDesc) : Bool := match d with | .struct _ => true | _ => false
def TI.isAgg (ti : TI) : Bool := aggD ti.desc
def TabOk (P : Program) (T : Tab) : Prop := ∀ t ti, T t = some ti → ∃ i z, P.info? t = some i ∧ i.size = ti.size ∧ i.bytes = ti.bytes ∧ i.zero = some z ∧ z.cells.toList = ti.zero ∧ P.underlying t = some ti.desc ∧ ti.zero.length = ti.size ∧ (∀ fs, ti.desc = .struct fs → ∀ f ∈ fs.toList, ∃ j, P.info? f.type = some j)
def descOf (T : Tab) (t : TypeId) : Option TypeDesc := match T t with
 | some ti => some ti.desc
 | none => none
def bl (s : ByteArray) : List UInt8 := s.data.toList
def str (l : List UInt8) : AV := .val (.string ⟨l.toArray⟩)
@[simp] theorem bl_mk (l : List UInt8) : bl ⟨l.toArray⟩ = l := rfl
def evA (env : Env) : Operand → AV
 | .tmp t => env t
 | .const (.agg cs) => .agg (cs.toList.map .val)
 | .const v => .val v
 | .global _ => .any
 | .func f => .val (.func (.func f) #[] #[])
structure Out where
 v : AV
 hw : List (Nat × Option Ent) := []
 hr : List Nat := []
 ob : Prop := True
def out (v : AV) (ob : Prop := True) : Option Out := some { v, ob }
def bitsOf (op : BinOp) (k : IntKind) (a b : Int) : Int :=
 let x := BitVec.ofInt k.bits a
 let y := BitVec.ofInt k.bits b
 match op with
 | .and => k.wrap (x &&& y).toNat
 | .or => k.wrap (x ||| y).toNat
 | .xor => k.wrap (x ^^^ y).toNat
 | _ => k.wrap (x &&& ~~~y).toNat
def pint (op : BinOp) (k k' : IntKind) (a b : Int) : Value × Prop :=
 match op with
 | .shl => (.int k (k.wrap (a * 2 ^ (min b.toNat k.bits))), 0 ≤ b)
 | .shr => (.int k (a.fdiv (2 ^ (min b.toNat k.bits))), 0 ≤ b)
 | .add => (.int k (k.wrap (a + b)), k = k')
 | .sub => (.int k (k.wrap (a - b)), k = k')
 | .mul => (.int k (k.wrap (a * b)), k = k')
 | .quo => (.int k (k.wrap (a.tdiv b)), k = k' ∧ b ≠ 0)
 | .rem => (.int k (a.tmod b), k = k' ∧ b ≠ 0)
 | .and => (.int k (bitsOf .and k a b), k = k')
 | .or => (.int k (bitsOf .or k a b), k = k')
 | .xor => (.int k (bitsOf .xor k a b), k = k')
 | .andNot => (.int k (bitsOf .andNot k a b), k = k')
 | .eql => (.bool (a == b), k = k')
 | .neq => (.bool (a != b), k = k')
 | .lss => (.bool (decide (a < b)), k = k')
 | .leq => (.bool (decide (a ≤ b)), k = k')
 | .gtr => (.bool (decide (a > b)), k = k')
 | .geq => (.bool (decide (a ≥ b)), k = k')
def pstr (op : BinOp) (a b : List UInt8) : Option (Value × Prop) :=
 match op with
 | .add => some (.string ⟨(a ++ b).toArray⟩, ((a.length + b.length : Nat) : Int) < 2 ^ 63)
 | .eql => some (.bool (a == b), True)
 | .neq => some (.bool (!(a == b)), True)
 | .lss => some (.bool (Op.bytesLess a b), True)
 | .leq => some (.bool (Op.bytesLess a b || a == b), True)
 | .gtr => some (.bool (!(Op.bytesLess a b || a == b)), True)
 | .geq => some (.bool (!(Op.bytesLess a b)), True)
 | _ => none
def valsOf : List AV → Option (List Value)
 | [] => some []
 | .val v :: r => match valsOf r with
   | some l => some (v :: l)
   | none => none
 | _ :: _ => none
def eqV : List Value → List Value → Bool
 | [], [] => true
 | .int _ a :: r, .int _ b :: s => a == b && eqV r s
 | .string a :: r, .string b :: s => bl a == bl b && eqV r s
 | .bool a :: r, .bool b :: s => a == b && eqV r s
 | _, _ => false
/-- What the machine says of two structs. -/
def EqSays (P : Program) (t : TypeId) (us vs : List Value) (b : Bool) : Prop :=
 P.eqGuardType P.depth t = false ∧ ∀ w, (Op.equal t (.agg us.toArray) (.agg vs.toArray)).run P w = .ok b w
def aBin (P : Program) (T : Tab) (op : BinOp) (xt : TypeId) : AV → AV → Option Out
 | .val (.int k a), .val (.int k' b) => out (.val (pint op k k' a b).1) (pint op k k' a b).2
 | .val (.string a), .val (.string b) => match pstr op (bl a) (bl b) with
   | some (v, p) => out (.val v) p
   | none => none
 | .val (.bool a), .val (.bool b) => match descOf T xt with
   | some .bool => match op with
     | .eql => out (.val (.bool (a == b)))
     | .neq => out (.val (.bool (!(a == b))))
     | _ => none
   | _ => none
 | .agg xs, .agg ys => match valsOf xs, valsOf ys with
   | some us, some vs => match op with
     | .eql => out (.val (.bool (eqV us vs))) (EqSays P xt us vs (eqV us vs))
     | .neq => out (.val (.bool (!(eqV us vs)))) (EqSays P xt us vs (eqV us vs))
     | _ => none
   | _, _ => none
 | _, _ => none
def aUn (op : UnOp) : AV → Option Out
 | .val (.bool b) => match op with
   | .not => out (.val (.bool (!b)))
   | _ => none
 | .val (.int k n) => match op with
   | .neg => out (.val (.int k (k.wrap (0 - n))))
   | .xor => out (.val (.int k (bitsOf .xor k (if k.signed then -1 else k.max) n)))
   | _ => none
 | _ => none
def byteOf1 : List AV → UInt8
 | [.val (.int .u8 n)] => UInt8.ofNat n.toNat
 | _ => 0
def isByte : List AV → Bool
 | [.val (.int .u8 n)] => decide (0 ≤ n ∧ n < 256)
 | _ => false
def byteE (b : UInt8) : List AV := [.val (.int .u8 b.toNat)]
def bytesE (l : List UInt8) : List (List AV) := l.map byteE
def eBytes (es : List (List AV)) : List UInt8 := es.map byteOf1
def isU8 (T : Tab) (t : TypeId) : Bool := match T t with
 | some ti => match ti.desc with
   | .int .u8 => true
   | _ => false
 | none => false
def aConv (T : Tab) (hp : Hp) (nb : Nat) (src dst : TypeId) (x : AV) : Option Out :=
 match descOf T src, descOf T dst, x with
 | some (.int _), some (.int k), .val (.int _ n) => out (.val (.int k (k.wrap n)))
 | some .string, some .string, .val (.string s) => out (.val (.string s))
 | some .string, some (.slice e), .val (.string s) => match isU8 T e with
   | true => some { v := .osl nb s.size 1, hw := [(nb, some ⟨e, 1, bytesE (bl s)⟩)] }
   | false => none
 | some (.slice e), some (.slice _), .osl i n sz => match isU8 T e, src == dst, hp i with
   | true, true, some en => some { v := .osl i n sz, hw := [(i, some en)], hr := [i], ob := n = en.es.length ∧ 0 < n }
   | _, _, _ => none
 | some (.slice e), some .string, .sl _ es => match isU8 T e with
   | true => out (.val (.string ⟨(eBytes es).toArray⟩)) (∀ c ∈ es, isByte c = true)
   | false => none
 | some (.slice e), some .string, .osl i n _ => match isU8 T e, hp i with
   | true, some en => some { v := .val (.string ⟨(eBytes en.es).toArray⟩), hr := [i], ob := (∀ c ∈ en.es, isByte c = true) ∧ en.es.length = n ∧ en.sz = 1 }
   | _, _ => none
 | some (.slice e), some .string, .val (.slice none 0 0) => match isU8 T e with
   | true => out (.val (.string ⟨#[]⟩))
   | false => none
 | _, _, _ => none
def acells : AV → Option (List AV)
 | .any => none
 | .tup _ => none
 | .val (.agg _) => none
 | .val (.tuple _) => none
 | .agg cs => some cs
 | a => some [a]
def storable : AV → Bool
 | .any => false
 | .agg _ => false
 | .tup _ => false
 | .val (.agg _) => false
 | .val (.tuple _) => false
 | _ => true
def splice (cs : List AV) (off : Nat) (xs : List AV) : List AV := cs.take off ++ (xs ++ cs.drop (off + xs.length))
def fieldOf (T : Tab) (t : TypeId) (f : Nat) : Option (Nat × TI) :=
 match descOf T t with
 | some (.struct fs) => match fs[f]? with
   | some fd => match T fd.type with
     | some tf => some (fd.offset, tf)
     | none => none
   | none => none
 | _ => none
def elemOf (T : Tab) (t : TypeId) : Option (TypeId × TI) :=
 match descOf T t with
 | some (.slice e) => match T e with
   | some te => some (e, te)
   | none => none
 | _ => none
def arrOf (T : Tab) (t : TypeId) : Option (Nat × TI) :=
 match descOf T t with
 | some (.array len e) => match T e with
   | some te => some (len, te)
   | none => none
 | _ => none
def aPart (tf : TI) (cs : List AV) (ob : Prop) (hr : List Nat := []) : Option Out :=
 if tf.isAgg then some { v := .agg (cs.take tf.size), hr, ob := ob ∧ tf.size ≤ cs.length }
 else match cs with
   | c :: _ => some { v := c, hr, ob }
   | [] => none
def aLoad (T : Tab) (hp : Hp) (t : TypeId) (a : AV) : Option Out :=
 match T t, a with
 | some ti, .rp cs => aPart ti cs True
 | some ti, .ptr i sz k off => match hp i with
   | some e => match e.es[k]? with
     | some c => aPart ti (c.drop off) (e.sz = sz) [i]
     | none => none
   | none => none
 | _, _ => none
def aStore (T : Tab) (hp : Hp) (t : TypeId) (a x : AV) : Option Out :=
 match T t, a, acells x with
 | some ti, .ptr i sz k off, some xs => match hp i with
   | some e => match e.es[k]? with
     | some c => some { v := .any, hw := [(i, some { e with es := e.es.set k (splice c off xs) })], hr := [i], ob := e.sz = sz ∧ off + xs.length ≤ c.length ∧ xs.length = ti.size ∧ xs.all storable = true }
     | none => none
   | none => none
 | _, _, _ => none
def aFieldAddr (T : Tab) (t : TypeId) (x : AV) (f : Nat) : Option Out :=
 match fieldOf T t f, x with
 | some (o, tf), .ptr i sz k off => out (.ptr i sz k (off + o)) (tf.size ≠ 0)
 | some (o, tf), .rp cs => out (.rp (cs.drop o)) (tf.size ≠ 0)
 | _, _ => none
def aField (T : Tab) (t : TypeId) (x : AV) (f : Nat) : Option Out :=
 match fieldOf T t f, x with
 | some (o, tf), .agg cs => aPart tf (cs.drop o) True
 | _, _ => none
def aIndexAddr (T : Tab) (t : TypeId) (x i : AV) : Option Out :=
 match elemOf T t, x, i with
 | some (_, te), .sl sz es, .val (.int _ n) => match es[n.toNat]? with
   | some c => out (.rp c) (0 ≤ n ∧ sz = te.size)
   | none => none
 | some (_, te), .osl i m sz, .val (.int _ n) => out (.ptr i sz n.toNat 0) (0 ≤ n ∧ n < m ∧ sz = te.size)
 | none, .ptr i sz k off, .val (.int _ n) => match arrOf T t with
   | some (len, te) => out (.ptr i sz k (off + n.toNat * te.size)) (0 ≤ n ∧ n < len)
   | none => none
 | _, _, _ => none
def aIndex (T : Tab) (t : TypeId) (x i : AV) : Option Out :=
 match descOf T t, x, i with
 | some .string, .val (.string s), .val (.int _ n) => match (bl s)[n.toNat]? with
   | some b => out (.val (.int .u8 b.toNat)) (0 ≤ n)
   | none => none
 | _, _, _ => none
def aBound (env : Env) (d : Nat) : Option Operand → Option (Nat × Prop)
 | none => some (d, True)
 | some x => match evA env x with
   | .val (.int _ n) => some (n.toNat, 0 ≤ n)
   | _ => none
def aSlice (T : Tab) (t : TypeId) (x : AV) (env : Env) (lo hi : Option Operand) : Option Out :=
 match descOf T t, x with
 | some .string, .val (.string s) => match aBound env 0 lo, aBound env (bl s).length hi with
   | some (l, p), some (h, q) => out (.val (.string ⟨(((bl s).take h).drop l).toArray⟩)) (p ∧ q ∧ l ≤ h ∧ h ≤ (bl s).length)
   | _, _ => none
 | some (.slice e), .sl sz es => match aBound env 0 lo, aBound env es.length hi, T e with
   | some (l, p), some (h, q), some te => out (.sl sz ((es.take h).drop l)) (p ∧ q ∧ l ≤ h ∧ h ≤ es.length ∧ te.size = sz)
   | _, _, _ => none
 | some (.slice e), .val (.slice none 0 0) => match aBound env 0 lo, aBound env 0 hi, T e with
   | some (l, p), some (h, q), some _ => out (.val (.slice none 0 0)) (p ∧ q ∧ l = 0 ∧ h = 0)
   | _, _, _ => none
 | _, _ => none
def srcOf (hp : Hp) (sz : Nat) : AV → Option (List (List AV) × List Nat × Prop)
 | .sl s es => some (es, [], s = sz)
 | .osl i n s => match hp i with
   | some e => some (e.es, [i], e.es.length = n ∧ s = sz ∧ e.sz = sz)
   | none => none
 | .val (.slice none 0 0) => some ([], [], True)
 | .val (.string s) => some (bytesE (bl s), [], sz = 1)
 | _ => none
def aAppend (T : Tab) (hp : Hp) (nb : Nat) (t : TypeId) (x y : AV) : Option Out :=
 match elemOf T t with
 | none => none
 | some (e, te) => match srcOf hp te.size y with
   | none => none
   | some (es, rs, p) => match x with
     | .val (.slice none 0 0) => some { v := .osl nb es.length te.size, hw := [(nb, some ⟨e, te.size, es⟩)], hr := rs, ob := p ∧ 0 < te.size ∧ 0 < te.bytes ∧ es.length * te.bytes ≤ 2 ^ 47 }
     | .osl i n sz => match hp i with
       | some en => some { v := .osl nb (n + es.length) te.size, hw := [(i, none), (nb, some ⟨e, te.size, en.es ++ es⟩)], hr := i :: rs, ob := p ∧ es.all (fun c => c.all storable) = true ∧ 0 < te.size ∧ 0 < te.bytes ∧ (n + es.length) * te.bytes ≤ 2 ^ 47 ∧ en.es.length = n ∧ sz = te.size ∧ en.sz = te.size ∧ en.ty = e ∧ i ∉ rs }
       | none => none
     | _ => none
def aLen : AV → Option Out
 | .sl _ es => out (.val (.int .i64 es.length))
 | .osl _ n _ => out (.val (.int .i64 n))
 | .val (.string s) => out (.val (.int .i64 (bl s).length))
 | .val (.slice none 0 0) => out (.val (.int .i64 0))
 | _ => none
def aMin2 : AV → AV → Option AV
 | .val (.int k x), .val (.int _ y) => some (.val (.int k (if y < x then y else x)))
 | _, _ => none
def aMax2 : AV → AV → Option AV
 | .val (.int k x), .val (.int _ y) => some (.val (.int k (if y > x then y else x)))
 | _, _ => none
mutual
def ren (ρ : Nat → Nat) : AV → AV
 | .any => .any
 | .val v => .val v
 | .agg cs => .agg (renL ρ cs)
 | .tup cs => .tup (renL ρ cs)
 | .sl sz es => .sl sz es
 | .rp cs => .rp cs
 | .osl i n sz => .osl (ρ i) n sz
 | .ptr i sz k off => .ptr (ρ i) sz k off
def renL (ρ : Nat → Nat) : List AV → List AV
 | [] => []
 | c :: cs => ren ρ c :: renL ρ cs
end
def renEnt (ρ : Nat → Nat) (e : Ent) : Ent := { e with es := e.es.map (renL ρ) }
mutual
/-- All ids are below k. -/
def idLt (k : Nat) : AV → Bool
 | .any => true
 | .val _ => true
 | .agg cs => idLtL k cs
 | .tup cs => idLtL k cs
 | .sl _ _ => true
 | .rp _ => true
 | .osl i _ _ => decide (i < k)
 | .ptr i _ _ _ => decide (i < k)
def idLtL (k : Nat) : List AV → Bool
 | [] => true
 | c :: cs => idLt k c && idLtL k cs
end
def idLtE (k : Nat) (es : List (List AV)) : Bool := es.all (idLtL k)
mutual
def noSl : AV → Bool
 | .any => true
 | .val _ => true
 | .agg cs => noSlL cs
 | .tup cs => noSlL cs
 | .sl _ _ => false
 | .rp _ => false
 | .osl _ _ _ => true
 | .ptr _ _ _ _ => true
def noSlL : List AV → Bool
 | [] => true
 | c :: cs => noSl c && noSlL cs
end
def noSlE (es : List (List AV)) : Bool := es.all noSlL
structure Orc where
 ids : List Nat := []
 hs : List Ent := []
 as : List AV
 r : AV
 hs' : List (Option Ent) := []
 bor : List Nat := []
def Orc.ρ (o : Orc) (nb : Nat) (i : Nat) : Nat := if i < o.ids.length then o.ids.getD i 0 else nb + (i - o.ids.length)
def view1 (hp : Hp) (bor : List Nat) (c a : AV) : Prop :=
 c = a ∨ (∃ i n sz e, c = .osl i n sz ∧ i ∈ bor ∧ hp i = some e ∧ e.es.length = n ∧ e.sz = sz ∧ a = .sl sz e.es) ∨ (c = .val (.slice none 0 0) ∧ ∃ sz, a = .sl sz [])
def viewL (hp : Hp) (bor : List Nat) : List AV → List AV → Prop
 | [], [] => True
 | c :: cs, a :: as => view1 hp bor c a ∧ viewL hp bor cs as
 | _, _ => False
def viewA (hp : Hp) (bor : List Nat) (c a : AV) : Prop :=
 view1 hp bor c a ∨ ∃ cs as, c = .agg cs ∧ a = .agg as ∧ viewL hp bor cs as
def hpL (hs : List (Option Ent)) : Hp := fun i => (hs[i]?).join
def allParts (n : Nat) : List (Nat × Operand) → Bool
 | [] => true
 | (i, _) :: r => i == n && allParts (n + 1) r
def partCells (env : Env) : List (Nat × Operand) → Option (List (List AV))
 | [] => some []
 | (_, x) :: r => match acells (evA env x), partCells env r with
   | some c, some cs => some (c :: cs)
   | _, _ => none
def fillA (T : Tab) (t : TypeId) (env : Env) (cells : List AV) (ob : Prop) : List (Nat × Operand) → Option (List AV × Prop)
 | [] => some (cells, ob)
 | (f, x) :: r => match fieldOf T t f, acells (evA env x) with
   | some (o, tf), some xs => fillA T t env (splice cells o xs) (ob ∧ xs.length = tf.size ∧ o + xs.length ≤ cells.length) r
   | _, _ => none
def EntOk (w : World) (β : Gm) (O : Nat → Prop) (p : Option (Option Nat)) (e : Ent) : Prop :=
 (p = some none ∧ e.es = []) ∨ ∃ b c fr vs rest, p = some (some b) ∧ w.heap[b]? = some (.cells c e.ty fr) ∧ (∀ o, o < c.size → fr.1 = fr.2 ∨ o < fr.1) ∧ c.toList = vs ++ rest ∧ RepE w β O e.sz e.es vs
structure Good (X : Nat → Prop) (w : World) (β : Gm) (hp : Hp) : Prop where
 inj : ∀ i j e e' b, hp i = some e → hp j = some e' → β i = some (some b) → β j = some (some b) → i = j
 ent : ∀ i e, hp i = some e → EntOk w β (Own X β hp) (β i) e
 xdis : ∀ i e b, hp i = some e → β i = some (some b) → ¬ X b
 xlt : ∀ b, X b → b < w.heap.size
structure Frm (w0 : World) (O0 : Nat → Prop) (w : World) (O : Nat → Prop) : Prop where
 os : w.os = w0.os
 tape : w.tape = w0.tape
 output : w.output = w0.output
 size : w0.heap.size ≤ w.heap.size
 same : ∀ b, b < w0.heap.size → ¬ O0 b → w.heap[b]? = w0.heap[b]?
 own : ∀ b, O b → O0 b ∨ w0.heap.size ≤ b
 shape : ∀ b s, w0.shape? b = some s → w.shape? b = some s
theorem Frm.refl (w : World) (O : Nat → Prop) : Frm w O w O := ⟨rfl, rfl, rfl, Nat.le_refl _, fun _ _ _ => rfl, fun _ h => .inl h, fun _ _ h => h⟩
theorem Frm.trans {w0 w w' : World} {O0 O O' : Nat → Prop} (h : Frm w0 O0 w O) (k : Frm w O w' O') : Frm w0 O0 w' O' := by
 refine ⟨k.os.trans h.os, k.tape.trans h.tape, k.output.trans h.output, Nat.le_trans h.size k.size, ?_, ?_, fun b s hs => k.shape b s (h.shape b s hs)⟩
 · intro b hb ho
   have hn : ¬ O b := fun hO => (h.own b hO).elim ho (fun hl => by omega)
   rw [k.same b (Nat.lt_of_lt_of_le hb h.size) hn, h.same b hb ho]
 · intro b hb
   rcases k.own b hb with h1 | h1
   · exact h.own b h1
   · exact .inr (Nat.le_trans h.size h1)
def GmExt (β β' : Gm) : Prop := ∀ i p, β i = some p → β' i = some p
theorem GmExt.refl (β : Gm) : GmExt β β := fun _ _ h => h
theorem GmExt.trans {a b c : Gm} (h : GmExt a b) (k : GmExt b c) : GmExt a c := fun i p hp => k i p (h i p hp)
theorem Frm.stab {w w' : World} {O O' : Nat → Prop} {β β' : Gm} (h : Frm w O w' O') (g : GmExt β β') : Stab w w' β β' O O' :=
 ⟨h.size, g, h.shape, fun b hb ho => ⟨h.same b hb ho, fun h' => (h.own b h').elim ho (fun hl => by omega)⟩⟩
/-- The contract of a call: exact. Ids 0, 1, .. are those of 'hs'; behind them the new ones of 'hs''. -/
def ACall (P : Program) (g : FuncId) (as : List AV) (hs : List (Option Ent)) (r : AV) (hs' : List (Option Ent)) : Prop :=
 (∃ fn, P.funcs[g]? = some fn ∧ fn.body.isNone = false ∧ (fn.name == "runtime.NumGoroutine") = false) ∧
 ∀ (X : Nat → Prop) (w : World) (β : Gm) (vs : List Value), RepL w β (Own X β (hpL hs)) as vs → Good X w β (hpL hs) → (∀ i, hs.length ≤ i → β i = none) →
   Calls P g vs.toArray w fun e w' => ∃ v β', e = .returned v ∧ Rep w' β' (Own X β' (hpL hs')) r v ∧ Good X w' β' (hpL hs') ∧
     Frm w (Own X β (hpL hs)) w' (Own X β' (hpL hs')) ∧ (∀ b, X b → w'.heap[b]? = w.heap[b]?) ∧ GmExt β β' ∧ (∀ i, hs'.length ≤ i → β' i = none)
def aCall (P : Program) (g : FuncId) (args : List AV) (hp : Hp) (nb : Nat) (o : Orc) : Out :=
 { v := ren (o.ρ nb) o.r,
   hw := (List.range o.hs'.length).map fun i => (o.ρ nb i, ((o.hs'[i]?).join).map (renEnt (o.ρ nb))),
   hr := o.ids ++ o.bor,
   ob := ACall P g o.as (o.hs.map some) o.r o.hs' ∧ o.ids.Nodup ∧ o.ids.length = o.hs.length ∧ (∀ i, i < o.ids.length → hp (o.ids.getD i 0) = (o.hs[i]?).map (renEnt (o.ρ nb))) ∧
     o.hs.length ≤ o.hs'.length ∧ o.hs'.length ≤ o.hs.length + 8 ∧ args.length = o.as.length ∧ (∀ (j : Nat) (c a : AV), args[j]? = some c → o.as[j]? = some a → viewA hp o.bor c (ren (o.ρ nb) a)) ∧
     (o.bor ≠ [] → noSl o.r = true ∧ (∀ e, some e ∈ o.hs' → noSlE e.es = true)) ∧ (∀ i ∈ o.bor, i ∉ o.ids ∧ ∀ e, hp i = some e → idLtE 0 e.es = true) ∧
     idLtL o.ids.length o.as = true ∧ (∀ e ∈ o.hs, idLtE o.ids.length e.es = true) }
def aexec (P : Program) (T : Tab) (orc : Option Orc) (nb : Nat) (env : Env) (hp : Hp) (op : Op) : Option Out :=
 match op with
 | .move x => out (evA env x)
 | .assign x => out (evA env x)
 | .pick c a b => match evA env c with
   | .val (.bool t) => out (if t then evA env a else evA env b)
   | _ => none
 | .binOp op xt x y _ => aBin P T op xt (evA env x) (evA env y)
 | .unOp op _ x => aUn op (evA env x)
 | .convert s d x => aConv T hp nb s d (evA env x)
 | .extract x i => match evA env x with
   | .tup cs => match cs[i]? with
     | some c => out c
     | none => none
   | _ => none
 | .field t x f => aField T t (evA env x) f
 | .fieldAddr t x f => aFieldAddr T t (evA env x) f
 | .indexAddr t x i => aIndexAddr T t (evA env x) (evA env i)
 | .index t x i => aIndex T t (evA env x) (evA env i)
 | .load t a => aLoad T hp t (evA env a)
 | .store t a x => aStore T hp t (evA env a) (evA env x)
 | .slice t x lo hi none => aSlice T t (evA env x) env lo hi
 | .box el x => match acells (evA env x) with
   | some cs => some { v := .ptr nb cs.length 0 0, hw := [(nb, some ⟨el, cs.length, [cs]⟩)] }
   | none => none
 | .alloc el => match T el with
   | some ti => some { v := .ptr nb ti.zero.length 0 0, hw := [(nb, some ⟨el, ti.zero.length, [ti.zero.map .val]⟩)] }
   | none => none
 | .build t parts => match T t with
   | some ti => match fillA T t env (ti.zero.map .val) True parts.toList with
     | some (cs, p) => out (.agg cs) (p ∧ isStruct ti.desc = true)
     | none => none
   | none => none
 | .buildSlice t len parts => match elemOf T t, partCells env parts.toList with
   | some (e, te), some es => some { v := .osl nb len te.size, hw := [(nb, some ⟨e, te.size, es⟩)], ob := allParts 0 parts.toList = true ∧ es.length = len ∧ (∀ c ∈ es, c.length = te.size) ∧ len * te.size ≤ 2 ^ 24 }
   | _, _ => none
 | .makeSlice t l c => match elemOf T t, evA env l, evA env c with
   | some (e, te), .val (.int .i64 n), .val (.int .i64 m) => some { v := .osl nb n.toNat te.size, hw := [(nb, some ⟨e, te.size, List.replicate n.toNat (te.zero.map .val)⟩)], ob := n = m ∧ 0 ≤ n ∧ te.bytes * n ≤ 2 ^ 47 ∧ n < 2 ^ 63 ∧ 0 < te.size }
   | _, _, _ => none
 | .nilCheck x => match evA env x with
   | .ptr i sz k off => out (.ptr i sz k off)
   | .rp cs => out (.rp cs)
   | _ => none
 | .call c => match c.callee with
   | .builtin .len => match c.args.toList, c.argTypes.toList with
     | [x], [t] => match descOf T t, aLen (evA env x) with
       | some (.slice _), some r => match evA env x with
         | .val (.string _) => none
         | _ => some r
       | some .string, some r => match evA env x with
         | .val (.string _) => some r
         | _ => none
       | _, _ => none
     | _, _ => none
   | .builtin .min => match c.args.toList with
     | [x, y] => match aMin2 (evA env x) (evA env y) with
       | some a => out a
       | none => none
     | _ => none
   | .builtin .max => match c.args.toList with
     | [x, y] => match aMax2 (evA env x) (evA env y) with
       | some a => out a
       | none => none
     | _ => none
   | .builtin .append => match c.args.toList, c.argTypes.toList with
     | [x, y], [t, u] => match descOf T u with
       | some (.slice _) => aAppend T hp nb t (evA env x) (evA env y)
       | some .string => aAppend T hp nb t (evA env x) (evA env y)
       | _ => none
     | _, _ => none
   | .value f => match evA env f with
     | .val (.func (.func g) fr bd) => match fr.toList, bd.toList with
       | [], [] => match orc with
         | some o => some (aCall P g (c.args.toList.map (evA env)) hp nb o)
         | none => none
       | _, _ => none
     | _ => none
   | _ => none
 | _ => none
section run
variable {P : Program} {w : World}
theorem run_bind {α β : Type} (m : Sem α) (f : α → Sem β) : ∀ w, (m >>= f).run P w = match m.run P w with
   | .ok a w' => (f a).run P w'
   | .halt h w' => .halt h w' := by
 show ∀ w, (Sem.bind m f).run P w = _
 induction m with
 | pure a => intro w; rfl
 | load md a k ih =>
   intro w
   simp only [Sem.bind, Sem.run]
   cases w.cell? a with
   | some v => exact ih v w
   | none =>
     simp only []
     cases w.farLoad P a (md == .atomic) with
     | ok r => exact ih r.1 w
     | error h => rfl
 | store md a v k ih =>
   intro w
   cases v <;> simp only [Sem.bind, Sem.run]
   all_goals
     cases w.cell? a with
     | some u =>
       simp only []
       split
       · rfl
       · exact ih _
     | none =>
       simp only []
       cases w.farStore P a _ (md == .atomic) with
       | ok r => exact ih _
       | error h => rfl
 | new o k ih => intro w; simp only [Sem.bind, Sem.run]; exact ih _ _
 | shape r k ih => intro w; simp only [Sem.bind, Sem.run]; exact ih _ _
 | freeze a n k ih => intro w; simp only [Sem.bind, Sem.run]; exact ih _
 | frozen a k ih => intro w; simp only [Sem.bind, Sem.run]; exact ih _ _
 | getObj r k ih =>
   intro w
   simp only [Sem.bind, Sem.run]
   cases w.heap[r]? with
   | none => rfl
   | some o => cases o <;> first | rfl | exact ih _ _
 | setObj r o k ih =>
   intro w
   simp only [Sem.bind, Sem.run]
   cases w.heap[r]? with
   | none => rfl
   | some o => cases o <;> first | rfl | exact ih _
 | choose q k ih =>
   intro w
   simp only [Sem.bind, Sem.run]
   split
   · exact ih _ _
   · exact ih _ _
 | sys c k ih => intro w; simp only [Sem.bind, Sem.run]; exact ih _ _
 | program k ih => intro w; simp only [Sem.bind, Sem.run]; exact ih _ _
 | mark m k ih => intro w; simp only [Sem.bind, Sem.run]; exact ih _
 | halt h => intro w; rfl
theorem run_pure {α : Type} (a : α) : (pure a : Sem α).run P w = .ok a w := rfl
theorem run_program : (program).run P w = .ok P w := rfl
theorem run_underlying {t : TypeId} {d : TypeDesc} (h : P.underlying t = some d) : (underlying t).run P w = .ok d w := by
 simp [underlying, run_bind, run_program, h, run_pure]
theorem run_info {t : TypeId} {i : TypeInfo} (h : P.info? t = some i) : (typeInfo t).run P w = .ok i w := by
 simp [typeInfo, run_bind, run_program, h, run_pure]
theorem run_size {t : TypeId} {i : TypeInfo} (h : P.info? t = some i) : (sizeOf t).run P w = .ok i.size w := by
 simp [Go.sizeOf, run_bind, run_info h, run_pure]
theorem run_zero {t : TypeId} {i : TypeInfo} {z : Value} (h : P.info? t = some i) (hz : i.zero = some z) : (zeroValue t).run P w = .ok z w := by
 simp [zeroValue, run_bind, run_info h, hz, run_pure]
theorem run_isAgg {t : TypeId} {d : TypeDesc} (h : P.underlying t = some d) : (isAgg t).run P w = .ok (aggD d) w := by
 simp only [isAgg, run_bind, run_underlying h]
 cases d <;> rfl
end run
def setHp (hp : Hp) : List (Nat × Option Ent) → Hp
 | [] => hp
 | (i, e) :: r => setHp (fun j => if j = i then e else hp j) r
structure Post (X : Nat → Prop) (w : World) (β : Gm) (hp : Hp) (nb : Nat) (r : Out) (v : Value) (w' : World) (β' : Gm) : Prop where
 rep : Rep w' β' (Own X β' (setHp hp r.hw)) r.v v
 good : Good X w' β' (setHp hp r.hw)
 frm : Frm w (Own X β hp) w' (Own X β' (setHp hp r.hw))
 ext : GmExt β β'
 keepX : ∀ b, X b → w'.heap[b]? = w.heap[b]?
 new : ∀ i, β' i ≠ none → β i ≠ none ∨ (nb ≤ i ∧ i < nb + 8)
theorem Post.still {X : Nat → Prop} {w : World} {β : Gm} {hp : Hp} {nb : Nat} {r : Out} {v : Value} (hg : Good X w β hp) (hw : r.hw = []) (hr : Rep w β (Own X β hp) r.v v) : Post X w β hp nb r v w β :=
 ⟨by rw [hw]; exact hr, by rw [hw]; exact hg, by rw [hw]; exact Frm.refl _ _, GmExt.refl _, fun _ _ => rfl, fun i h => .inl h⟩
theorem repL_vals {w : World} {β : Gm} {O : Nat → Prop} : ∀ (l : List Value), RepL w β O (l.map .val) l
 | [] => by simp [RepL]
 | v :: l => by simp only [List.map_cons, RepL]; exact ⟨v, l, rfl, by simp [Rep], repL_vals l⟩
def EnvOk (w : World) (β : Gm) (O : Nat → Prop) (env : Env) (tmps : Array Value) : Prop := ∀ t, Rep w β O (env t) (tmps.getD t undef)
theorem evA_rep {w : World} {β : Gm} {O : Nat → Prop} {env : Env} {a : Act} (h : EnvOk w β O env a.tmps) (x : Operand) : Rep w β O (evA env x) (a.eval x) := by
 cases x with
 | tmp t => exact h t
 | const v => cases v <;> simp [evA, Act.eval, Rep]; exact ⟨_, rfl, repL_vals _⟩
 | global g => simp [evA, Rep]
 | func f => simp [evA, Act.eval, Rep]
section pure
variable {X : Nat → Prop} {P : Program} {T : Tab} {w : World} {β : Gm} {hp : Hp} {nb : Nat} {O : Nat → Prop}
theorem bytes_toList (s : ByteArray) : s.toList = bl s := ByteArray.toList_eq s
theorem bytes_append (a b : ByteArray) : a ++ b = ⟨(bl a ++ bl b).toArray⟩ := by
 apply ByteArray.ext; simp [bl]
theorem tab {t : TypeId} {ti : TI} (hT : TabOk P T) (h : T t = some ti) : ∃ i z, P.info? t = some i ∧ i.size = ti.size ∧ i.bytes = ti.bytes ∧ i.zero = some z ∧ z.cells.toList = ti.zero ∧ P.underlying t = some ti.desc ∧ ti.zero.length = ti.size := by
 obtain ⟨i, z, h1, h2, h3, h4, h5, h6, h7, _⟩ := hT t ti h
 exact ⟨i, z, h1, h2, h3, h4, h5, h6, h7⟩
theorem tab_desc {t : TypeId} {d : TypeDesc} (hT : TabOk P T) (h : descOf T t = some d) : P.underlying t = some d := by
 unfold descOf at h
 split at h
 · rename_i ti hti
   obtain ⟨i, z, _, _, _, _, _, h6, _, _⟩ := hT t ti hti
   rw [h6, ← h]
 · simp at h
theorem run_equal_bool {t : TypeId} {a b : Bool} (hu : P.underlying t = some .bool) : (Op.equal t (.bool a) (.bool b)).run P w = .ok (a == b) w := by
 show (Op.equalIn (9999 + 1) t _ _).run P w = _
 rw [Op.equalIn, run_bind, run_underlying hu]; rfl
theorem valsOf_rep : ∀ {xs : List AV} {us vs : List Value}, valsOf xs = some us → RepL w β O xs vs → vs = us
 | [], us, vs, h, hr => by simp only [RepL] at hr; simp [valsOf] at h; rw [hr, h]
 | .val v :: r, us, vs, h, hr => by
   simp only [RepL, Rep] at hr
   obtain ⟨u, s, rfl, rfl, h3⟩ := hr
   simp only [valsOf] at h
   split at h
   · rename_i l hl
     rw [valsOf_rep hl h3]; simpa using h
   · simp at h
 | .any :: _, _, _, h, _ => by simp [valsOf] at h
 | .agg _ :: _, _, _, h, _ => by simp [valsOf] at h
 | .tup _ :: _, _, _, h, _ => by simp [valsOf] at h
 | .sl _ _ :: _, _, _, h, _ => by simp [valsOf] at h
 | .rp _ :: _, _, _, h, _ => by simp [valsOf] at h
 | .osl _ _ _ :: _, _, _, h, _ => by simp [valsOf] at h
 | .ptr _ _ _ _ :: _, _, _, h, _ => by simp [valsOf] at h
theorem bin_sound (hT : TabOk P T) {op : BinOp} {xt : TypeId} {x y : AV} {u v : Value} {r : Out} {X Y : Operand} (h : aBin P T op xt x y = some r) (hob : r.ob)
   (hx : Rep w β O x u) (hy : Rep w β O y v) : ∃ z, (do eqGuard op xt X Y u v; binOp op xt u v : Sem Value).run P w = .ok z w ∧ Rep w β O r.v z ∧ r.hw = [] := by
 unfold aBin at h
 split at h
 · rename_i k a k' b
   simp only [Rep] at hx hy
   subst hx hy
   simp only [out, Option.some.injEq] at h
   subst h
   refine ⟨(pint op k k' a b).1, ?_, by simp [Rep], rfl⟩
   simp only at hob
   cases op <;> simp only [pint] at hob ⊢ <;> (try (first | (obtain ⟨rfl, h0⟩ := hob) | subst hob)) <;>
     simp_all [eqGuard, binOp, run_bind, run_pure, Op.intArith, Op.intDiv, Op.intBits, Op.shift, Op.intCmp, bitsOf, Int.not_lt]
   all_goals (intro h1; omega)
 · rename_i a b
   simp only [Rep] at hx hy
   subst hx hy
   split at h
   · rename_i z p hz
     simp only [out, Option.some.injEq] at h
     subst h
     refine ⟨z, ?_, by simp [Rep], rfl⟩
     simp only at hob
     have hsz : ∀ s : ByteArray, s.size = (bl s).length := fun s => by simp [bl]
     cases op <;> simp only [pstr, Option.some.injEq, Prod.mk.injEq, reduceCtorEq] at hz <;> (try (obtain ⟨rfl, rfl⟩ := hz)) <;>
       simp only [eqGuard, binOp, run_bind, run_pure, Op.stringOp, bytes_toList, bytes_append, hsz]
     all_goals (try (simp [run_pure, run_bind]; done))
     have hm : IntKind.i64.max = 2 ^ 63 - 1 := by decide
     have hn : ¬ ((((bl a).length + (bl b).length : Nat) : Int) > IntKind.i64.max) := by rw [hm]; omega
     simp only [hn, if_false, run_pure, Bool.not_false, if_true, Bool.false_eq_true]
   · simp at h
 · rename_i a b
   simp only [Rep] at hx hy
   subst hx hy
   split at h
   · rename_i hd
     have hu := tab_desc hT hd
     cases op <;> simp only [out, Option.some.injEq, reduceCtorEq] at h <;> subst h <;>
       exact ⟨_, by simp only [eqGuard, binOp, run_bind, run_pure, run_equal_bool hu]; rfl, by simp [Rep], rfl⟩
   · simp at h
 · rename_i xs ys
   simp only [Rep] at hx hy
   obtain ⟨us', rfl, hx⟩ := hx
   obtain ⟨vs', rfl, hy⟩ := hy
   split at h
   · rename_i us vs hu hv
     have e1 := valsOf_rep hu hx
     have e2 := valsOf_rep hv hy
     subst e1 e2
     cases op <;> simp only [out, Option.some.injEq, reduceCtorEq] at h <;> subst h <;>
       exact ⟨_, by simp only [eqGuard, binOp, Bool.not_true, Bool.false_eq_true, if_false, run_bind, run_program, hob.1, Bool.not_false, if_true, run_pure, hob.2 w]; rfl, by simp [Rep], rfl⟩
   · simp at h
 · simp at h
theorem un_sound {op : UnOp} {x : AV} {u : Value} {r : Out} (h : aUn op x = some r) (hx : Rep w β O x u) :
   ∃ z, (Op.unary op u).run P w = .ok z w ∧ Rep w β O r.v z ∧ r.hw = [] := by
 unfold aUn at h
 split at h
 · rename_i b
   simp only [Rep] at hx
   subst hx
   cases op <;> simp only [out, Option.some.injEq, reduceCtorEq] at h <;> subst h <;> exact ⟨_, by simp [Op.unary, run_pure]; rfl, by simp [Rep], rfl⟩
 · rename_i k n
   simp only [Rep] at hx
   subst hx
   cases op <;> simp only [out, Option.some.injEq, reduceCtorEq] at h <;> subst h <;>
     exact ⟨_, by simp only [Op.unary, run_pure, Op.intArith, Op.intBits, bitsOf]; rfl, by first | (simp only [Rep]; done) | (simp only [Rep]; rfl), rfl⟩
 · simp at h
theorem add_none (b off i : Nat) : (⟨b, off, none⟩ : Addr).add i = ⟨b, off + i, none⟩ := by
 unfold Addr.add; split
 · rename_i h; subst h; rfl
 · rfl
theorem run_load {b off : Nat} {v : Value} (h : w.cell? ⟨b, off, none⟩ = some v) : (load ⟨b, off, none⟩).run P w = .ok v w := by
 simp [load, Sem.run, h]
theorem run_loadFrom {b off : Nat} : ∀ (vs : List Value) (i : Nat) (acc : Array Value), (∀ (j : Nat) v, vs[j]? = some v → w.cell? ⟨b, off + (i + j), none⟩ = some v) →
   (loadCellsFrom ⟨b, off, none⟩ i vs.length acc).run P w = .ok (acc ++ vs.toArray) w
 | [], i, acc, h => by simp [loadCellsFrom, run_pure]
 | v :: vs, i, acc, h => by
   have h0 : w.cell? ⟨b, off + i, none⟩ = some v := by simpa using h 0 v rfl
   simp only [List.length_cons, loadCellsFrom, run_bind, add_none, run_load h0]
   rw [run_loadFrom vs (i + 1) (acc.push v) (fun j u hu => by
     have := h (j + 1) u (by simpa using hu)
     rw [show i + 1 + j = i + (j + 1) from by omega]; exact this)]
   simp
theorem run_loadCells {b off : Nat} {vs : List Value} {n : Nat} (h : cellsAt w b off vs) (hn : n = vs.length) : (loadCells ⟨b, off, none⟩ n).run P w = .ok vs.toArray w := by
 subst hn
 rw [loadCells, run_loadFrom vs 0 #[] (fun j v hv => by simpa using h j v hv)]; simp
theorem bytes_size (s : ByteArray) : s.size = (bl s).length := by simp [bl]
theorem bytes_get (s : ByteArray) (i : Nat) : s[i]? = (bl s)[i]? := by
 simp only [bl, Array.getElem?_toList]
 by_cases h : i < s.size
 · rw [getElem?_pos s i h, getElem?_pos s.data i (by simpa using h)]; rfl
 · rw [getElem?_neg s i h, getElem?_neg s.data i (by simpa using h)]
theorem index_sound (hT : TabOk P T) {t : TypeId} {x i : AV} {u v : Value} {r : Out} (h : aIndex T t x i = some r) (hob : r.ob)
   (hx : Rep w β O x u) (hi : Rep w β O i v) : ∃ z, (Instr.index t u v).run P w = .ok z w ∧ Rep w β O r.v z ∧ r.hw = [] := by
 unfold aIndex at h
 split at h
 · rename_i s k n hd
   simp only [Rep] at hx hi
   subst hx hi
   split at h
   · rename_i b hb
     simp only [out, Option.some.injEq] at h
     subst h
     refine ⟨.int .u8 b.toNat, ?_, by simp only [Rep], rfl⟩
     simp only at hob
     simp only [Instr.index, run_bind, asIntOf, run_pure, run_underlying (tab_desc hT hd), hob, if_true, bytes_get, hb]
   · simp at h
 · simp at h
theorem len_sound (hT : TabOk P T) {x : AV} {u : Value} {r : Out} (h : aLen x = some r) (hx : Rep w β O x u) {t ty : TypeId}
   (hd : (∃ e, descOf T t = some (.slice e)) ∧ (∀ s, x ≠ .val (.string s)) ∨ descOf T t = some .string ∧ ∃ s, x = .val (.string s)) : ∃ z, (Builtin.len_ #[t] ty #[u]).run P w = .ok z w ∧ Rep w β O r.v z ∧ r.hw = [] := by
 rcases hd with ⟨⟨e, hd⟩, hn⟩ | ⟨hd, s, rfl⟩
 · have hu := tab_desc hT hd
   unfold aLen at h
   split at h
   · rename_i sz es
     simp only [out, Option.some.injEq] at h
     subst h
     simp only [Rep] at hx
     rcases hx with ⟨rfl, rfl⟩ | ⟨b, off, cap, vs, rfl, _⟩
     · exact ⟨goInt 0, by simp [Builtin.len_, run_bind, run_underlying hu, run_pure], by simp [Rep, goInt], rfl⟩
     · exact ⟨goInt es.length, by simp [Builtin.len_, run_bind, run_underlying hu, run_pure], by simp [Rep, goInt], rfl⟩
   · rename_i i n sz
     simp only [out, Option.some.injEq] at h
     subst h
     simp only [Rep] at hx
     rcases hx with ⟨_, rfl, rfl⟩ | ⟨b, cap, T, m, _, rfl, _⟩
     · exact ⟨goInt 0, by simp [Builtin.len_, run_bind, run_underlying hu, run_pure], by simp [Rep, goInt], rfl⟩
     · exact ⟨goInt n, by simp [Builtin.len_, run_bind, run_underlying hu, run_pure], by simp [Rep, goInt], rfl⟩
   · rename_i s
     exact absurd rfl (hn s)
   · simp only [out, Option.some.injEq] at h
     subst h
     simp only [Rep] at hx
     subst hx
     exact ⟨goInt 0, by simp [Builtin.len_, run_bind, run_underlying hu, run_pure], by simp [Rep, goInt], rfl⟩
   · simp at h
 · have hu := tab_desc hT hd
   simp only [aLen, out, Option.some.injEq] at h
   subst h
   simp only [Rep] at hx
   subst hx
   exact ⟨goInt s.size, by simp [Builtin.len_, run_bind, run_underlying hu, run_pure], by simp [Rep, goInt, bytes_size], rfl⟩
theorem part_sound (hT : TabOk P T) {ft : TypeId} {tf : TI} (hf : T ft = some tf) {cs : List AV} {p : Prop} {hr : List Nat} {r : Out} (h : aPart tf cs p hr = some r) (hob : r.ob)
   {vs : List Value} (hv : RepL w β O cs vs) : p ∧ r.hw = [] ∧ ∃ z, Rep w β O r.v z ∧
     (tf.isAgg = true → z = .agg (vs.take tf.size).toArray ∧ tf.size ≤ vs.length) ∧ (tf.isAgg = false → ∃ rest, vs = z :: rest) := by
 unfold aPart at h
 split at h
 · rename_i ha
   simp only [Option.some.injEq] at h
   subst h
   simp only at hob
   have hl := hv.length
   have hsp : cs = cs.take tf.size ++ cs.drop tf.size := (List.take_append_drop _ _).symm
   rw [hsp] at hv
   obtain ⟨v1, v2, rfl, h1, h2⟩ := hv.split
   have hl1 : v1.length = tf.size := by rw [← h1.length]; simp; omega
   refine ⟨hob.1, rfl, .agg v1.toArray, by simp only [Rep]; exact ⟨v1, rfl, h1⟩, fun _ => ⟨by rw [← hl1]; simp, by simp; omega⟩, fun hn => by simp [ha] at hn⟩
 · rename_i ha
   split at h
   · rename_i c rest
     simp only [Option.some.injEq] at h
     subst h
     simp only [RepL] at hv
     obtain ⟨v, r', rfl, h1, h2⟩ := hv
     exact ⟨hob, rfl, v, h1, fun hn => absurd hn ha, fun _ => ⟨r', rfl⟩⟩
   · simp at h
theorem fieldOf_spec (hT : TabOk P T) {t : TypeId} {f o : Nat} {tf : TI} (h : fieldOf T t f = some (o, tf)) :
   ∃ fs fd, P.underlying t = some (.struct fs) ∧ fs[f]? = some fd ∧ fd.offset = o ∧ T fd.type = some tf := by
 unfold fieldOf at h
 split at h
 · rename_i fs hd
   split at h
   · rename_i fd hfd
     split at h
     · rename_i tf' htf
       simp only [Option.some.injEq, Prod.mk.injEq] at h
       obtain ⟨rfl, rfl⟩ := h
       exact ⟨fs, fd, tab_desc hT hd, hfd, rfl, htf⟩
     · simp at h
   · simp at h
 · simp at h
theorem elemOf_spec (hT : TabOk P T) {t e : TypeId} {te : TI} (h : elemOf T t = some (e, te)) : P.underlying t = some (.slice e) ∧ T e = some te := by
 unfold elemOf at h
 split at h
 · rename_i e' hd
   split at h
   · rename_i te' hte
     simp only [Option.some.injEq, Prod.mk.injEq] at h
     obtain ⟨rfl, rfl⟩ := h
     exact ⟨tab_desc hT hd, hte⟩
   · simp at h
 · simp at h
theorem run_part {ft : TypeId} {d : TypeDesc} {i : TypeInfo} (hu : P.underlying ft = some d) (hi : P.info? ft = some i) {xs : Array Value} {off : Nat} :
   (part ft xs off).run P w = if aggD d then .ok (.agg (xs.extract off (off + i.size))) w
     else match xs[off]? with
       | some v => .ok v w
       | none => (part ft xs off).run P w := by
 by_cases ha : aggD d = true
 · rw [if_pos ha]
   unfold part
   simp only [run_bind, run_isAgg hu]
   cases d <;> simp only [aggD, run_bind, run_size hi, run_pure, if_true, if_false, Bool.false_eq_true] at ha ⊢
 · rw [if_neg ha]
   cases hx : xs[off]? with
   | none => rfl
   | some v =>
     unfold part
     simp only [run_bind, run_isAgg hu]
     cases d <;> simp only [aggD, run_bind, run_size hi, run_pure, if_true, if_false, Bool.false_eq_true, hx, not_true_eq_false] at ha ⊢
theorem RepL.drop {cs : List AV} {vs : List Value} (h : RepL w β O cs vs) (o : Nat) : RepL w β O (cs.drop o) (vs.drop o) := by
 rw [← List.take_append_drop o cs] at h
 obtain ⟨v1, v2, rfl, h1, h2⟩ := h.split
 by_cases ho : o ≤ cs.length
 · have hl : v1.length = o := by rw [← h1.length]; simp; omega
   rw [← hl] at h2 ⊢
   simpa using h2
 · have e1 : cs.drop o = [] := List.drop_eq_nil_of_le (by omega)
   have hl := h1.length
   rw [e1] at h2 ⊢
   simp only [RepL] at h2 ⊢
   subst h2
   simp at hl ⊢
   omega
theorem field_sound (hT : TabOk P T) {t : TypeId} {f : Nat} {x : AV} {u : Value} {r : Out} (h : aField T t x f = some r) (hob : r.ob)
   (hx : Rep w β O x u) : ∃ z, (Instr.field t u f).run P w = .ok z w ∧ Rep w β O r.v z ∧ r.hw = [] := by
 unfold aField at h
 split at h
 · rename_i o tf cs hf
   obtain ⟨fs, fd, hu, hfd, ho, htf⟩ := fieldOf_spec hT hf
   obtain ⟨i, z0, hi, hsz, _, _, _, hud, _⟩ := tab hT htf
   simp only [Rep] at hx
   obtain ⟨vs, rfl, hl⟩ := hx
   obtain ⟨_, hw, z, hz, h1, h2⟩ := part_sound hT htf h hob (hl.drop o)
   refine ⟨z, ?_, hz, hw⟩
   simp only [Instr.field, run_bind, run_underlying hu, hfd, asAgg, run_pure, ho]
   rw [run_part hud hi]
   by_cases ha : tf.isAgg = true
   · obtain ⟨rfl, hle⟩ := h1 ha
     have e : aggD tf.desc = true := ha
     rw [if_pos e, hsz]
     simp at hle
     congr 2
     apply Array.ext'
     simp [List.take_drop, Nat.add_comm]
   · obtain ⟨rest, hr⟩ := h2 (by simpa using ha)
     have e : ¬ aggD tf.desc = true := ha
     rw [if_neg e]
     have : vs[o]? = some z := by
       have : (vs.drop o)[0]? = some z := by rw [hr]; rfl
       simpa using this
     simp [this]
 · simp at h
theorem cellsAt.drop {b off : Nat} {vs : List Value} (h : cellsAt w b off vs) (o : Nat) : cellsAt w b (off + o) (vs.drop o) := by
 intro j v hv
 have := h (o + j) v (by simpa using hv)
 rw [Nat.add_assoc]; exact this
theorem run_fieldPlace {a : Addr} {fd : Field} {i : TypeInfo} (hi : P.info? fd.type = some i) (hn : i.size ≠ 0) : (fieldPlace a fd).run P w = .ok (a.add fd.offset) w := by
 simp [fieldPlace, run_bind, run_size hi, hn, run_pure]
theorem fieldAddr_sound (hT : TabOk P T) {t : TypeId} {f : Nat} {x : AV} {u : Value} {r : Out} (h : aFieldAddr T t x f = some r) (hob : r.ob)
   (hx : Rep w β O x u) : ∃ z, (Instr.fieldAt t u f).run P w = .ok z w ∧ Rep w β O r.v z ∧ r.hw = [] := by
 unfold aFieldAddr at h
 split at h
 · rename_i o tf i sz k off hf
   obtain ⟨fs, fd, hu, hfd, rfl, htf⟩ := fieldOf_spec hT hf
   obtain ⟨ti, z0, hi, hsz, _, _, _, hud, _⟩ := tab hT htf
   simp only [Rep] at hx
   obtain ⟨b, hb, rfl⟩ := hx
   simp only [out, Option.some.injEq] at h
   subst h
   refine ⟨.pointer (some ⟨b, k * sz + (off + fd.offset), none⟩), ?_, by simp only [Rep]; exact ⟨b, hb, rfl⟩, rfl⟩
   simp only [Instr.fieldAt, run_bind, run_underlying hu, hfd, Instr.sureAddr, run_pure, run_fieldPlace hi (by rw [hsz]; exact hob), add_none, Nat.add_assoc]
 · rename_i o tf cs hf
   obtain ⟨fs, fd, hu, hfd, rfl, htf⟩ := fieldOf_spec hT hf
   obtain ⟨ti, z0, hi, hsz, _, _, _, hud, _⟩ := tab hT htf
   simp only [Rep] at hx
   obtain ⟨b, off, vs, rfl, h1, h2, h3, h4⟩ := hx
   simp only [out, Option.some.injEq] at h
   subst h
   refine ⟨.pointer (some ⟨b, off + fd.offset, none⟩), ?_, by simp only [Rep]; exact ⟨b, _, _, rfl, h1, h2, h3.drop _, h4.drop _⟩, rfl⟩
   simp only [Instr.fieldAt, run_bind, run_underlying hu, hfd, Instr.sureAddr, run_pure, run_fieldPlace hi (by rw [hsz]; exact hob), add_none, Nat.add_assoc]
 · simp at h
theorem cellsAt.mid {b off : Nat} {v1 u v2 : List Value} (h : cellsAt w b off (v1 ++ u ++ v2)) : cellsAt w b (off + v1.length) u := by
 intro j v hv
 have := h (v1.length + j) v (by
   rw [List.append_assoc, List.getElem?_append_right (by omega)]
   simp
   rw [List.getElem?_append_left]
   · exact hv
   · rcases Nat.lt_or_ge j u.length with h | h
     · exact h
     · rw [List.getElem?_eq_none h] at hv; cases hv)
 rw [Nat.add_assoc]; exact this
theorem indexAddr_sound (hT : TabOk P T) {t : TypeId} {x i : AV} {u v : Value} {r : Out} (h : aIndexAddr T t x i = some r) (hob : r.ob)
   (hx : Rep w β O x u) (hi : Rep w β O i v) : ∃ z, (Instr.indexAt t u v).run P w = .ok z w ∧ Rep w β O r.v z ∧ r.hw = [] := by
 unfold aIndexAddr at h
 split at h
 · rename_i e te sz es k n he
   obtain ⟨hu, hte⟩ := elemOf_spec hT he
   obtain ⟨ti, z0, hti, hsz, _, _, _, hud, _⟩ := tab hT hte
   simp only [Rep] at hi
   subst hi
   split at h
   · rename_i c hc
     simp only [out, Option.some.injEq] at h
     subst h
     simp only at hob
     obtain ⟨h0, hs⟩ := hob
     simp only [Rep] at hx
     have hlt : n.toNat < es.length := by
       rcases Nat.lt_or_ge n.toNat es.length with h | h
       · exact h
       · simp [List.getElem?_eq_none h] at hc
     rcases hx with ⟨rfl, rfl⟩ | ⟨b, off, cap, vs, rfl, h1, h2, h3, h4, h5⟩
     · simp at hlt
     · obtain ⟨v1, cu, v2, rfl, hv1, hcu, _, _⟩ := h5.at _ c hc
       refine ⟨.pointer (some ⟨b, off + n.toNat * ti.size, none⟩), ?_, ?_, rfl⟩
       · simp only [Instr.indexAt, run_bind, asIntOf, run_pure, run_underlying hu]
         have hin : 0 ≤ n ∧ n < (es.length : Int) := ⟨h0, by omega⟩
         simp only [hin, and_self, if_true, run_bind, run_size hti, run_pure, add_none]
       · simp only [Rep]
         refine ⟨b, _, cu, rfl, h2, h3, ?_, hcu⟩
         have := h4.mid
         rw [hv1, hs, ← hsz] at this
         exact this
   · simp at h
 · rename_i e te j m sz k n he
   obtain ⟨hu, hte⟩ := elemOf_spec hT he
   obtain ⟨ti, z0, hti, hsz, _, _, _, hud, _⟩ := tab hT hte
   simp only [Rep] at hi hx
   subst hi
   simp only [out, Option.some.injEq] at h
   subst h
   simp only at hob
   obtain ⟨h0, h1, hs⟩ := hob
   rcases hx with ⟨_, rfl, rfl⟩ | ⟨b, cap, T', m', hb, rfl, h2, h3, h4⟩
   · omega
   · refine ⟨.pointer (some ⟨b, n.toNat * sz + 0, none⟩), ?_, by simp only [Rep]; exact ⟨b, hb, rfl⟩, rfl⟩
     simp only [Instr.indexAt, run_bind, asIntOf, run_pure, run_underlying hu]
     have hin : 0 ≤ n ∧ n < (m : Int) := ⟨h0, h1⟩
     simp only [hin, and_self, if_true, run_bind, run_size hti, run_pure, add_none, hs, hsz]
     simp
 · rename_i i sz k off kk n he
   split at h
   · rename_i len te harr
     have : ∃ e, P.underlying t = some (.array len e) ∧ T e = some te := by
       unfold arrOf at harr
       split at harr
       · rename_i len' e hd
         split at harr
         · rename_i te' hte
           simp only [Option.some.injEq, Prod.mk.injEq] at harr
           obtain ⟨rfl, rfl⟩ := harr
           exact ⟨e, tab_desc hT hd, hte⟩
         · simp at harr
       · simp at harr
     obtain ⟨e, hu, hte⟩ := this
     obtain ⟨ti, z0, hti, hsz, _, _, _, hud, _⟩ := tab hT hte
     simp only [Rep] at hi hx
     subst hi
     simp only [out, Option.some.injEq] at h
     subst h
     simp only at hob
     obtain ⟨h0, h1⟩ := hob
     obtain ⟨b, hb, rfl⟩ := hx
     refine ⟨.pointer (some ⟨b, k * sz + (off + n.toNat * te.size), none⟩), ?_, by simp only [Rep]; exact ⟨b, hb, rfl⟩, rfl⟩
     simp only [Instr.indexAt, run_bind, asIntOf, run_pure, run_underlying hu, Instr.sureAddr]
     have hin : 0 ≤ n ∧ n < (len : Int) := ⟨h0, h1⟩
     simp only [hin, and_self, if_true, run_bind, run_size hti, run_pure, add_none, hsz, Nat.add_assoc]
   · simp at h
 · simp at h
theorem cell_block {b : Nat} {c : Array Value} {ty : TypeId} {fr : Nat × Nat} (h : w.heap[b]? = some (.cells c ty fr)) (o : Nat) : w.cell? ⟨b, o, none⟩ = c[o]? := by
 simp [World.cell?, h]
theorem cellsAt_block {b : Nat} {c : Array Value} {ty : TypeId} {fr : Nat × Nat} (h : w.heap[b]? = some (.cells c ty fr)) {vs rest : List Value} (hc : c.toList = vs ++ rest) : cellsAt w b 0 vs := by
 intro j v hv
 rw [cell_block h, Nat.zero_add, ← Array.getElem?_toList, hc, List.getElem?_append_left]
 · exact hv
 · rcases Nat.lt_or_ge j vs.length with h | h
   · exact h
   · rw [List.getElem?_eq_none h] at hv; cases hv
theorem cellsAt.take {b off : Nat} {vs : List Value} (h : cellsAt w b off vs) (n : Nat) : cellsAt w b off (vs.take n) := by
 intro j v hv
 refine h j v ?_
 by_cases hj : j < n
 · rwa [List.getElem?_take_of_lt hj] at hv
 · rw [List.getElem?_eq_none (by simp; omega)] at hv; cases hv
theorem run_loadVar {t : TypeId} {ti : TI} (hT : TabOk P T) (ht : T t = some ti) {b off : Nat} {vs : List Value} {z : Value} (hc : cellsAt w b off vs)
   (h1 : ti.isAgg = true → z = .agg (vs.take ti.size).toArray ∧ ti.size ≤ vs.length) (h2 : ti.isAgg = false → ∃ rest, vs = z :: rest) :
   (loadVar t ⟨b, off, none⟩).run P w = .ok z w := by
 obtain ⟨i, z0, hi, hsz, _, _, _, hud, _⟩ := tab hT ht
 unfold loadVar
 simp only [run_bind, run_isAgg hud]
 by_cases ha : ti.isAgg = true
 · obtain ⟨rfl, hle⟩ := h1 ha
   have e : aggD ti.desc = true := ha
   simp only [e, if_true, run_bind, run_size hi, hsz]
   rw [run_loadCells (hc.take ti.size) (by simp; omega)]
   rfl
 · obtain ⟨rest, rfl⟩ := h2 (by simpa using ha)
   have e : aggD ti.desc = false := by simpa [TI.isAgg] using ha
   simp only [e, if_false, Bool.false_eq_true]
   have := hc 0 z rfl
   exact run_load (by simpa using this)
theorem Good.elem {i : Nat} {e : Ent} (hg : Good X w β hp) (hi : hp i = some e) {k : Nat} {c : List AV} (hk : e.es[k]? = some c) :
   ∃ b cs fr v1 u v2 rest, β i = some (some b) ∧ w.heap[b]? = some (.cells cs e.ty fr) ∧ (∀ o, o < cs.size → fr.1 = fr.2 ∨ o < fr.1) ∧ cs.toList = v1 ++ u ++ v2 ++ rest ∧ v1.length = k * e.sz ∧
     RepL w β (Own X β hp) c u ∧ RepE w β (Own X β hp) e.sz (e.es.take k) v1 ∧ RepE w β (Own X β hp) e.sz (e.es.drop (k + 1)) v2 ∧ c.length = e.sz := by
 rcases hg.ent i e hi with ⟨_, h⟩ | ⟨b, cs, fr, vs, rest, h1, h2, h3, h4, h5⟩
 · rw [h] at hk; simp at hk
 · obtain ⟨v1, u, v2, rfl, ha, hb, hc, hd⟩ := h5.at k c hk
   exact ⟨b, cs, fr, v1, u, v2, rest, h1, h2, h3, h4, ha, hb, hc, hd, h5.mem c (List.mem_of_getElem? hk)⟩
theorem load_sound (hT : TabOk P T) (hg : Good X w β hp) {t : TypeId} {x : AV} {u : Value} {r : Out} (h : aLoad T hp t x = some r) (hob : r.ob)
   (hx : Rep w β (Own X β hp) x u) : ∃ z, (Instr.loadAt t u).run P w = .ok z w ∧ Rep w β (Own X β hp) r.v z ∧ r.hw = [] := by
 unfold aLoad at h
 split at h
 · rename_i ti cs ht
   simp only [Rep] at hx
   obtain ⟨b, off, vs, rfl, h1, h2, h3, h4⟩ := hx
   obtain ⟨_, hw, z, hz, ha, hb⟩ := part_sound hT ht h hob h4
   refine ⟨z, ?_, hz.up, hw⟩
   simp only [Instr.loadAt, run_bind, Instr.sureAddr, run_pure]
   exact run_loadVar hT ht h3 ha hb
 · rename_i ti i sz k off ht
   simp only [Rep] at hx
   obtain ⟨b, hb, rfl⟩ := hx
   split at h
   · rename_i e he
     split at h
     · rename_i c hc
       obtain ⟨b', cs, fr, v1, cu, v2, rest, hb', hheap, _, hcs, hv1, hcu, _, _, _⟩ := hg.elem he hc
       obtain rfl : b = b' := by rw [hb] at hb'; simpa using hb'
       obtain ⟨hsz, hw, z, hz, ha, hb2⟩ := part_sound hT ht h hob (hcu.drop off)
       refine ⟨z, ?_, hz, hw⟩
       simp only [Instr.loadAt, run_bind, Instr.sureAddr, run_pure]
       have hca : cellsAt w b 0 (v1 ++ cu ++ v2) := cellsAt_block hheap hcs
       have := (hca.mid).drop off
       rw [hv1, hsz, Nat.zero_add] at this
       exact run_loadVar hT ht this ha hb2
     · simp at h
   · simp at h
 · simp at h
theorem bound_sound {env : Env} {a : Act} (henv : EnvOk w β O env a.tmps) {d l y : Nat} {p : Prop} {lo : Option Operand} (h : aBound env d lo = some (l, p)) (hp : p) (hle : l ≤ y) (code : BoundsCode) :
   (match (lo.map a.eval : Option Value) with | some v => Instr.sliceBound v y code | none => (pure d : Sem Nat)).run P w = .ok l w := by
 cases lo with
 | none =>
   simp only [aBound, Option.some.injEq, Prod.mk.injEq] at h
   obtain ⟨rfl, _⟩ := h
   rfl
 | some x =>
   simp only [aBound] at h
   split at h
   · rename_i k n hx
     simp only [Option.some.injEq, Prod.mk.injEq] at h
     obtain ⟨rfl, rfl⟩ := h
     have hr := evA_rep henv x
     rw [hx] at hr
     simp only [Rep] at hr
     have hin : 0 ≤ n ∧ n ≤ (y : Int) := ⟨hp, by omega⟩
     simp [hr, Instr.sliceBound, run_bind, asIntOf, run_pure, hin]
   · simp at h
end pure
end Go.Av
