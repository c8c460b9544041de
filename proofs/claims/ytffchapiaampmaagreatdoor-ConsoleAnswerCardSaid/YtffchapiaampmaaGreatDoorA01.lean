/-
  Part 1 of the proof that logtidelaw45.ConsoleAnswer returns true for every list of bytes and every text, and leaves both as they were.
-/
import Derived.Orders
import Derived.Below
set_option linter.unusedSimpArgs false
set_option linter.unusedVariables false
namespace Go.Av
def pow10 : List Int := [1, 10, 100, 1000, 10000, 100000, 1000000, 10000000, 100000000, 1000000000, 10000000000, 100000000000, 1000000000000, 10000000000000, 100000000000000, 1000000000000000, 10000000000000000, 100000000000000000, 1000000000000000000, 10000000000000000000]
/-- The blocks of the tables. -/
def lwB (b : Nat) : Prop := b = 0
/-- The tables hold what they should. -/
def lwOk (w : World) : Prop := ∃ t fr, w.heap[0]? = some (.cells (pow10.map fun n => Value.int .u64 n).toArray t fr)
theorem lwKeep {w w' : World} (h : ∀ b, lwB b → w'.heap[b]? = w.heap[b]?) (hw : lwOk w) : lwOk w' := by
 obtain ⟨t, fr, h1⟩ := hw
 exact ⟨t, fr, by rw [h 0 rfl]; exact h1⟩
inductive AV where
 | any
 | val (v : Value)
 | agg (cs : List AV)
 | tup (cs : List AV)
 | sl (sz : Nat) (es : List (List AV))
 | rp (cs : List AV)
 | osl (id n sz : Nat)
 | ptr (id sz k off : Nat)
 | osv (id lo n sz : Nat)
 deriving Inhabited
structure Ent where
 ty : TypeId
 sz : Nat
 es : List (List AV)
abbrev Env := Nat → AV
abbrev Hp := Nat → Option Ent
abbrev Gm := Nat → Option (Option Nat)
def β0 : Gm := fun _ => none
/-- The blocks that are owned; X: those that a caller owns. -/
def Own (X : Nat → Prop) (β : Gm) (hp : Hp) (b : Nat) : Prop := X b ∨ ∃ i e, hp i = some e ∧ β i = some (some b)
def cellsAt (w : World) (b off : Nat) (vs : List Value) : Prop := ∀ (j : Nat) (v : Value), vs[j]? = some v → w.cell? ⟨b, off + j, none⟩ = some v
mutual
def Rep (w : World) (β : Gm) (O : Nat → Prop) : AV → Value → Prop
 | .any, _ => True
 | .val u, v => v = u
 | .agg cs, v => ∃ vs : List Value, v = .agg vs.toArray ∧ RepL w β O cs vs
 | .tup cs, v => ∃ vs : List Value, v = .tuple vs.toArray ∧ RepL w β O cs vs
 | .sl sz es, v => (v = .slice none 0 0 ∧ es = []) ∨ ∃ b off cap vs, v = .slice (some ⟨b, off, none⟩) es.length cap ∧ es.length ≤ cap ∧ b < w.heap.size ∧ ¬ O b ∧ cellsAt w b off vs ∧ RepE w β0 O sz es vs
 | .rp cs, v => ∃ b off vs, v = .pointer (some ⟨b, off, none⟩) ∧ b < w.heap.size ∧ ¬ O b ∧ cellsAt w b off vs ∧ RepL w β0 O cs vs
 | .osl i n sz, v => (β i = some none ∧ v = .slice none 0 0 ∧ n = 0) ∨ ∃ b cap T m, β i = some (some b) ∧ v = .slice (some ⟨b, 0, none⟩) n cap ∧ n ≤ cap ∧ w.shape? b = some (T, m) ∧ cap * sz ≤ m
 | .ptr i sz k off, v => ∃ b, β i = some (some b) ∧ v = .pointer (some ⟨b, k * sz + off, none⟩)
 | .osv i lo n sz, v => (β i = some none ∧ v = .slice none 0 0 ∧ n = 0) ∨ ∃ b off cap T m, β i = some (some b) ∧ v = .slice (some ⟨b, off, none⟩) n cap ∧ n ≤ cap ∧ (off = lo * sz ∨ (n = 0 ∧ cap = 0 ∧ off = 0)) ∧ w.shape? b = some (T, m) ∧ off + cap * sz ≤ m
def RepL (w : World) (β : Gm) (O : Nat → Prop) : List AV → List Value → Prop
 | [], vs => vs = []
 | c :: cs, vs => ∃ v r, vs = v :: r ∧ Rep w β O c v ∧ RepL w β O cs r
def RepE (w : World) (β : Gm) (O : Nat → Prop) (sz : Nat) : List (List AV) → List Value → Prop
 | [], vs => vs = []
 | c :: cs, vs => ∃ v r, vs = v ++ r ∧ c.length = sz ∧ RepL w β O c v ∧ RepE w β O sz cs r
end
/-- What a step may do to memory, as far as standing values are concerned. -/
structure Stab (w w' : World) (β β' : Gm) (O O' : Nat → Prop) : Prop where
 size : w.heap.size ≤ w'.heap.size
 gm : ∀ i p, β i = some p → β' i = some p
 shape : ∀ b s, w.shape? b = some s → w'.shape? b = some s
 blk : ∀ b, b < w.heap.size → ¬ O b → w'.heap[b]? = w.heap[b]? ∧ ¬ O' b
theorem Stab.z {w w' : World} {β β' : Gm} {O O' : Nat → Prop} (h : Stab w w' β β' O O') : Stab w w' β0 β0 O O' := ⟨h.size, fun _ _ h => h, h.shape, h.blk⟩
theorem Stab.up (w : World) (β : Gm) (O : Nat → Prop) : Stab w w β0 β O O := ⟨Nat.le_refl _, fun _ _ h => by simp [β0] at h, fun _ _ h => h, fun _ _ h => ⟨rfl, h⟩⟩
theorem cell_of_heap {w w' : World} {b : Nat} (h : w'.heap[b]? = w.heap[b]?) (o : Nat) (s : Option Nat) : w'.cell? ⟨b, o, s⟩ = w.cell? ⟨b, o, s⟩ := by
 simp only [World.cell?, h]
theorem cellsAt.keep {w w' : World} {b off : Nat} {vs : List Value} (h : cellsAt w b off vs) (hb : w'.heap[b]? = w.heap[b]?) : cellsAt w' b off vs :=
 fun j v hv => (cell_of_heap hb _ _).trans (h j v hv)
mutual
theorem Rep.mono {w w' : World} {β β' : Gm} {O O' : Nat → Prop} (h : Stab w w' β β' O O') : ∀ (a : AV) (v : Value), Rep w β O a v → Rep w' β' O' a v
 | .any, _, _ => by simp [Rep]
 | .val u, v, hr => by simpa [Rep] using hr
 | .agg cs, v, hr => by
   simp only [Rep] at hr ⊢
   obtain ⟨vs, rfl, hl⟩ := hr
   exact ⟨vs, rfl, RepL.mono h cs vs hl⟩
 | .tup cs, v, hr => by
   simp only [Rep] at hr ⊢
   obtain ⟨vs, rfl, hl⟩ := hr
   exact ⟨vs, rfl, RepL.mono h cs vs hl⟩
 | .sl sz es, v, hr => by
   simp only [Rep] at hr ⊢
   rcases hr with hr | ⟨b, off, cap, vs, h1, h2, h3, h4, h5, h6⟩
   · exact .inl hr
   · exact .inr ⟨b, off, cap, vs, h1, h2, Nat.lt_of_lt_of_le h3 h.size, (h.blk b h3 h4).2, h5.keep (h.blk b h3 h4).1, RepE.mono h.z sz es vs h6⟩
 | .rp cs, v, hr => by
   simp only [Rep] at hr ⊢
   obtain ⟨b, off, vs, h1, h3, h4, h5, h6⟩ := hr
   exact ⟨b, off, vs, h1, Nat.lt_of_lt_of_le h3 h.size, (h.blk b h3 h4).2, h5.keep (h.blk b h3 h4).1, RepL.mono h.z cs vs h6⟩
 | .osl i n sz, v, hr => by
   simp only [Rep] at hr ⊢
   rcases hr with ⟨h1, h2⟩ | ⟨b, cap, T, m, h1, h2, h3, h4, h5⟩
   · exact .inl ⟨h.gm _ _ h1, h2⟩
   · exact .inr ⟨b, cap, T, m, h.gm _ _ h1, h2, h3, h.shape _ _ h4, h5⟩
 | .ptr i sz k off, v, hr => by
   simp only [Rep] at hr ⊢
   obtain ⟨b, h1, h2⟩ := hr
   exact ⟨b, h.gm _ _ h1, h2⟩
 | .osv i lo n sz, v, hr => by
   simp only [Rep] at hr ⊢
   rcases hr with ⟨h1, h2⟩ | ⟨b, off, cap, T, m, h1, h2, h3, h5, h4, h6⟩
   · exact .inl ⟨h.gm _ _ h1, h2⟩
   · exact .inr ⟨b, off, cap, T, m, h.gm _ _ h1, h2, h3, h5, h.shape _ _ h4, h6⟩
theorem RepL.mono {w w' : World} {β β' : Gm} {O O' : Nat → Prop} (h : Stab w w' β β' O O') : ∀ (a : List AV) (v : List Value), RepL w β O a v → RepL w' β' O' a v
 | [], v, hr => by simpa [RepL] using hr
 | c :: cs, v, hr => by
   simp only [RepL] at hr ⊢
   obtain ⟨u, r, h1, h2, h3⟩ := hr
   exact ⟨u, r, h1, Rep.mono h c u h2, RepL.mono h cs r h3⟩
theorem RepE.mono {w w' : World} {β β' : Gm} {O O' : Nat → Prop} (h : Stab w w' β β' O O') (sz : Nat) : ∀ (a : List (List AV)) (v : List Value), RepE w β O sz a v → RepE w' β' O' sz a v
 | [], v, hr => by simpa [RepE] using hr
 | c :: cs, v, hr => by
   simp only [RepE] at hr ⊢
   obtain ⟨u, r, h1, h2, h3, h4⟩ := hr
   exact ⟨u, r, h1, h2, RepL.mono h c u h3, RepE.mono h sz cs r h4⟩
end
theorem Rep.up {w : World} {β : Gm} {O : Nat → Prop} {a : AV} {v : Value} (h : Rep w β0 O a v) : Rep w β O a v := Rep.mono (Stab.up w β O) a v h
theorem RepL.up {w : World} {β : Gm} {O : Nat → Prop} {a : List AV} {v : List Value} (h : RepL w β0 O a v) : RepL w β O a v := RepL.mono (Stab.up w β O) a v h
theorem RepE.up {w : World} {β : Gm} {O : Nat → Prop} {sz : Nat} {a : List (List AV)} {v : List Value} (h : RepE w β0 O sz a v) : RepE w β O sz a v := RepE.mono (Stab.up w β O) sz a v h
section lists
variable {w : World} {β : Gm} {O : Nat → Prop}
theorem RepL.length : ∀ {a : List AV} {v : List Value}, RepL w β O a v → a.length = v.length
 | [], v, h => by simp only [RepL] at h; simp [h]
 | c :: cs, v, h => by
   simp only [RepL] at h
   obtain ⟨u, r, rfl, _, h3⟩ := h
   simp [RepL.length h3]
theorem RepL.append : ∀ {a a' : List AV} {v v' : List Value}, RepL w β O a v → RepL w β O a' v' → RepL w β O (a ++ a') (v ++ v')
 | [], a', v, v', h, h' => by simp only [RepL] at h; subst h; simpa using h'
 | c :: cs, a', v, v', h, h' => by
   simp only [RepL] at h
   obtain ⟨u, r, rfl, h2, h3⟩ := h
   simp only [List.cons_append, RepL]
   exact ⟨u, r ++ v', rfl, h2, h3.append h'⟩
theorem RepL.split : ∀ {a a' : List AV} {v : List Value}, RepL w β O (a ++ a') v → ∃ v1 v2, v = v1 ++ v2 ∧ RepL w β O a v1 ∧ RepL w β O a' v2
 | [], a', v, h => ⟨[], v, rfl, by simp [RepL], h⟩
 | c :: cs, a', v, h => by
   simp only [List.cons_append, RepL] at h
   obtain ⟨u, r, rfl, h2, h3⟩ := h
   obtain ⟨v1, v2, rfl, h4, h5⟩ := RepL.split h3
   exact ⟨u :: v1, v2, rfl, by simp only [RepL]; exact ⟨u, v1, rfl, h2, h4⟩, h5⟩
theorem RepL.get : ∀ {a : List AV} {v : List Value}, RepL w β O a v → ∀ (j : Nat) (c : AV), a[j]? = some c → ∃ u, v[j]? = some u ∧ Rep w β O c u
 | [], v, h, j, c, hj => by simp at hj
 | c' :: cs, v, h, j, c, hj => by
   simp only [RepL] at h
   obtain ⟨u, r, rfl, h2, h3⟩ := h
   cases j with
   | zero => simp at hj; subst hj; exact ⟨u, rfl, h2⟩
   | succ j => simp at hj; simpa using RepL.get h3 j c hj
theorem RepE.length : ∀ {sz : Nat} {a : List (List AV)} {v : List Value}, RepE w β O sz a v → v.length = a.length * sz
 | sz, [], v, h => by simp only [RepE] at h; simp [h]
 | sz, c :: cs, v, h => by
   simp only [RepE] at h
   obtain ⟨u, r, rfl, h1, h2, h3⟩ := h
   simp [RepE.length h3, ← h2.length, h1, Nat.succ_mul]
   omega
theorem RepE.append : ∀ {sz : Nat} {a a' : List (List AV)} {v v' : List Value}, RepE w β O sz a v → RepE w β O sz a' v' → RepE w β O sz (a ++ a') (v ++ v')
 | sz, [], a', v, v', h, h' => by simp only [RepE] at h; subst h; simpa using h'
 | sz, c :: cs, a', v, v', h, h' => by
   simp only [RepE] at h
   obtain ⟨u, r, rfl, h1, h2, h3⟩ := h
   simp only [List.cons_append, RepE]
   exact ⟨u, r ++ v', by simp, h1, h2, h3.append h'⟩
theorem RepE.split : ∀ {sz : Nat} {a a' : List (List AV)} {v : List Value}, RepE w β O sz (a ++ a') v → ∃ v1 v2, v = v1 ++ v2 ∧ RepE w β O sz a v1 ∧ RepE w β O sz a' v2
 | sz, [], a', v, h => ⟨[], v, rfl, by simp [RepE], h⟩
 | sz, c :: cs, a', v, h => by
   simp only [List.cons_append, RepE] at h
   obtain ⟨u, r, rfl, h1, h2, h3⟩ := h
   obtain ⟨v1, v2, rfl, h4, h5⟩ := RepE.split h3
   exact ⟨u ++ v1, v2, by simp, by simp only [RepE]; exact ⟨u, v1, rfl, h1, h2, h4⟩, h5⟩
theorem RepE.mem : ∀ {sz : Nat} {a : List (List AV)} {v : List Value}, RepE w β O sz a v → ∀ c ∈ a, c.length = sz
 | sz, [], v, h, c, hc => by simp at hc
 | sz, c' :: cs, v, h, c, hc => by
   simp only [RepE] at h
   obtain ⟨u, r, rfl, h1, h2, h3⟩ := h
   rcases List.mem_cons.1 hc with rfl | hc
   · exact h1
   · exact RepE.mem h3 c hc
/-- The k-th element, with what lies before and behind it. -/
theorem RepE.at {sz : Nat} {a : List (List AV)} {v : List Value} (h : RepE w β O sz a v) (k : Nat) (c : List AV) (hk : a[k]? = some c) :
   ∃ v1 u v2, v = v1 ++ u ++ v2 ∧ v1.length = k * sz ∧ RepL w β O c u ∧ RepE w β O sz (a.take k) v1 ∧ RepE w β O sz (a.drop (k + 1)) v2 := by
 have hlt : k < a.length := by
   rcases Nat.lt_or_ge k a.length with h | h
   · exact h
   · simp [List.getElem?_eq_none h] at hk
 have e : a = a.take k ++ (c :: a.drop (k + 1)) := by
   have h1 : a[k] = c := by simpa [List.getElem?_eq_getElem hlt] using hk
   rw [← h1, List.getElem_cons_drop]; simp
 rw [e] at h
 obtain ⟨v1, v2, rfl, h1, h2⟩ := RepE.split h
 simp only [RepE] at h2
 obtain ⟨u, r, rfl, h3, h4, h5⟩ := h2
 refine ⟨v1, u, r, by simp, ?_, h4, h1, h5⟩
 rw [h1.length, List.length_take, Nat.min_eq_left (by omega)]
end lists
structure TI where
 size : Nat
 bytes : Nat
 desc : TypeDesc
 zero : List Value
abbrev Tab := TypeId → Option TI
def aggD (d : TypeDesc) : Bool := match d with | .struct _ | .array _ _ => true | _ => false
def isStruct (d : TypeDesc) : Bool := match d with | .struct _ => true | _ => false
def TI.isAgg (ti : TI) : Bool := aggD ti.desc
def TabOk (P : Program) (T : Tab) : Prop := ∀ t ti, T t = some ti → ∃ i z, P.info? t = some i ∧ i.size = ti.size ∧ i.bytes = ti.bytes ∧ i.zero = some z ∧ z.cells.toList = ti.zero ∧ P.underlying t = some ti.desc ∧ ti.zero.length = ti.size ∧ (∀ fs, ti.desc = .struct fs → ∀ f ∈ fs.toList, ∃ j, P.info? f.type = some j)
def descOf (T : Tab) (t : TypeId) : Option TypeDesc := match T t with
 | some ti => some ti.desc
 | none => none
def bl (s : ByteArray) : List UInt8 := s.data.toList
def str (l : List UInt8) : AV := .val (.string ⟨l.toArray⟩)
@[simp] theorem bl_mk (l : List UInt8) : bl ⟨l.toArray⟩ = l := rfl
def evA (env : Env) : Operand → AV
 | .tmp t => env t
 | .const (.agg cs) => .agg (cs.toList.map .val)
 | .const v => .val v
 | .global _ => .any
 | .func f => .val (.func (.func f) #[] #[])
structure Out where
 v : AV
 hw : List (Nat × Option Ent) := []
 hr : List Nat := []
 ob : Prop := True
def out (v : AV) (ob : Prop := True) : Option Out := some { v, ob }
def bitsOf (op : BinOp) (k : IntKind) (a b : Int) : Int :=
 let x := BitVec.ofInt k.bits a
 let y := BitVec.ofInt k.bits b
 match op with
 | .and => k.wrap (x &&& y).toNat
 | .or => k.wrap (x ||| y).toNat
 | .xor => k.wrap (x ^^^ y).toNat
 | _ => k.wrap (x &&& ~~~y).toNat
def pint (op : BinOp) (k k' : IntKind) (a b : Int) : Value × Prop :=
 match op with
 | .shl => (.int k (k.wrap (a * 2 ^ (min b.toNat k.bits))), 0 ≤ b)
 | .shr => (.int k (a.fdiv (2 ^ (min b.toNat k.bits))), 0 ≤ b)
 | .add => (.int k (k.wrap (a + b)), k = k')
 | .sub => (.int k (k.wrap (a - b)), k = k')
 | .mul => (.int k (k.wrap (a * b)), k = k')
 | .quo => (.int k (k.wrap (a.tdiv b)), k = k' ∧ b ≠ 0)
 | .rem => (.int k (a.tmod b), k = k' ∧ b ≠ 0)
 | .and => (.int k (bitsOf .and k a b), k = k')
 | .or => (.int k (bitsOf .or k a b), k = k')
 | .xor => (.int k (bitsOf .xor k a b), k = k')
 | .andNot => (.int k (bitsOf .andNot k a b), k = k')
 | .eql => (.bool (a == b), k = k')
 | .neq => (.bool (a != b), k = k')
 | .lss => (.bool (decide (a < b)), k = k')
 | .leq => (.bool (decide (a ≤ b)), k = k')
 | .gtr => (.bool (decide (a > b)), k = k')
 | .geq => (.bool (decide (a ≥ b)), k = k')
def pstr (op : BinOp) (a b : List UInt8) : Option (Value × Prop) :=
 match op with
 | .add => some (.string ⟨(a ++ b).toArray⟩, ((a.length + b.length : Nat) : Int) < 2 ^ 63)
 | .eql => some (.bool (a == b), True)
 | .neq => some (.bool (!(a == b)), True)
 | .lss => some (.bool (Op.bytesLess a b), True)
 | .leq => some (.bool (Op.bytesLess a b || a == b), True)
 | .gtr => some (.bool (!(Op.bytesLess a b || a == b)), True)
 | .geq => some (.bool (!(Op.bytesLess a b)), True)
 | _ => none
def valsOf : List AV → Option (List Value)
 | [] => some []
 | .val v :: r => match valsOf r with
   | some l => some (v :: l)
   | none => none
 | _ :: _ => none
def eqV : List Value → List Value → Bool
 | [], [] => true
 | .int _ a :: r, .int _ b :: s => a == b && eqV r s
 | .string a :: r, .string b :: s => bl a == bl b && eqV r s
 | .bool a :: r, .bool b :: s => a == b && eqV r s
 | _, _ => false
/-- What the machine says of two structs. -/
def EqSays (P : Program) (t : TypeId) (us vs : List Value) (b : Bool) : Prop :=
 P.eqGuardType P.depth t = false ∧ ∀ w, (Op.equal t (.agg us.toArray) (.agg vs.toArray)).run P w = .ok b w
def aBin (P : Program) (T : Tab) (op : BinOp) (xt : TypeId) : AV → AV → Option Out
 | .val (.int k a), .val (.int k' b) => out (.val (pint op k k' a b).1) (pint op k k' a b).2
 | .val (.string a), .val (.string b) => match pstr op (bl a) (bl b) with
   | some (v, p) => out (.val v) p
   | none => none
 | .val (.bool a), .val (.bool b) => match descOf T xt with
   | some .bool => match op with
     | .eql => out (.val (.bool (a == b)))
     | .neq => out (.val (.bool (!(a == b))))
     | _ => none
   | _ => none
 | .agg xs, .agg ys => match valsOf xs, valsOf ys with
   | some us, some vs => match op with
     | .eql => out (.val (.bool (eqV us vs))) (EqSays P xt us vs (eqV us vs))
     | .neq => out (.val (.bool (!(eqV us vs)))) (EqSays P xt us vs (eqV us vs))
     | _ => none
   | _, _ => none
 | _, _ => none
def aUn (op : UnOp) : AV → Option Out
 | .val (.bool b) => match op with
   | .not => out (.val (.bool (!b)))
   | _ => none
 | .val (.int k n) => match op with
   | .neg => out (.val (.int k (k.wrap (0 - n))))
   | .xor => out (.val (.int k (bitsOf .xor k (if k.signed then -1 else k.max) n)))
   | _ => none
 | _ => none
def byteOf1 : List AV → UInt8
 | [.val (.int .u8 n)] => UInt8.ofNat n.toNat
 | _ => 0
def isByte : List AV → Bool
 | [.val (.int .u8 n)] => decide (0 ≤ n ∧ n < 256)
 | _ => false
def byteE (b : UInt8) : List AV := [.val (.int .u8 b.toNat)]
def bytesE (l : List UInt8) : List (List AV) := l.map byteE
def eBytes (es : List (List AV)) : List UInt8 := es.map byteOf1
def isU8 (T : Tab) (t : TypeId) : Bool := match T t with
 | some ti => match ti.desc with
   | .int .u8 => true
   | _ => false
 | none => false
def aConv (T : Tab) (hp : Hp) (nb : Nat) (src dst : TypeId) (x : AV) : Option Out :=
 match descOf T src, descOf T dst, x with
 | some (.int _), some (.int k), .val (.int _ n) => out (.val (.int k (k.wrap n)))
 | some .string, some .string, .val (.string s) => out (.val (.string s))
 | some .string, some (.slice e), .val (.string s) => match isU8 T e with
   | true => some { v := .osl nb s.size 1, hw := [(nb, some ⟨e, 1, bytesE (bl s)⟩)] }
   | false => none
 | some (.slice e), some (.slice _), .osl i n sz => match isU8 T e, src == dst, hp i with
   | true, true, some en => some { v := .osl i n sz, hw := [(i, some en)], hr := [i], ob := n = en.es.length ∧ 0 < n }
   | _, _, _ => none
 | some (.slice e), some .string, .sl _ es => match isU8 T e with
   | true => out (.val (.string ⟨(eBytes es).toArray⟩)) (∀ c ∈ es, isByte c = true)
   | false => none
 | some (.slice e), some .string, .osl i n _ => match isU8 T e, hp i with
   | true, some en => some { v := .val (.string ⟨(eBytes en.es).toArray⟩), hr := [i], ob := (∀ c ∈ en.es, isByte c = true) ∧ en.es.length = n ∧ en.sz = 1 }
   | _, _ => none
 | some (.slice e), some .string, .val (.slice none 0 0) => match isU8 T e with
   | true => out (.val (.string ⟨#[]⟩))
   | false => none
 | _, _, _ => none
def acells : AV → Option (List AV)
 | .any => none
 | .tup _ => none
 | .val (.agg _) => none
 | .val (.tuple _) => none
 | .agg cs => some cs
 | a => some [a]
def storable : AV → Bool
 | .any => false
 | .agg _ => false
 | .tup _ => false
 | .val (.agg _) => false
 | .val (.tuple _) => false
 | _ => true
def splice (cs : List AV) (off : Nat) (xs : List AV) : List AV := cs.take off ++ (xs ++ cs.drop (off + xs.length))
def fieldOf (T : Tab) (t : TypeId) (f : Nat) : Option (Nat × TI) :=
 match descOf T t with
 | some (.struct fs) => match fs[f]? with
   | some fd => match T fd.type with
     | some tf => some (fd.offset, tf)
     | none => none
   | none => none
 | _ => none
def elemOf (T : Tab) (t : TypeId) : Option (TypeId × TI) :=
 match descOf T t with
 | some (.slice e) => match T e with
   | some te => some (e, te)
   | none => none
 | _ => none
def arrOf (T : Tab) (t : TypeId) : Option (Nat × TI) :=
 match descOf T t with
 | some (.array len e) => match T e with
   | some te => some (len, te)
   | none => none
 | _ => none
def aPart (tf : TI) (cs : List AV) (ob : Prop) (hr : List Nat := []) : Option Out :=
 if tf.isAgg then some { v := .agg (cs.take tf.size), hr, ob := ob ∧ tf.size ≤ cs.length }
 else match cs with
   | c :: _ => some { v := c, hr, ob }
   | [] => none
def aLoad (T : Tab) (hp : Hp) (t : TypeId) (a : AV) : Option Out :=
 match T t, a with
 | some ti, .rp cs => aPart ti cs True
 | some ti, .ptr i sz k off => match hp i with
   | some e => match e.es[k]? with
     | some c => aPart ti (c.drop off) (e.sz = sz) [i]
     | none => none
   | none => none
 | _, _ => none
def aStore (T : Tab) (hp : Hp) (t : TypeId) (a x : AV) : Option Out :=
 match T t, a, acells x with
 | some ti, .ptr i sz k off, some xs => match hp i with
   | some e => match e.es[k]? with
     | some c => some { v := .any, hw := [(i, some { e with es := e.es.set k (splice c off xs) })], hr := [i], ob := e.sz = sz ∧ off + xs.length ≤ c.length ∧ xs.length = ti.size ∧ xs.all storable = true }
     | none => none
   | none => none
 | _, _, _ => none
def aFieldAddr (T : Tab) (t : TypeId) (x : AV) (f : Nat) : Option Out :=
 match fieldOf T t f, x with
 | some (o, tf), .ptr i sz k off => out (.ptr i sz k (off + o)) (tf.size ≠ 0)
 | some (o, tf), .rp cs => out (.rp (cs.drop o)) (tf.size ≠ 0)
 | _, _ => none
def aField (T : Tab) (t : TypeId) (x : AV) (f : Nat) : Option Out :=
 match fieldOf T t f, x with
 | some (o, tf), .agg cs => aPart tf (cs.drop o) True
 | _, _ => none
def aIndexAddr (T : Tab) (t : TypeId) (x i : AV) : Option Out :=
 match elemOf T t, x, i with
 | some (_, te), .sl sz es, .val (.int _ n) => match es[n.toNat]? with
   | some c => out (.rp c) (0 ≤ n ∧ sz = te.size)
   | none => none
 | some (_, te), .osl i m sz, .val (.int _ n) => out (.ptr i sz n.toNat 0) (0 ≤ n ∧ n < m ∧ sz = te.size)
 | some (_, te), .osv i lo m sz, .val (.int _ n) => out (.ptr i sz (lo + n.toNat) 0) (0 ≤ n ∧ n < m ∧ sz = te.size)
 | none, .ptr i sz k off, .val (.int _ n) => match arrOf T t with
   | some (len, te) => out (.ptr i sz k (off + n.toNat * te.size)) (0 ≤ n ∧ n < len)
   | none => none
 | _, _, _ => none
def aIndex (T : Tab) (t : TypeId) (x i : AV) : Option Out :=
 match descOf T t, x, i with
 | some .string, .val (.string s), .val (.int _ n) => match (bl s)[n.toNat]? with
   | some b => out (.val (.int .u8 b.toNat)) (0 ≤ n)
   | none => none
 | _, _, _ => none
def aBound (env : Env) (d : Nat) : Option Operand → Option (Nat × Prop)
 | none => some (d, True)
 | some x => match evA env x with
   | .val (.int _ n) => some (n.toNat, 0 ≤ n)
   | _ => none
def aSlice (T : Tab) (t : TypeId) (x : AV) (env : Env) (lo hi : Option Operand) : Option Out :=
 match descOf T t, x with
 | some .string, .val (.string s) => match aBound env 0 lo, aBound env (bl s).length hi with
   | some (l, p), some (h, q) => out (.val (.string ⟨(((bl s).take h).drop l).toArray⟩)) (p ∧ q ∧ l ≤ h ∧ h ≤ (bl s).length)
   | _, _ => none
 | some (.slice e), .sl sz es => match aBound env 0 lo, aBound env es.length hi, T e with
   | some (l, p), some (h, q), some te => out (.sl sz ((es.take h).drop l)) (p ∧ q ∧ l ≤ h ∧ h ≤ es.length ∧ te.size = sz)
   | _, _, _ => none
 | some (.slice e), .val (.slice none 0 0) => match aBound env 0 lo, aBound env 0 hi, T e with
   | some (l, p), some (h, q), some _ => out (.val (.slice none 0 0)) (p ∧ q ∧ l = 0 ∧ h = 0)
   | _, _, _ => none
 | some (.slice e), .osl i n sz => match aBound env 0 lo, aBound env n hi, T e with
   | some (l, p), some (h, q), some te => out (.osv i l (h - l) sz) (p ∧ q ∧ l ≤ h ∧ h ≤ n ∧ te.size = sz)
   | _, _, _ => none
 | _, _ => none
def srcOf (hp : Hp) (sz : Nat) : AV → Option (List (List AV) × List Nat × Prop)
 | .sl s es => some (es, [], s = sz)
 | .osl i n s => match hp i with
   | some e => some (e.es, [i], e.es.length = n ∧ s = sz ∧ e.sz = sz)
   | none => none
 | .osv i lo n s => match hp i with
   | some e => some ((e.es.drop lo).take n, [i], lo + n ≤ e.es.length ∧ s = sz ∧ e.sz = sz)
   | none => none
 | .val (.slice none 0 0) => some ([], [], True)
 | .val (.string s) => some (bytesE (bl s), [], sz = 1)
 | _ => none
def aAppend (T : Tab) (hp : Hp) (nb : Nat) (t : TypeId) (x y : AV) : Option Out :=
 match elemOf T t with
 | none => none
 | some (e, te) => match srcOf hp te.size y with
   | none => none
   | some (es, rs, p) => match x with
     | .val (.slice none 0 0) => some { v := .osl nb es.length te.size, hw := [(nb, some ⟨e, te.size, es⟩)], hr := rs, ob := p ∧ 0 < te.size ∧ 0 < te.bytes ∧ es.length * te.bytes ≤ 2 ^ 47 }
     | .osl i n sz => match hp i with
       | some en => some { v := .osl nb (n + es.length) te.size, hw := [(i, none), (nb, some ⟨e, te.size, en.es ++ es⟩)], hr := i :: rs, ob := p ∧ es.all (fun c => c.all storable) = true ∧ 0 < te.size ∧ 0 < te.bytes ∧ (n + es.length) * te.bytes ≤ 2 ^ 47 ∧ en.es.length = n ∧ sz = te.size ∧ en.sz = te.size ∧ en.ty = e }
       | none => none
     | .osv i 0 n sz => match hp i with
       | some en => some { v := .osl nb (n + es.length) te.size, hw := [(i, none), (nb, some ⟨e, te.size, en.es.take n ++ es⟩)], hr := i :: rs, ob := p ∧ es.all (fun c => c.all storable) = true ∧ 0 < te.size ∧ 0 < te.bytes ∧ (n + es.length) * te.bytes ≤ 2 ^ 47 ∧ n ≤ en.es.length ∧ sz = te.size ∧ en.sz = te.size ∧ en.ty = e }
       | none => none
     | _ => none
def aLen : AV → Option Out
 | .sl _ es => out (.val (.int .i64 es.length))
 | .osl _ n _ => out (.val (.int .i64 n))
 | .osv _ _ n _ => out (.val (.int .i64 n))
 | .val (.string s) => out (.val (.int .i64 (bl s).length))
 | .val (.slice none 0 0) => out (.val (.int .i64 0))
 | _ => none
def aMin2 : AV → AV → Option AV
 | .val (.int k x), .val (.int _ y) => some (.val (.int k (if y < x then y else x)))
 | _, _ => none
def aMax2 : AV → AV → Option AV
 | .val (.int k x), .val (.int _ y) => some (.val (.int k (if y > x then y else x)))
 | _, _ => none
mutual
def ren (ρ : Nat → Nat) : AV → AV
 | .any => .any
 | .val v => .val v
 | .agg cs => .agg (renL ρ cs)
 | .tup cs => .tup (renL ρ cs)
 | .sl sz es => .sl sz es
 | .rp cs => .rp cs
 | .osl i n sz => .osl (ρ i) n sz
 | .ptr i sz k off => .ptr (ρ i) sz k off
 | .osv i lo n sz => .osv (ρ i) lo n sz
def renL (ρ : Nat → Nat) : List AV → List AV
 | [] => []
 | c :: cs => ren ρ c :: renL ρ cs
end
def renEnt (ρ : Nat → Nat) (e : Ent) : Ent := { e with es := e.es.map (renL ρ) }
mutual
/-- All ids are below k. -/
def idLt (k : Nat) : AV → Bool
 | .any => true
 | .val _ => true
 | .agg cs => idLtL k cs
 | .tup cs => idLtL k cs
 | .sl _ _ => true
 | .rp _ => true
 | .osl i _ _ => decide (i < k)
 | .ptr i _ _ _ => decide (i < k)
 | .osv i _ _ _ => decide (i < k)
def idLtL (k : Nat) : List AV → Bool
 | [] => true
 | c :: cs => idLt k c && idLtL k cs
end
def idLtE (k : Nat) (es : List (List AV)) : Bool := es.all (idLtL k)
mutual
def noSl : AV → Bool
 | .any => true
 | .val _ => true
 | .agg cs => noSlL cs
 | .tup cs => noSlL cs
 | .sl _ _ => false
 | .rp _ => false
 | .osl _ _ _ => true
 | .ptr _ _ _ _ => true
 | .osv _ _ _ _ => true
def noSlL : List AV → Bool
 | [] => true
 | c :: cs => noSl c && noSlL cs
end
def noSlE (es : List (List AV)) : Bool := es.all noSlL
/-- Whether a type is no interface. -/
def concD (d : TypeDesc) : Bool := match d with | .interface _ => false | _ => true
def aMkIface (T : Tab) (t : TypeId) : AV → Option Out
 | .val v => match descOf T t with
   | some d => match concD d with
     | true => out (.val (.iface t v))
     | false => none
   | none => none
 | _ => none
def aAssert (T : Tab) (x : AV) (asserted : TypeId) : Option Out :=
 match x, T asserted with
 | .val (.iface t v), some ti => match concD ti.desc with
   | true => if t = asserted then out (.tup [.val v, .val (.bool true)]) else out (.tup [.any, .val (.bool false)])
   | false => none
 | _, _ => none
structure Orc where
 ids : List Nat := []
 hs : List Ent := []
 as : List AV
 r : AV
 hs' : List (Option Ent) := []
 bor : List Nat := []
 raw : Option Out := none
def Orc.ρ (o : Orc) (nb : Nat) (i : Nat) : Nat := if i < o.ids.length then o.ids.getD i 0 else nb + (i - o.ids.length)
def view1 (hp : Hp) (bor : List Nat) (c a : AV) : Prop :=
 c = a ∨ (∃ i n sz e, c = .osl i n sz ∧ i ∈ bor ∧ hp i = some e ∧ e.es.length = n ∧ e.sz = sz ∧ a = .sl sz e.es) ∨ (c = .val (.slice none 0 0) ∧ ∃ sz, a = .sl sz [])
def viewL (hp : Hp) (bor : List Nat) : List AV → List AV → Prop
 | [], [] => True
 | c :: cs, a :: as => view1 hp bor c a ∧ viewL hp bor cs as
 | _, _ => False
def viewA (hp : Hp) (bor : List Nat) (c a : AV) : Prop :=
 view1 hp bor c a ∨ ∃ cs as, c = .agg cs ∧ a = .agg as ∧ viewL hp bor cs as
def hpL (hs : List (Option Ent)) : Hp := fun i => (hs[i]?).join
def allParts (n : Nat) : List (Nat × Operand) → Bool
 | [] => true
 | (i, _) :: r => i == n && allParts (n + 1) r
def partCells (env : Env) : List (Nat × Operand) → Option (List (List AV))
 | [] => some []
 | (_, x) :: r => match acells (evA env x), partCells env r with
   | some c, some cs => some (c :: cs)
   | _, _ => none
def fillA (T : Tab) (t : TypeId) (env : Env) (cells : List AV) (ob : Prop) : List (Nat × Operand) → Option (List AV × Prop)
 | [] => some (cells, ob)
 | (f, x) :: r => match fieldOf T t f, acells (evA env x) with
   | some (o, tf), some xs => fillA T t env (splice cells o xs) (ob ∧ xs.length = tf.size ∧ o + xs.length ≤ cells.length) r
   | _, _ => none
def EntOk (w : World) (β : Gm) (O : Nat → Prop) (p : Option (Option Nat)) (e : Ent) : Prop :=
 (p = some none ∧ e.es = []) ∨ ∃ b c fr vs rest, p = some (some b) ∧ w.heap[b]? = some (.cells c e.ty fr) ∧ (∀ o, o < c.size → fr.1 = fr.2 ∨ o < fr.1) ∧ c.toList = vs ++ rest ∧ RepE w β O e.sz e.es vs
structure Good (X : Nat → Prop) (w : World) (β : Gm) (hp : Hp) : Prop where
 inj : ∀ i j e e' b, hp i = some e → hp j = some e' → β i = some (some b) → β j = some (some b) → i = j
 ent : ∀ i e, hp i = some e → EntOk w β (Own X β hp) (β i) e
 xdis : ∀ i e b, hp i = some e → β i = some (some b) → ¬ X b
 xlt : ∀ b, X b → b < w.heap.size
 laid : lwOk w ∧ ∀ b, lwB b → b < w.heap.size ∧ ¬ Own X β hp b
structure Frm (w0 : World) (O0 : Nat → Prop) (w : World) (O : Nat → Prop) : Prop where
 os : w.os = w0.os
 tape : w.tape = w0.tape
 output : w.output = w0.output
 size : w0.heap.size ≤ w.heap.size
 same : ∀ b, b < w0.heap.size → ¬ O0 b → w.heap[b]? = w0.heap[b]?
 own : ∀ b, O b → O0 b ∨ w0.heap.size ≤ b
 shape : ∀ b s, w0.shape? b = some s → w.shape? b = some s
theorem Frm.refl (w : World) (O : Nat → Prop) : Frm w O w O := ⟨rfl, rfl, rfl, Nat.le_refl _, fun _ _ _ => rfl, fun _ h => .inl h, fun _ _ h => h⟩
theorem Frm.trans {w0 w w' : World} {O0 O O' : Nat → Prop} (h : Frm w0 O0 w O) (k : Frm w O w' O') : Frm w0 O0 w' O' := by
 refine ⟨k.os.trans h.os, k.tape.trans h.tape, k.output.trans h.output, Nat.le_trans h.size k.size, ?_, ?_, fun b s hs => k.shape b s (h.shape b s hs)⟩
 · intro b hb ho
   have hn : ¬ O b := fun hO => (h.own b hO).elim ho (fun hl => by omega)
   rw [k.same b (Nat.lt_of_lt_of_le hb h.size) hn, h.same b hb ho]
 · intro b hb
   rcases k.own b hb with h1 | h1
   · exact h.own b h1
   · exact .inr (Nat.le_trans h.size h1)
theorem Frm.laid {w w' : World} {O O' : Nat → Prop} (hf : Frm w O w' O') (h : lwOk w ∧ ∀ b, lwB b → b < w.heap.size ∧ ¬ O b) : lwOk w' ∧ ∀ b, lwB b → b < w'.heap.size ∧ ¬ O' b :=
 ⟨lwKeep (fun b hb => hf.same b (h.2 b hb).1 (h.2 b hb).2) h.1, fun b hb => ⟨Nat.lt_of_lt_of_le (h.2 b hb).1 hf.size, fun ho => (hf.own b ho).elim (h.2 b hb).2 (fun hl => absurd (h.2 b hb).1 (by omega))⟩⟩
def GmExt (β β' : Gm) : Prop := ∀ i p, β i = some p → β' i = some p
theorem GmExt.refl (β : Gm) : GmExt β β := fun _ _ h => h
theorem GmExt.trans {a b c : Gm} (h : GmExt a b) (k : GmExt b c) : GmExt a c := fun i p hp => k i p (h i p hp)
theorem Frm.stab {w w' : World} {O O' : Nat → Prop} {β β' : Gm} (h : Frm w O w' O') (g : GmExt β β') : Stab w w' β β' O O' :=
 ⟨h.size, g, h.shape, fun b hb ho => ⟨h.same b hb ho, fun h' => (h.own b h').elim ho (fun hl => by omega)⟩⟩
/-- The contract of a call: exact. Ids 0, 1, .. are those of 'hs'; behind them the new ones of 'hs''. -/
def ACall (P : Program) (g : FuncId) (as : List AV) (hs : List (Option Ent)) (r : AV) (hs' : List (Option Ent)) : Prop :=
 (∃ fn, P.funcs[g]? = some fn ∧ fn.body.isNone = false ∧ (fn.name == "runtime.NumGoroutine") = false) ∧
 ∀ (X : Nat → Prop) (w : World) (β : Gm) (vs : List Value), RepL w β (Own X β (hpL hs)) as vs → Good X w β (hpL hs) → (∀ i, hs.length ≤ i → β i = none) →
   Calls P g vs.toArray w fun e w' => ∃ v β', e = .returned v ∧ Rep w' β' (Own X β' (hpL hs')) r v ∧ Good X w' β' (hpL hs') ∧
     Frm w (Own X β (hpL hs)) w' (Own X β' (hpL hs')) ∧ (∀ b, X b → w'.heap[b]? = w.heap[b]?) ∧ GmExt β β' ∧ (∀ i, hs'.length ≤ i → β' i = none)
def aCall (P : Program) (g : FuncId) (args : List AV) (hp : Hp) (nb : Nat) (o : Orc) : Out :=
 { v := ren (o.ρ nb) o.r,
   hw := (List.range o.hs'.length).map fun i => (o.ρ nb i, ((o.hs'[i]?).join).map (renEnt (o.ρ nb))),
   hr := o.ids ++ o.bor,
   ob := ACall P g o.as (o.hs.map some) o.r o.hs' ∧ o.ids.Nodup ∧ o.ids.length = o.hs.length ∧ (∀ i, i < o.ids.length → hp (o.ids.getD i 0) = (o.hs[i]?).map (renEnt (o.ρ nb))) ∧
     o.hs.length ≤ o.hs'.length ∧ o.hs'.length ≤ o.hs.length + 8 ∧ args.length = o.as.length ∧ (∀ (j : Nat) (c a : AV), args[j]? = some c → o.as[j]? = some a → viewA hp o.bor c (ren (o.ρ nb) a)) ∧
     (o.bor ≠ [] → noSl o.r = true ∧ (∀ e, some e ∈ o.hs' → noSlE e.es = true)) ∧ (∀ i ∈ o.bor, i ∉ o.ids ∧ ∀ e, hp i = some e → idLtE 0 e.es = true) ∧
     idLtL o.ids.length o.as = true ∧ (∀ e ∈ o.hs, idLtE o.ids.length e.es = true) }
def setHp (hp : Hp) : List (Nat × Option Ent) → Hp
 | [] => hp
 | (i, e) :: r => setHp (fun j => if j = i then e else hp j) r
structure Post (X : Nat → Prop) (w : World) (β : Gm) (hp : Hp) (nb : Nat) (r : Out) (v : Value) (w' : World) (β' : Gm) : Prop where
 rep : Rep w' β' (Own X β' (setHp hp r.hw)) r.v v
 good : Good X w' β' (setHp hp r.hw)
 frm : Frm w (Own X β hp) w' (Own X β' (setHp hp r.hw))
 ext : GmExt β β'
 keepX : ∀ b, X b → w'.heap[b]? = w.heap[b]?
 new : ∀ i, β' i ≠ none → β i ≠ none ∨ (nb ≤ i ∧ i < nb + 8)
/-- What an operation does, said by hand. -/
def RawOk (P : Program) (nb : Nat) (env : Env) (hp : Hp) (op : Op) (r : Out) : Prop :=
 ∀ (env' : Env) (hp' : Hp), (∀ x ∈ op.operands, evA env x = evA env' x) → (∀ i ∈ r.hr, hp i = hp' i) →
   ∀ (X : Nat → Prop) (w : World) (β : Gm) (a : Act) (o : Oper), o.op = op → Good X w β hp' → (∀ j, nb ≤ j → j < nb + 8 → β j = none) → (∀ t, Rep w β (Own X β hp') (env' t) (a.tmps.getD t undef)) →
     ∃ v w' β', (execOp a.eval o).run P w = .ok (.value v) w' ∧ Post X w β hp' nb r v w' β'
def aexec0 (P : Program) (T : Tab) (orc : Option Orc) (nb : Nat) (env : Env) (hp : Hp) (op : Op) : Option Out :=
 match op with
 | .move x => out (evA env x)
 | .assign x => out (evA env x)
 | .pick c a b => match evA env c with
   | .val (.bool t) => out (if t then evA env a else evA env b)
   | _ => none
 | .binOp op xt x y _ => aBin P T op xt (evA env x) (evA env y)
 | .unOp op _ x => aUn op (evA env x)
 | .convert s d x => aConv T hp nb s d (evA env x)
 | .extract x i => match evA env x with
   | .tup cs => match cs[i]? with
     | some c => out c
     | none => none
   | _ => none
 | .field t x f => aField T t (evA env x) f
 | .fieldAddr t x f => aFieldAddr T t (evA env x) f
 | .indexAddr t x i => aIndexAddr T t (evA env x) (evA env i)
 | .index t x i => aIndex T t (evA env x) (evA env i)
 | .load t a => aLoad T hp t (evA env a)
 | .store t a x => aStore T hp t (evA env a) (evA env x)
 | .slice t x lo hi none => aSlice T t (evA env x) env lo hi
 | .box el x => match acells (evA env x) with
   | some cs => some { v := .ptr nb cs.length 0 0, hw := [(nb, some ⟨el, cs.length, [cs]⟩)] }
   | none => none
 | .alloc el => match T el with
   | some ti => some { v := .ptr nb ti.zero.length 0 0, hw := [(nb, some ⟨el, ti.zero.length, [ti.zero.map .val]⟩)] }
   | none => none
 | .build t parts => match T t with
   | some ti => match fillA T t env (ti.zero.map .val) True parts.toList with
     | some (cs, p) => out (.agg cs) (p ∧ isStruct ti.desc = true)
     | none => none
   | none => none
 | .buildSlice t len parts => match elemOf T t, partCells env parts.toList with
   | some (e, te), some es => some { v := .osl nb len te.size, hw := [(nb, some ⟨e, te.size, es⟩)], ob := allParts 0 parts.toList = true ∧ es.length = len ∧ (∀ c ∈ es, c.length = te.size) ∧ len * te.size ≤ 2 ^ 24 }
   | _, _ => none
 | .makeSlice t l c => match elemOf T t, evA env l, evA env c with
   | some (e, te), .val (.int .i64 n), .val (.int .i64 m) => some { v := .osl nb n.toNat te.size, hw := [(nb, some ⟨e, te.size, List.replicate n.toNat (te.zero.map .val)⟩)], ob := n = m ∧ 0 ≤ n ∧ te.bytes * n ≤ 2 ^ 47 ∧ n < 2 ^ 63 ∧ 0 < te.size }
   | _, _, _ => none
 | .makeInterface t x => aMkIface T t (evA env x)
 | .typeAssert x _ t true => aAssert T (evA env x) t
 | .nilCheck x => match evA env x with
   | .ptr i sz k off => out (.ptr i sz k off)
   | .rp cs => out (.rp cs)
   | _ => none
 | .call c => match c.callee with
   | .builtin .len => match c.args.toList, c.argTypes.toList with
     | [x], [t] => match descOf T t, aLen (evA env x) with
       | some (.slice _), some r => match evA env x with
         | .val (.string _) => none
         | _ => some r
       | some .string, some r => match evA env x with
         | .val (.string _) => some r
         | _ => none
       | _, _ => none
     | _, _ => none
   | .builtin .min => match c.args.toList with
     | [x, y] => match aMin2 (evA env x) (evA env y) with
       | some a => out a
       | none => none
     | _ => none
   | .builtin .max => match c.args.toList with
     | [x, y] => match aMax2 (evA env x) (evA env y) with
       | some a => out a
       | none => none
     | _ => none
   | .builtin .append => match c.args.toList, c.argTypes.toList with
     | [x, y], [t, u] => match descOf T u with
       | some (.slice _) => aAppend T hp nb t (evA env x) (evA env y)
       | some .string => aAppend T hp nb t (evA env x) (evA env y)
       | _ => none
     | _, _ => none
   | .value f => match evA env f with
     | .val (.func (.func g) fr bd) => match fr.toList, bd.toList with
       | [], [] => match orc with
         | some o => some (aCall P g (c.args.toList.map (evA env)) hp nb o)
         | none => none
       | _, _ => none
     | _ => none
   | _ => none
 | _ => none
def rawOf : Option Orc → Option Out
 | some o => o.raw
 | none => none
def aexec (P : Program) (T : Tab) (orc : Option Orc) (nb : Nat) (env : Env) (hp : Hp) (op : Op) : Option Out :=
 match rawOf orc with
 | some r => some { r with ob := r.ob ∧ RawOk P nb env hp op r }
 | none => aexec0 P T orc nb env hp op
section run
variable {P : Program} {w : World}
theorem run_bind {α β : Type} (m : Sem α) (f : α → Sem β) : ∀ w, (m >>= f).run P w = match m.run P w with
   | .ok a w' => (f a).run P w'
   | .halt h w' => .halt h w' := by
 show ∀ w, (Sem.bind m f).run P w = _
 induction m with
 | pure a => intro w; rfl
 | load md a k ih =>
   intro w
   simp only [Sem.bind, Sem.run]
   cases w.cell? a with
   | some v => exact ih v w
   | none =>
     simp only []
     cases w.farLoad P a (md == .atomic) with
     | ok r => exact ih r.1 w
     | error h => rfl
 | store md a v k ih =>
   intro w
   cases v <;> simp only [Sem.bind, Sem.run]
   all_goals
     cases w.cell? a with
     | some u =>
       simp only []
       split
       · rfl
       · exact ih _
     | none =>
       simp only []
       cases w.farStore P a _ (md == .atomic) with
       | ok r => exact ih _
       | error h => rfl
 | new o k ih => intro w; simp only [Sem.bind, Sem.run]; exact ih _ _
 | shape r k ih => intro w; simp only [Sem.bind, Sem.run]; exact ih _ _
 | freeze a n k ih => intro w; simp only [Sem.bind, Sem.run]; exact ih _
 | frozen a k ih => intro w; simp only [Sem.bind, Sem.run]; exact ih _ _
 | getObj r k ih =>
   intro w
   simp only [Sem.bind, Sem.run]
   cases w.heap[r]? with
   | none => rfl
   | some o => cases o <;> first | rfl | exact ih _ _
 | setObj r o k ih =>
   intro w
   simp only [Sem.bind, Sem.run]
   cases w.heap[r]? with
   | none => rfl
   | some o => cases o <;> first | rfl | exact ih _
 | choose q k ih =>
   intro w
   simp only [Sem.bind, Sem.run]
   split
   · exact ih _ _
   · exact ih _ _
 | sys c k ih => intro w; simp only [Sem.bind, Sem.run]; exact ih _ _
 | program k ih => intro w; simp only [Sem.bind, Sem.run]; exact ih _ _
 | mark m k ih => intro w; simp only [Sem.bind, Sem.run]; exact ih _
 | halt h => intro w; rfl
theorem run_pure {α : Type} (a : α) : (pure a : Sem α).run P w = .ok a w := rfl
theorem run_program : (program).run P w = .ok P w := rfl
theorem run_underlying {t : TypeId} {d : TypeDesc} (h : P.underlying t = some d) : (underlying t).run P w = .ok d w := by
 simp [underlying, run_bind, run_program, h, run_pure]
theorem run_info {t : TypeId} {i : TypeInfo} (h : P.info? t = some i) : (typeInfo t).run P w = .ok i w := by
 simp [typeInfo, run_bind, run_program, h, run_pure]
theorem run_size {t : TypeId} {i : TypeInfo} (h : P.info? t = some i) : (sizeOf t).run P w = .ok i.size w := by
 simp [Go.sizeOf, run_bind, run_info h, run_pure]
theorem run_zero {t : TypeId} {i : TypeInfo} {z : Value} (h : P.info? t = some i) (hz : i.zero = some z) : (zeroValue t).run P w = .ok z w := by
 simp [zeroValue, run_bind, run_info h, hz, run_pure]
theorem run_isAgg {t : TypeId} {d : TypeDesc} (h : P.underlying t = some d) : (isAgg t).run P w = .ok (aggD d) w := by
 simp only [isAgg, run_bind, run_underlying h]
 cases d <;> rfl
end run
end Go.Av
