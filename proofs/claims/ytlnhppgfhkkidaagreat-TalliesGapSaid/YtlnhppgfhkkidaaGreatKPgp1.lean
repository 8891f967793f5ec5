/- Parts of the proof, in this order: Words for slices in memory, over any program: what a slice reads as, and append, reslicing, conversion to a string in these words; A note: its numbers, its cells; The functions on bytes below Notch and Join: two, check, Grow, Equal, Clone and Concat of byte slices; Structs of many cells, whole: a load, and a store into the block that was made last; The cells of a note as one array; loads and stores of whole structs; The program's small tests of notes: in, rightName, nameOf, valid, cell, spans, strokes; The program's test of strokes, equality of int slices, equality of notes; Equality of arrays of ints, as one step; The program's equality of notes; The program's contents of notes. -/
import Derived.WalkKit
import Derived.WalkSpells
import Derived.WalkLawsBesides
import Derived.Laws.AppendOwnNone
import Derived.Lib.Hide
import Derived.Test.YtlnhppgfhkkidaaGreatProg
import Derived.Lib.AppendZerosOnto
import Derived.Lib.Walk
import Derived.Deep.QuietTactic
import Derived.BigQuiet
import Derived.Deep.MidRow
import Derived.Deep.WholeRow
import Derived.Handy
import Derived.ChangeKeysEq
import Derived.Deep.RegionHeld3
import Derived.Deep.Cut
set_option linter.unusedSimpArgs false
set_option linter.unusedVariables false
open List renaming getElem_toArray → lq0, getElem_cons_succ → lq1, getElem_cons_zero → lq2, setIfInBounds_toArray → lq3, set_cons_zero → lq4, set_cons_succ → lq5
namespace Go.Proofs.YtlnhppgfhkkidaaGreat
open Go.RowKit

def RdA (w : World) (k : Nat) (a : Option Addr) (n c : Nat) (xs : List Value) : Prop :=
  xs.length = n * k ∧ n ≤ c ∧ c ≤ maxLen ∧ (c = 0 ∨ ∃ b off, a = some ⟨b, off, none⟩ ∧ ∀ i x, xs[i]? = some x → w.cell? ⟨b, off + i, none⟩ = some x)

theorem RdA.len {w : World} {k : Nat} {a : Option Addr} {n c : Nat} {xs : List Value} (h : RdA w k a n c xs) : xs.length = n * k := h.1
theorem RdA.le {w : World} {k : Nat} {a : Option Addr} {n c : Nat} {xs : List Value} (h : RdA w k a n c xs) : n ≤ c := h.2.1
theorem RdA.max {w : World} {k : Nat} {a : Option Addr} {n c : Nat} {xs : List Value} (h : RdA w k a n c xs) : c ≤ maxLen := h.2.2.1
theorem RdA.maxn {w : World} {k : Nat} {a : Option Addr} {n c : Nat} {xs : List Value} (h : RdA w k a n c xs) : n ≤ 9223372036854775807 := by
  have h1 := h.2.1; have h2 := h.2.2.1; unfold maxLen at h2; omega
theorem RdA.nil (w : World) (k : Nat) : RdA w k none 0 0 [] := ⟨by simp, Nat.le_refl _, Nat.zero_le _, .inl rfl⟩

theorem RdA.at {w : World} {k : Nat} {a : Option Addr} {n c : Nat} {xs : List Value} (h : RdA w k a n c xs) (hn : 0 < n) :
    ∃ b off, a = some ⟨b, off, none⟩ ∧ ∀ i x, xs[i]? = some x → w.cell? ⟨b, off + i, none⟩ = some x := by
  rcases h.2.2.2 with hc | h4
  · have := h.2.1; omega
  · exact h4

theorem RdA.below {w w' : World} {k : Nat} {a : Option Addr} {n c : Nat} {xs : List Value} (h : RdA w k a n c xs) (hb : Below w.heap.size w w') : RdA w' k a n c xs := by
  refine ⟨h.1, h.2.1, h.2.2.1, ?_⟩
  rcases h.2.2.2 with h4 | ⟨b, off, rfl, h4⟩
  · exact .inl h4
  · refine .inr ⟨b, off, rfl, fun i x hx => ?_⟩
    have h5 := h4 i x hx
    exact (hb.cell (p := ⟨b, off + i, none⟩) (World.block_lt_of_cell? w _ h5)).trans h5

theorem RdA.of_cells {w w' : World} {k : Nat} {a : Option Addr} {n c : Nat} {xs : List Value} (h : RdA w k a n c xs)
    (hb : ∀ b, (∃ off, a = some ⟨b, off, none⟩) → b < w.heap.size → w'.heap[b]? = w.heap[b]?) : RdA w' k a n c xs := by
  refine ⟨h.1, h.2.1, h.2.2.1, ?_⟩
  rcases h.2.2.2 with h4 | ⟨b, off, rfl, h4⟩
  · exact .inl h4
  · refine .inr ⟨b, off, rfl, fun i x hx => ?_⟩
    have h5 := h4 i x hx
    exact (World.cell?_of_block (a := ⟨b, off + i, none⟩) (hb b ⟨off, rfl⟩ (World.block_lt_of_cell? w _ h5))).trans h5

theorem RdA.of_own {w : World} {base : Nat} {e : TypeId} {k : Nat} {a : Option Addr} {n c : Nat} {xs : List Value} (h : w.ownsRow base e k (.slice a n c) n xs) : RdA w k a n c xs := by
  obtain ⟨h1, h2⟩ := h
  rcases h2 with ⟨h2, rfl⟩ | ⟨g, cap, cur, hv, _, hg, hn, hc, hs, ht⟩
  · simp only [Value.slice.injEq] at h2
    obtain ⟨rfl, _, rfl⟩ := h2
    exact ⟨h1, Nat.le_refl _, Nat.zero_le _, .inl rfl⟩
  · simp only [Value.slice.injEq] at hv
    obtain ⟨rfl, _, rfl⟩ := hv
    refine ⟨h1, hn, hc, .inr ⟨g, 0, rfl, fun i x hx => ?_⟩⟩
    rw [cell_of_row w g (0 + i) cur e (0, 0) hg]
    rw [← ht, List.getElem?_take] at hx
    split at hx
    · simpa using hx
    · cases hx

theorem RdA.sliced {w : World} {k : Nat} {a : Option Addr} {n c : Nat} {xs : List Value} (h : RdA w k a n c xs) (lo hi : Nat) (h1 : lo ≤ hi) (h2 : hi ≤ n) :
    ∃ a', Go.sliced a lo hi c k = .slice a' (hi - lo) (c - lo) ∧ RdA w k a' (hi - lo) (c - lo) ((xs.drop (lo * k)).take ((hi - lo) * k)) := by
  have hl := h.1
  have hmul : lo * k + (hi - lo) * k ≤ n * k := by rw [← Nat.add_mul]; exact Nat.mul_le_mul_right _ (by omega)
  have hlen : ((xs.drop (lo * k)).take ((hi - lo) * k)).length = (hi - lo) * k := by
    simp only [List.length_take, List.length_drop, hl]; omega
  refine ⟨_, rfl, hlen, by have := h.2.1; omega, by have := h.2.2.1; omega, ?_⟩
  rcases h.2.2.2 with rfl | ⟨b, off, rfl, h4⟩
  · exact .inl (by omega)
  · by_cases hc : c = lo
    · refine .inr ⟨b, off, by rw [if_pos hc], fun i x hx => ?_⟩
      have : hi - lo = 0 := by have := h.2.1; omega
      rw [this] at hx
      simp at hx
    · refine .inr ⟨b, off + lo * k, by rw [if_neg hc]; simp only [Option.map_some, Addr.add]; split <;> simp_all, fun i x hx => ?_⟩
      rw [Nat.add_assoc]
      apply h4
      rw [List.getElem?_take] at hx
      split at hx
      · simpa [List.getElem?_drop] using hx
      · cases hx

section
variable {P : Program} (w : World)

theorem run_append_rd (base : Nat) (t ty e : TypeId) (i : TypeInfo) (z : Value) (size bytes : Nat) (ht : P.underlying t = some (.slice e)) (hi : P.info? e = some i) (hz : i.zero = some z)
    (hsize : i.size = size) (hby : i.bytes = bytes) (hzs : z.cells.size = size) (hsz : 0 < size)
    (sa : Option Addr) (sn sc : Nat) (xs : List Value) (hown : w.ownsRow base e size (.slice sa sn sc) sn xs)
    (xa : Option Addr) (m xc : Nat) (ys : List Value) (hrd : RdA w size xa m xc ys) (h1 : ∀ u ∈ ys, u.oneCell' = true)
    (h63 : sn + m ≤ maxLen) (hbytes : (sn + m) * bytes ≤ 140737488355328) (hbase : base ≤ w.heap.size) :
    ∃ a' c' w', (Builtin.append_ #[t, t] ty #[.slice sa sn sc, .slice xa m xc]).run P w = .ok (.slice a' (sn + m) c') w' ∧ w'.ownsRow base e size (.slice a' (sn + m) c') (sn + m) (xs ++ ys) ∧ w.grownBy w' (Value.ownBlock (.slice sa sn sc)) := by
  have hshape : ∀ (w' : World) (v : Value) (n : Nat) (zs : List Value), w'.ownsRow base e size v n zs → ∃ a c, v = .slice a n c := by
    intro w' v n zs h
    rcases h.2 with ⟨rfl, rfl⟩ | ⟨g, cap, cur, rfl, _⟩
    · exact ⟨_, _, rfl⟩
    · exact ⟨_, _, rfl⟩
  rcases hrd.2.2.2 with rfl | ⟨b, off, rfl, h4⟩
  · have hm : m = 0 := by have := hrd.2.1; omega
    subst hm
    have hy : ys = [] := List.eq_nil_of_length_eq_zero (by simpa using hrd.1)
    subst hy
    cases xa with
    | none =>
      refine ⟨sa, sc, w, ?_, by simpa using hown, World.grownBy.refl _ _⟩
      simpa using run_append_owned_none (P := P) (w := w) base t ty e i size ht hi _ sn xs hown
    | some ad =>
      obtain ⟨v', w', hr, ho, hg, _⟩ := run_append_own (P := P) w base t ty e i z size bytes ht hi hz hsize hby hzs hsz _ sn xs hown ad 0 0 [] (by simp)
        (fun j u hu => by simp at hu) h1 h63 hbytes hbase
      obtain ⟨a', c', rfl⟩ := hshape _ _ _ _ ho
      exact ⟨a', c', w', hr, ho, hg⟩
  · obtain ⟨v', w', hr, ho, hg, _⟩ := run_append_own (P := P) w base t ty e i z size bytes ht hi hz hsize hby hzs hsz _ sn xs hown ⟨b, off, none⟩ m xc ys hrd.1
      (fun j u hu => by rw [Addr.add_lit]; exact h4 j u hu) h1 h63 hbytes hbase
    obtain ⟨a', c', rfl⟩ := hshape _ _ _ _ ho
    exact ⟨a', c', w', hr, ho, hg⟩

theorem wpList_append_rd {ops : Array Oper} {rest : List Oper} {o : Oper} {a : Act} {Q : Exit → Act → World → Prop} (hgd : o.guard = none) (s x : Operand) (t : TypeId)
    (ho : o.op = .call { callee := .builtin .append, args := #[s, x], argTypes := #[t, t] })
    (base : Nat) (e : TypeId) (i : TypeInfo) (z : Value) (size bytes : Nat) (ht : P.underlying t = some (.slice e)) (hi : P.info? e = some i) (hz : i.zero = some z)
    (hsize : i.size = size) (hby : i.bytes = bytes) (hzs : z.cells.size = size) (hsz : 0 < size)
    (sa : Option Addr) (sn sc : Nat) (xs : List Value) (hs : a.eval s = .slice sa sn sc) (hown : w.ownsRow base e size (.slice sa sn sc) sn xs)
    (xa : Option Addr) (m xc : Nat) (ys : List Value) (hx : a.eval x = .slice xa m xc) (hrd : RdA w size xa m xc ys) (h1 : ∀ u ∈ ys, u.oneCell' = true)
    (h63 : sn + m ≤ maxLen) (hbytes : (sn + m) * bytes ≤ 140737488355328) (hbase : base ≤ w.heap.size)
    (h : ∀ a' c' w', w'.ownsRow base e size (.slice a' (sn + m) c') (sn + m) (xs ++ ys) → w.grownBy w' (Value.ownBlock (.slice sa sn sc)) → wpList P ops Q rest (a.put o.dst (.slice a' (sn + m) c')) w') : wpList P ops Q (o :: rest) a w := by
  refine wpList_plain hgd fun K hK => ?_
  obtain ⟨a', c', w', hr, h2, h3⟩ := run_append_rd (P := P) w base t o.type e i z size bytes ht hi hz hsize hby hzs hsz sa sn sc xs hown xa m xc ys hrd h1 h63 hbytes hbase
  unfold Oper.wp
  simp [execOp, ho, resolve, invoke, builtin, hs, hx, hr, Result.andThen]
  exact hK _ _ (h a' c' w' h2 h3)

end

def byteV (b : UInt8) : Value := .int .u8 b.toNat
theorem byteV_one (l : List UInt8) : ∀ u ∈ l.map byteV, u.oneCell' = true := by
  intro u hu
  obtain ⟨_, _, rfl⟩ := List.mem_map.1 hu
  rfl

def RdB (w : World) (a : Option Addr) (n c : Nat) (l : List UInt8) : Prop := RdA w 1 a n c (l.map byteV)
theorem RdB.len {w : World} {a : Option Addr} {n c : Nat} {l : List UInt8} (h : RdB w a n c l) : l.length = n := by simpa using h.1
theorem RdB.below {w w' : World} {a : Option Addr} {n c : Nat} {l : List UInt8} (h : RdB w a n c l) (hb : Below w.heap.size w w') : RdB w' a n c l := RdA.below h hb
theorem RdB.at {w : World} {a : Option Addr} {n c : Nat} {l : List UInt8} (h : RdB w a n c l) (hn : 0 < n) :
    ∃ b off, a = some ⟨b, off, none⟩ ∧ ∀ i, i < n → w.cell? ⟨b, off + i, none⟩ = some (.int .u8 ((l[i]?.getD 0).toNat : Int)) := by
  obtain ⟨b, off, rfl, h4⟩ := RdA.at h hn
  refine ⟨b, off, rfl, fun i hi => h4 i _ ?_⟩
  have := h.len
  simp [byteV, List.getElem?_map, List.getElem?_eq_getElem (show i < l.length by omega)]

theorem loadCells_rd {P : Program} {w : World} {k : Nat} {b off n c : Nat} {xs : List Value} (h : RdA w k (some ⟨b, off, none⟩) n c xs) (m : Nat) (hm : m = xs.length) : (loadCells ⟨b, off, none⟩ m).run P w = .ok xs.toArray w := by
  have h4 : ∀ i x, xs[i]? = some x → w.cell? ⟨b, off + i, none⟩ = some x := by
    rcases h.2.2.2 with h5 | ⟨b', off', h5, h4⟩
    · have hn : n = 0 := by have := h.2.1; omega
      have hx : xs = [] := List.eq_nil_of_length_eq_zero (by rw [h.1, hn]; simp)
      subst hx
      intro i x hx
      simp at hx
    · cases h5
      exact h4
  subst hm
  have := run_firstCells_some (P := P) (w := w) 1 xs.length ⟨b, off, none⟩ 0 0 xs (by simp) (fun j v hv => by rw [Addr.add_lit]; exact h4 j v hv)
  simpa [Builtin.firstCells] using this

theorem foldl_push_bytes (l : List UInt8) : ∀ (s : ByteArray), (l.map fun b => ((b.toNat : Nat) : Int)).foldl (fun r n => r.push (UInt8.ofNat n.toNat)) s = ⟨s.data ++ l.toArray⟩ := by
  induction l with
  | nil => intro s; simp
  | cons b l ih =>
    intro s
    rw [List.map_cons, List.foldl_cons, ih]
    simp [ByteArray.push]

theorem run_convert_str {P : Program} {w : World} (src dst e : TypeId) (hs : P.underlying src = some (.slice e)) (he : P.underlying e = some (.int .u8)) (hd : P.underlying dst = some .string)
    {a : Option Addr} {n c : Nat} {l : List UInt8} (h : RdB w a n c l) : (convert src dst (.slice a n c)).run P w = .ok (.string ⟨l.toArray⟩) w := by
  rw [run_convert_bytes_string w src dst e a n c hs he hd]
  rcases h.2.2.2 with rfl | ⟨b, off, rfl, h4⟩
  · have hn : n = 0 := by have := h.2.1; omega
    have hl : l = [] := List.eq_nil_of_length_eq_zero (by rw [h.len, hn])
    subst hl
    subst hn
    cases a with
    | none =>
      simp [Conv.bytesToString]
      rfl
    | some ad =>
      rw [run_bytesToString w ad 0 0 [] (by simp [loadCells, loadCellsFrom])]
      rfl
  · have hld := loadCells_rd (P := P) h n (by simp [h.len])
    have hmap : l.map byteV = (l.map fun b => ((b.toNat : Nat) : Int)).map (Value.int .u8) := by simp [byteV]
    rw [hmap] at hld
    rw [run_bytesToString w ⟨b, off, none⟩ n c _ hld, foldl_push_bytes]
    simp
end Go.Proofs.YtlnhppgfhkkidaaGreat
namespace Go.Proofs.YtlnhppgfhkkidaaGreat
open Go.RowKit

def intV (z : Int) : Value := .int .i64 z
theorem intV_one (l : List Int) : ∀ u ∈ l.map intV, u.oneCell' = true := by
  intro u hu
  obtain ⟨_, _, rfl⟩ := List.mem_map.1 hu
  rfl
def I64 (z : Int) : Prop := -9223372036854775808 ≤ z ∧ z ≤ 9223372036854775807
def RdI (w : World) (a : Option Addr) (n c : Nat) (l : List Int) : Prop := RdA w 1 a n c (l.map intV)
theorem RdI.len {w : World} {a : Option Addr} {n c : Nat} {l : List Int} (h : RdI w a n c l) : l.length = n := by simpa using h.1
theorem RdI.below {w w' : World} {a : Option Addr} {n c : Nat} {l : List Int} (h : RdI w a n c l) (hb : Below w.heap.size w w') : RdI w' a n c l := RdA.below h hb
theorem RdI.maxn {w : World} {a : Option Addr} {n c : Nat} {l : List Int} (h : RdI w a n c l) : n ≤ 9223372036854775807 := RdA.maxn h
theorem RdI.at {w : World} {a : Option Addr} {n c : Nat} {l : List Int} (h : RdI w a n c l) (hn : 0 < n) :
    ∃ b off, a = some ⟨b, off, none⟩ ∧ ∀ i, i < n → w.cell? ⟨b, off + i, none⟩ = some (.int .i64 (l[i]?.getD 0)) := by
  obtain ⟨b, off, rfl, h4⟩ := RdA.at h hn
  refine ⟨b, off, rfl, fun i hi => h4 i _ ?_⟩
  have := h.len
  simp [intV, List.getElem?_map, List.getElem?_eq_getElem (show i < l.length by omega)]

structure NoteV where
  house : Int
  num : Int
  clock : Int
  day : Int
  kind : Int
  stone : Int
  heap : Int
  turns : Int
  hardLo : Int
  hardHi : Int
  diffLo : Int
  diffHi : Int
  a : Int
  b : Int
  ring : Int
  refH : Int
  refN : Int
  fix : Int
  strokes : List Int
deriving Inhabited

def NoteV.cells (n : NoteV) (sa : Option Addr) (sc : Nat) : List Value :=
  [.int .i64 n.house, .int .i64 n.num, .int .i64 n.clock, .int .i64 n.day, .int .i64 n.kind, .int .i64 n.stone, .int .i64 n.heap, .int .i64 n.turns, .int .i64 n.hardLo, .int .i64 n.hardHi, .int .i64 n.diffLo, .int .i64 n.diffHi, .int .i64 n.a, .int .i64 n.b, .int .i64 n.ring, .slice sa n.strokes.length sc, .int .i64 n.refH, .int .i64 n.refN, .int .i64 n.fix]
theorem NoteV.cells_one (n : NoteV) (sa : Option Addr) (sc : Nat) : ∀ v ∈ n.cells sa sc, v.oneCell' = true := by
  intro v hv
  simp only [NoteV.cells, List.mem_cons, List.not_mem_nil, or_false] at hv
  rcases hv with rfl | rfl | rfl | rfl | rfl | rfl | rfl | rfl | rfl | rfl | rfl | rfl | rfl | rfl | rfl | rfl | rfl | rfl | rfl <;> rfl
structure NoteV.Ok (n : NoteV) : Prop where
  house : I64 n.house
  num : I64 n.num
  clock : I64 n.clock
  day : I64 n.day
  kind : I64 n.kind
  stone : I64 n.stone
  heap : I64 n.heap
  turns : I64 n.turns
  hardLo : I64 n.hardLo
  hardHi : I64 n.hardHi
  diffLo : I64 n.diffLo
  diffHi : I64 n.diffHi
  a : I64 n.a
  b : I64 n.b
  ring : I64 n.ring
  refH : I64 n.refH
  refN : I64 n.refN
  fix : I64 n.fix
  strokes : ∀ z ∈ n.strokes, I64 z
def RdNote (w : World) (cs : List Value) (n : NoteV) : Prop := ∃ sa sc, cs = n.cells sa sc ∧ RdI w sa n.strokes.length sc n.strokes ∧ n.Ok
theorem RdNote.below {w w' : World} {cs : List Value} {n : NoteV} (h : RdNote w cs n) (hb : Below w.heap.size w w') : RdNote w' cs n := by
  obtain ⟨sa, sc, h1, h2, h3⟩ := h
  exact ⟨sa, sc, h1, h2.below hb, h3⟩
theorem RdNote.len {w : World} {cs : List Value} {n : NoteV} (h : RdNote w cs n) : cs.length = 19 := by
  obtain ⟨sa, sc, rfl, _⟩ := h
  rfl
theorem RdNote.one {w : World} {cs : List Value} {n : NoteV} (h : RdNote w cs n) : ∀ v ∈ cs, v.oneCell' = true := by
  obtain ⟨sa, sc, rfl, _⟩ := h
  exact n.cells_one sa sc
end Go.Proofs.YtlnhppgfhkkidaaGreat
namespace Go.Proofs.YtlnhppgfhkkidaaGreat
open Go.RowKit

theorem infoByte : (Tryz.prog.info? 5).map (fun i => (i.zero, i.size, i.bytes)) = some (some (.int .u8 0), 1, 1) := by kernel_rfl

def chkTo (l : List UInt8) : Nat → Int
  | 0 => 1
  | k+1 => (chkTo l k + (k+1) * (l[k]?.getD 0).toNat) % 65521
def chk (l : List UInt8) : Nat := (chkTo l l.length).toNat

theorem chkTo_bd (l : List UInt8) (k : Nat) : 0 ≤ chkTo l k ∧ chkTo l k < 65521 := by
  cases k with
  | zero => simp [chkTo]
  | succ k => simp only [chkTo]; omega
theorem chk_eq (l : List UInt8) : (chk l : Int) = chkTo l l.length := by
  have := chkTo_bd l l.length
  unfold chk; omega
theorem chk_lt (l : List UInt8) : chk l < 65521 := by
  have := chkTo_bd l l.length
  unfold chk; omega

def two (n : Nat) : List UInt8 := [UInt8.ofNat n, UInt8.ofNat (n / 256)]

theorem byte_toNat (l : List UInt8) (k : Nat) : ((l[k]?.getD 0).toNat : Int) < 256 := by have := (l[k]?.getD 0).toNat_lt; omega

theorem chk_step {l : List UInt8} {k n : Nat} (hn : n ≤ 140737488355328) (hlt : k < n) : 0 ≤ ((k : Int) + 1) * ((l[k]?.getD 0).toNat : Int) ∧ ((k : Int) + 1) * ((l[k]?.getD 0).toNat : Int) ≤ 140737488355328 * 256 := by
  have hB := byte_toNat l k
  exact ⟨Int.mul_nonneg (by omega) (by omega), Int.mul_le_mul (by omega) (by omega) (by omega) (by omega)⟩

theorem check_any (a : Option Addr) (n c : Nat) (l : List UInt8) (w : World) (hn : n ≤ 140737488355328) (hr : RdB w a n c l) :
    Calls Tryz.prog 162 #[.slice a n c] w fun e w' => e = .returned (.int .i64 (chk l)) ∧ w = w' := by
  have hle := hr.len
  go_enter Tryz.func162, Tryz.ntmps162
  go_wp2
  go_loop [3, 4, 5, 8] (fun s _ _ i => ∃ k : Nat, k ≤ n ∧ i = .int .i64 k ∧ s = .int .i64 (chkTo l k)) (fun _ _ _ i => n - (intOf i).toNat)
  case atStart => exact ⟨0, Nat.zero_le _, rfl, rfl⟩
  case round =>
    obtain ⟨k, hk, rfl, rfl⟩ := hrel
    by_cases hlt : k < n
    · obtain ⟨b, off, rfl, hc⟩ := hr.at (by omega)
      have hb := chkTo_bd l k
      have hcell := hc k hlt
      have hB := byte_toNat l k
      obtain ⟨hM, hM2⟩ := chk_step (l := l) hn hlt
      clear hc hr hle
      go_wp2
      go_round
      case rel => exact ⟨k + 1, by omega, by go_num, by simp [chkTo]⟩
      case measure => simp [intOf]; omega
    · clear hle
      go_wp2
      go_ret
      have : k = l.length := by rw [hr.len]; omega
      subst this
      exact ⟨by rw [chk_eq]; rfl, rfl⟩

theorem two_vals (n : Nat) : (two n).map byteV = [.int .u8 ((n : Int) % 256), .int .u8 ((n : Int) / 256 % 256)] := by
  simp only [two, byteV, List.map_cons, List.map_nil, UInt8.toNat_ofNat']
  simp
theorem two_own (n : Nat) (w : World) (hn : n < 65536) : (w.alloc (Obj.cells #[Value.int IntKind.u8 ((n : Int) % 256), Value.int IntKind.u8 ((n : Int) / 256)] 5)).ownsRow w.heap.size 5 1 (.slice (some ⟨w.heap.size, 0, none⟩) 2 2) 2 ((two n).map byteV) := by
  have h := World.ownsRow_lit (base := w.heap.size) (e := 5) (size := 1) w #[Value.int IntKind.u8 ((n : Int) % 256), Value.int IntKind.u8 ((n : Int) / 256)] 2 (Nat.le_refl _) (by unfold maxLen; omega) rfl
  rw [two_vals, show (n : Int) / 256 % 256 = (n : Int) / 256 by omega]
  exact h

theorem two_any (n : Nat) (w : World) (hn : n < 65536) :
    Calls Tryz.prog 161 #[.int .i64 n] w fun e w' => ∃ a c, e = .returned (.slice a 2 c) ∧ w'.ownsRow w.heap.size 5 1 (.slice a 2 c) 2 ((two n).map byteV) ∧ Below w.heap.size w w' := by
  go_enter Tryz.func161, Tryz.ntmps161
  go_wp2
  go_ret
  exact ⟨_, _, rfl, two_own n w hn, (Below.refl _ _).alloc (Nat.le_refl _) _⟩
theorem grow_nil (n : Nat) (w : World) (hn : n ≤ 140737488355328) :
    Calls Tryz.prog 198 #[.slice none 0 0, .int .i64 n] w fun e w' => ∃ a c, e = .returned (.slice a 0 c) ∧ w'.ownsRow w.heap.size 5 1 (.slice a 0 c) 0 [] ∧ Below w.heap.size w w' := by
  obtain ⟨i, hi, hz0, hz1, hz2⟩ := info_parts infoByte
  by_cases h0 : n = 0
  · subst h0
    go_enter Tryz.func198, Tryz.ntmps198
    go_wp2
    go_ret
    exact ⟨_, _, rfl, World.ownsRow_nil _ _ _ _, Below.refl _ _⟩
  · have hG : n ≤ grownCap w n 0 5 := grownCap_ge w _ _ _
    have hGm : grownCap w n 0 5 ≤ maxLen := grownCap_le_maxLen w n 0 5 (by unfold maxLen; omega)
    have hrz : ∀ ty, (Builtin.append_ #[41, 3] ty #[.slice none 0 0, .int .i64 (n : Int)]).run Tryz.prog w =
        .ok (.slice (some ⟨w.heap.size, 0, none⟩) n (grownCap w n 0 5)) (w.drew.alloc (.cells (Builtin.zeroCells (Value.int .u8 0).cells n ++ Builtin.zeroCells (Value.int .u8 0).cells (grownCap w n 0 5 - n)) 5)) := fun ty => by
      have h := Lib.run_append_grow_zeros w 41 3 ty 5 i (.int .u8 0) .i64 .i64 Tryz.underlying41 Tryz.underlying3 hi hz0 none 0 0 [] (run_firstCells_none (P := Tryz.prog) (w := w.drew) i.size 0 0 0) n (by omega) (by omega) (by omega) (by omega) (by rw [hz2]; omega)
        (by rw [hz2]; exact growslice_fits (by omega) (by omega))
      simpa using h
    have hpos : 0 < (n : Int) := by omega
    obtain ⟨G, hG'⟩ : ∃ G, G = grownCap w n 0 5 := ⟨_, rfl⟩
    rw [← hG'] at hrz hG hGm
    have hsz : (Builtin.zeroCells (Value.int .u8 0).cells n ++ Builtin.zeroCells (Value.int .u8 0).cells (G - n)).size = G * 1 := by
      simp only [Array.size_append, size_zeroCells, Value.cells]; simp; omega
    obtain ⟨Z, hZ⟩ : ∃ Z, Z = Builtin.zeroCells (Value.int .u8 0).cells n ++ Builtin.zeroCells (Value.int .u8 0).cells (G - n) := ⟨_, rfl⟩
    rw [← hZ] at hrz hsz
    have HG := Lib.hid hG'; clear hG'
    have HZ := Lib.hid hZ; clear hZ
    have HS := Lib.hid hsz; clear hsz
    clear hi hz0 hz1 hz2
    unfold maxLen at hGm
    go_enter Tryz.func198, Tryz.ntmps198
    go_wp2_with (at_builtin; refine Lib.wpList_append_run _ rfl _ _ _ _ rfl _ _ rfl rfl _ _ (hrz _) ?_)
    go_ret
    exact ⟨_, _, rfl, World.ownsRow_made w.drew Z G (Nat.le_refl _) (by unfold maxLen; omega) HS.out, ((Below.refl _ _).drew).alloc (Nat.le_refl _) _⟩

theorem byte_ne {x y : UInt8} (h : x ≠ y) : (((x.toNat : Nat) : Int) != ((y.toNat : Nat) : Int)) = true := by
  rw [bne_iff_ne]
  intro e
  exact h (UInt8.toNat_inj.1 (by omega))
theorem byte_eq {x y : UInt8} (h : x = y) : (((x.toNat : Nat) : Int) != ((y.toNat : Nat) : Int)) = false := by
  subst h; simp

theorem list_ext_to {l m : List UInt8} (hl : l.length = m.length) (h : ∀ j, j < l.length → l[j]?.getD 0 = m[j]?.getD 0) : l = m := by
  apply List.ext_getElem hl
  intro i h1 h2
  have := h i h1
  simpa [List.getElem?_eq_getElem h1, List.getElem?_eq_getElem h2] using this

theorem equal_any (a : Option Addr) (n c : Nat) (l : List UInt8) (a' : Option Addr) (n' c' : Nat) (l' : List UInt8) (w : World) (hr : RdB w a n c l) (hr' : RdB w a' n' c' l') :
    Calls Tryz.prog 116 #[.slice a n c, .slice a' n' c'] w fun e w' => ∃ b : Bool, e = .returned (.bool b) ∧ (b = true ↔ l = l') ∧ ∃ q, w' = w.drewN q := by
  have hm := RdA.maxn hr
  have hl := Lib.hid hr.len
  have hl' := Lib.hid hr'.len
  by_cases hnn : n = n'
  · subst hnn
    go_enter Tryz.func116, Tryz.ntmps116
    go_wp2
    go_loopw [5, 13] (fun _ i wr => ∃ k : Nat, k ≤ n ∧ i = .int .i64 k ∧ (∀ j, j < k → l[j]?.getD 0 = l'[j]?.getD 0) ∧ ∃ q, wr = w.drewN q) (fun _ i _ => n - (intOf i).toNat)
    case atStart => exact ⟨0, Nat.zero_le _, rfl, fun j hj => by omega, 0, rfl⟩
    case round =>
      obtain ⟨k, hk, rfl, hrl, q, rfl⟩ := hrel
      have HR := Lib.hid hrl; clear hrl
      by_cases hlt : k < n
      · obtain ⟨b, off, rfl, hc⟩ := hr.at (by omega)
        obtain ⟨b', off', rfl, hc'⟩ := hr'.at (by omega)
        have hx := hc k hlt
        have hx' := hc' k hlt
        clear hc hc' hr hr'
        have hk64 : (k : Int) ≤ 9223372036854775807 := by omega
        by_cases he : l[k]?.getD 0 = l'[k]?.getD 0
        · have hb := byte_eq he
          have HE := Lib.hid he; clear he
          go_wp2
          go_quiet (fail)
          go_wp2
          go_roundw
          case rel => exact ⟨k + 1, by omega, by go_num, fun j hj => by
            rcases Nat.lt_succ_iff_lt_or_eq.1 hj with h | h
            · exact HR.out j h
            · rw [h]; exact HE.out, _, rfl⟩
          case measure => simp [intOf]; omega
        · have hb := byte_ne he
          have HE := Lib.hid he; clear he
          go_wp2
          go_quiet (fail)
          go_wp2
          go_ret
          exact ⟨false, rfl, ⟨fun h => by simp at h, fun h => absurd (by rw [h]) HE.out⟩, _, World.drewN_drewN _ _ _⟩
      · go_wp2
        go_ret
        have hkn : k = n := by omega
        exact ⟨true, rfl, ⟨fun _ => list_ext_to (by rw [hl.out, hl'.out]) (fun j hj => HR.out j (by rw [hl.out] at hj; omega)), fun _ => rfl⟩, _, rfl⟩
  · have hb : (((n : Nat) : Int) != ((n' : Nat) : Int)) = true := by rw [bne_iff_ne]; omega
    have hm' := RdA.maxn hr'
    have HN := Lib.hid hnn; clear hnn
    go_enter Tryz.func116, Tryz.ntmps116
    go_wp2
    go_ret
    exact ⟨false, rfl, ⟨fun h => by simp at h, fun h => absurd (by rw [← hl.out, ← hl'.out, h]) HN.out⟩, 0, rfl⟩

theorem app_bytes (w : World) {ops : Array Oper} {rest : List Oper} {o : Oper} {a : Act} {Q : Exit → Act → World → Prop} (hgd : o.guard = none) (s x : Operand)
    (ho : o.op = .call { callee := .builtin .append, args := #[s, x], argTypes := #[41, 41] }) (base : Nat)
    (sa : Option Addr) (sn sc : Nat) (xs : List UInt8) (hs : a.eval s = .slice sa sn sc) (hown : w.ownsRow base 5 1 (.slice sa sn sc) sn (xs.map byteV))
    (xa : Option Addr) (m xc : Nat) (ys : List UInt8) (hx : a.eval x = .slice xa m xc) (hrd : RdB w xa m xc ys) (hbytes : sn + m ≤ 140737488355328) (hbase : base ≤ w.heap.size)
    (h : ∀ a' c' w', w'.ownsRow base 5 1 (.slice a' (sn + m) c') (sn + m) ((xs ++ ys).map byteV) → w.grownBy w' (Value.ownBlock (.slice sa sn sc)) → wpList Tryz.prog ops Q rest (a.put o.dst (.slice a' (sn + m) c')) w') :
    wpList Tryz.prog ops Q (o :: rest) a w := by
  obtain ⟨i, hi, hz0, hz1, hz2⟩ := info_parts infoByte
  exact wpList_append_rd w hgd s x 41 ho base 5 i (.int .u8 0) 1 1 Tryz.underlying41 hi hz0 hz1 hz2 rfl (by decide) sa sn sc _ hs hown xa m xc _ hx hrd (byteV_one _) (by unfold maxLen; omega) (by omega) hbase
    (fun a' c' w' h1 h2 => h a' c' w' (by rw [List.map_append]; exact h1) h2)

theorem clone_any (a : Option Addr) (n c : Nat) (l : List UInt8) (w : World) (hn : n ≤ 140737488355328) (hr : RdB w a n c l) :
    Calls Tryz.prog 102 #[.slice a n c] w fun e w' => ∃ a' c', e = .returned (.slice a' n c') ∧ w'.ownsRow w.heap.size 5 1 (.slice a' n c') n (l.map byteV) ∧ Below w.heap.size w w' := by
  have hnc := hr.le
  by_cases ha : a = none
  · subst ha
    have hc : n = 0 ∧ c = 0 := by
      rcases hr.2.2.2 with h | ⟨b, off, h, _⟩
      · omega
      · cases h
    obtain ⟨rfl, rfl⟩ := hc
    have hl : l = [] := List.eq_nil_of_length_eq_zero hr.len
    subst hl
    clear hr hnc
    have heq : ∀ w, (binOp .eql 41 (.slice none 0 0) (.slice none 0 0)).run Tryz.prog w = .ok (.bool true) w := fun w => Lib.run_eql_slice_nil (P := Tryz.prog) w 41 5 none 0 0 0 0 Tryz.underlying41
    go_enter Tryz.func102, Tryz.ntmps102
    go_wp2
    go_ret
    exact ⟨_, _, rfl, World.ownsRow_nil _ _ _ _, Below.refl _ _⟩
  · obtain ⟨ad, rfl⟩ := Option.ne_none_iff_exists'.1 ha
    clear ha
    have heq : ∀ w, (binOp .eql 41 (.slice (some ad) n c) (.slice none 0 0)).run Tryz.prog w = .ok (.bool false) w := fun w => Lib.run_eql_slice_nil (P := Tryz.prog) w 41 5 (some ad) n c 0 0 Tryz.underlying41
    have hown := World.ownsRow_lit (base := w.heap.size) (e := 5) (size := 1) w #[] 0 (Nat.le_refl _) (by unfold maxLen; omega) rfl
    have hr1 := hr.below ((Below.refl w.heap.size w).alloc (Nat.le_refl _) (Obj.cells #[] 5))
    go_enter Tryz.func102, Tryz.ntmps102
    go_wp2_with (at_builtin; refine app_bytes _ rfl _ _ rfl w.heap.size _ _ _ [] rfl hown _ _ _ l rfl hr1 (by omega) (by simp) ?_)
    intro a' c' w' h1 h2
    go_wp2
    go_ret
    exact ⟨_, _, rfl, h1, ((Below.refl _ _).alloc (Nat.le_refl _) _).grown h2 (by simp) (fun k hk => by simp [Value.ownBlock] at hk; omega)⟩

end Go.Proofs.YtlnhppgfhkkidaaGreat
namespace Go.Proofs.YtlnhppgfhkkidaaGreat
open Go.RowKit

theorem wpList_store_new {P : Program} {ops : Array Oper} {rest : List Oper} {op : Oper} {a : Act} {Q : Exit → Act → World → Prop} (w : World) (hgd : op.guard = none) (ty : TypeId) (x y : Operand) (ho : op.op = .store ty x y)
    (c c' : Array Value) (hx : a.eval x = .pointer (some ⟨w.heap.size, 0, none⟩)) (hy : a.eval y = .agg c') (hi : (P.info? ty).map (·.size) = some c'.size) (hc : c.size = c'.size) (h1 : c'.all (·.oneCell') = true)
    (h : wpList P ops Q rest (a.put op.dst undef) (w.alloc (.cells c' ty))) : wpList P ops Q (op :: rest) a (w.alloc (.cells c ty)) := by
  refine wpList_plain hgd fun K hK => ?_
  unfold Oper.wp execOp
  simp only [ho, hx, hy, run_storeAt_new w ty c c' hi hc h1, Sem.run_bind, Sem.run_pure, Result.andThen_ok]
  exact hK _ _ h

end Go.Proofs.YtlnhppgfhkkidaaGreat
namespace Go.Proofs.YtlnhppgfhkkidaaGreat
open Go.RowKit

def noteA (n : NoteV) (sa : Option Addr) (sc : Nat) : Array Value := (n.cells sa sc).toArray
def zeroN : NoteV := ⟨0, 0, 0, 0, 0, 0, 0, 0, 0, 0, 0, 0, 0, 0, 0, 0, 0, 0, []⟩
section
variable (n : NoteV) (sa : Option Addr) (sc : Nat)
theorem noteA_size : (noteA n sa sc).size = 19 := rfl
theorem noteA_one : (noteA n sa sc).all (·.oneCell') = true := all_oneCell_toArray (n.cells_one sa sc)
theorem noteA_0 : (noteA n sa sc)[0]? = some (.int .i64 n.house) := rfl
theorem noteA_1 : (noteA n sa sc)[1]? = some (.int .i64 n.num) := rfl
theorem noteA_2 : (noteA n sa sc)[2]? = some (.int .i64 n.clock) := rfl
theorem noteA_3 : (noteA n sa sc)[3]? = some (.int .i64 n.day) := rfl
theorem noteA_4 : (noteA n sa sc)[4]? = some (.int .i64 n.kind) := rfl
theorem noteA_5 : (noteA n sa sc)[5]? = some (.int .i64 n.stone) := rfl
theorem noteA_6 : (noteA n sa sc)[6]? = some (.int .i64 n.heap) := rfl
theorem noteA_7 : (noteA n sa sc)[7]? = some (.int .i64 n.turns) := rfl
theorem noteA_8 : (noteA n sa sc)[8]? = some (.int .i64 n.hardLo) := rfl
theorem noteA_9 : (noteA n sa sc)[9]? = some (.int .i64 n.hardHi) := rfl
theorem noteA_10 : (noteA n sa sc)[10]? = some (.int .i64 n.diffLo) := rfl
theorem noteA_11 : (noteA n sa sc)[11]? = some (.int .i64 n.diffHi) := rfl
theorem noteA_12 : (noteA n sa sc)[12]? = some (.int .i64 n.a) := rfl
theorem noteA_13 : (noteA n sa sc)[13]? = some (.int .i64 n.b) := rfl
theorem noteA_14 : (noteA n sa sc)[14]? = some (.int .i64 n.ring) := rfl
theorem noteA_15 : (noteA n sa sc)[15]? = some (.slice sa n.strokes.length sc) := rfl
theorem noteA_16 : (noteA n sa sc)[16]? = some (.int .i64 n.refH) := rfl
theorem noteA_17 : (noteA n sa sc)[17]? = some (.int .i64 n.refN) := rfl
theorem noteA_18 : (noteA n sa sc)[18]? = some (.int .i64 n.fix) := rfl
theorem noteA_s0 (x : Int) : (noteA n sa sc).setIfInBounds 0 (.int .i64 x) = noteA { n with house := x } sa sc := rfl
theorem noteA_s1 (x : Int) : (noteA n sa sc).setIfInBounds 1 (.int .i64 x) = noteA { n with num := x } sa sc := rfl
theorem noteA_s2 (x : Int) : (noteA n sa sc).setIfInBounds 2 (.int .i64 x) = noteA { n with clock := x } sa sc := rfl
theorem noteA_s3 (x : Int) : (noteA n sa sc).setIfInBounds 3 (.int .i64 x) = noteA { n with day := x } sa sc := rfl
theorem noteA_s4 (x : Int) : (noteA n sa sc).setIfInBounds 4 (.int .i64 x) = noteA { n with kind := x } sa sc := rfl
theorem noteA_s5 (x : Int) : (noteA n sa sc).setIfInBounds 5 (.int .i64 x) = noteA { n with stone := x } sa sc := rfl
theorem noteA_s6 (x : Int) : (noteA n sa sc).setIfInBounds 6 (.int .i64 x) = noteA { n with heap := x } sa sc := rfl
theorem noteA_s7 (x : Int) : (noteA n sa sc).setIfInBounds 7 (.int .i64 x) = noteA { n with turns := x } sa sc := rfl
theorem noteA_s8 (x : Int) : (noteA n sa sc).setIfInBounds 8 (.int .i64 x) = noteA { n with hardLo := x } sa sc := rfl
theorem noteA_s9 (x : Int) : (noteA n sa sc).setIfInBounds 9 (.int .i64 x) = noteA { n with hardHi := x } sa sc := rfl
theorem noteA_s10 (x : Int) : (noteA n sa sc).setIfInBounds 10 (.int .i64 x) = noteA { n with diffLo := x } sa sc := rfl
theorem noteA_s11 (x : Int) : (noteA n sa sc).setIfInBounds 11 (.int .i64 x) = noteA { n with diffHi := x } sa sc := rfl
theorem noteA_s12 (x : Int) : (noteA n sa sc).setIfInBounds 12 (.int .i64 x) = noteA { n with a := x } sa sc := rfl
theorem noteA_s13 (x : Int) : (noteA n sa sc).setIfInBounds 13 (.int .i64 x) = noteA { n with b := x } sa sc := rfl
theorem noteA_s14 (x : Int) : (noteA n sa sc).setIfInBounds 14 (.int .i64 x) = noteA { n with ring := x } sa sc := rfl
theorem noteA_s15 : (noteA n sa sc).setIfInBounds 15 (.slice none 0 0) = noteA { n with strokes := [] } none 0 := rfl
theorem noteA_s16 (x : Int) : (noteA n sa sc).setIfInBounds 16 (.int .i64 x) = noteA { n with refH := x } sa sc := rfl
theorem noteA_s17 (x : Int) : (noteA n sa sc).setIfInBounds 17 (.int .i64 x) = noteA { n with refN := x } sa sc := rfl
theorem noteA_s18 (x : Int) : (noteA n sa sc).setIfInBounds 18 (.int .i64 x) = noteA { n with fix := x } sa sc := rfl
end
theorem noteA_zero : noteA zeroN none 0 = #[.int .i64 0, .int .i64 0, .int .i64 0, .int .i64 0, .int .i64 0, .int .i64 0, .int .i64 0, .int .i64 0, .int .i64 0, .int .i64 0, .int .i64 0, .int .i64 0, .int .i64 0, .int .i64 0, .int .i64 0, .slice none 0 0, .int .i64 0, .int .i64 0, .int .i64 0] := rfl

section
variable {P : Program} {ops : Array Oper} {rest : List Oper} {op : Oper} {a : Act} {Q : Exit → Act → World → Prop}
theorem wpList_store_newp (w : World) (hgd : op.guard = none) (ty : TypeId) (x y : Operand) (ho : op.op = .store ty x y) (p : Nat) (hp : w.heap.size = p)
    (c c' : Array Value) (hx : a.eval x = .pointer (some ⟨p, 0, none⟩)) (hy : a.eval y = .agg c') (hi : (P.info? ty).map (·.size) = some c'.size) (hc : c.size = c'.size) (h1 : c'.all (·.oneCell') = true)
    (h : wpList P ops Q rest (a.put op.dst undef) (w.alloc (.cells c' ty))) : wpList P ops Q (op :: rest) a (w.alloc (.cells c ty)) := by
  subst hp
  exact wpList_store_new w hgd ty x y ho c c' hx hy hi hc h1 h
theorem heap_at (w : World) (o : Obj) (p : Nat) (h : w.heap.size = p) : (w.alloc o).heap[p]? = some o := by subst h; exact heap_alloc_last w o
theorem heap_last (w : World) (o : Obj) : (w.alloc o).heap[w.heap.size]? = some o := heap_alloc_last w o
theorem heap_before (w : World) (o : Obj) (p : Nat) (x : Obj) (h : w.heap[p]? = some x) : (w.alloc o).heap[p]? = some x := by
  have hp := (Array.getElem?_eq_some_iff.1 h).1
  rw [← h]
  simp only [World.alloc, Array.getElem?_push]
  rw [if_neg (by omega)]
end
end Go.Proofs.YtlnhppgfhkkidaaGreat
namespace Go.Proofs.YtlnhppgfhkkidaaGreat
open Go.RowKit

def inB (x lo hi : Int) : Bool := decide (lo ≤ x) && decide (x ≤ hi)
theorem inB_true {x lo hi : Int} : inB x lo hi = true ↔ lo ≤ x ∧ x ≤ hi := by simp [inB]
theorem inB_false {x lo hi : Int} : inB x lo hi = false ↔ ¬ (lo ≤ x ∧ x ≤ hi) := by rw [← inB_true]; simp

theorem hin_any (x lo hi : Int) (w : World) : Calls Tryz.prog 164 #[.int .i64 x, .int .i64 lo, .int .i64 hi] w fun e w' => e = .returned (.bool (inB x lo hi)) ∧ w = w' := by
  by_cases h1 : lo ≤ x
  · have t1 : decide (lo ≤ x) = true := by simp; omega
    by_cases h2 : x ≤ hi
    · have t2 : decide (x ≤ hi) = true := by simp; omega
      have t3 : inB x lo hi = true := inB_true.2 ⟨h1, h2⟩
      rw [t3]; clear t3
      go_enter Tryz.func164, Tryz.ntmps164
      go_wp2_with fail
      go_ret
      exact ⟨rfl, rfl⟩
    · have t2 : decide (x ≤ hi) = false := by simp; omega
      have t3 : inB x lo hi = false := inB_false.2 (fun h => h2 h.2)
      rw [t3]; clear t3
      go_enter Tryz.func164, Tryz.ntmps164
      go_wp2_with fail
      go_ret
      exact ⟨rfl, rfl⟩
  · have t1 : decide (lo ≤ x) = false := by simp; omega
    have t3 : inB x lo hi = false := inB_false.2 (fun h => h1 h.1)
    rw [t3]; clear t3
    go_enter Tryz.func164, Tryz.ntmps164
    go_wp2_with fail
    go_ret
    exact ⟨rfl, rfl⟩

def rightNameB (h m : Int) : Bool := inB h 1 8 && inB m 1 400
theorem rightName_any (h m : Int) (w : World) : Calls Tryz.prog 166 #[.agg #[.int .i64 h, .int .i64 m]] w fun e w' => e = .returned (.bool (rightNameB h m)) ∧ Below w.heap.size w w' := by
  have hb := (Below.refl w.heap.size w).alloc (Nat.le_refl _) (.cells #[.int .i64 h, .int .i64 m] 45)
  unfold rightNameB
  cases h1 : inB h 1 8
  · go_enter Tryz.func166, Tryz.ntmps166
    go_wp2_with fail
    refine (hin_any h 1 8 _).mono ?_
    rintro e w' ⟨rfl, rfl⟩
    rw [h1]
    go_wp2_with fail
    go_ret
    exact ⟨rfl, hb⟩
  · go_enter Tryz.func166, Tryz.ntmps166
    go_wp2_with fail
    refine (hin_any h 1 8 _).mono ?_
    rintro e w' ⟨rfl, rfl⟩
    rw [h1]
    go_wp2_with fail
    refine (hin_any m 1 400 _).mono ?_
    rintro e w' ⟨rfl, rfl⟩
    go_wp2_with fail
    go_ret
    exact ⟨rfl, hb⟩

structure FrV where
  rings : Int
  sectors : Int
  wide : Int
def FrV.val (f : FrV) : Value := .agg #[.int .i64 f.rings, .int .i64 f.sectors, .int .i64 f.wide]
def FrV.valid (f : FrV) : Bool := inB f.rings 1 24 && (inB f.sectors 2 96 && inB f.wide 1 f.sectors)

theorem valid_any (r s d : Int) (w : World) : Calls Tryz.prog 113 #[.agg #[.int .i64 r, .int .i64 s, .int .i64 d]] w fun e w' => e = .returned (.bool (FrV.valid ⟨r, s, d⟩)) ∧ Below w.heap.size w w' := by
  have hb := (Below.refl w.heap.size w).alloc (Nat.le_refl _) (.cells #[.int .i64 r, .int .i64 s, .int .i64 d] 174)
  unfold FrV.valid
  cases h1 : inB r 1 24
  · go_enter Tryz.func113, Tryz.ntmps113
    go_wp2_with fail
    refine (hin_any r 1 24 _).mono ?_
    rintro e w' ⟨rfl, rfl⟩
    rw [h1]
    go_wp2_with fail
    go_ret
    exact ⟨rfl, hb⟩
  · cases h2 : inB s 2 96
    · go_enter Tryz.func113, Tryz.ntmps113
      go_wp2_with fail
      refine (hin_any r 1 24 _).mono ?_
      rintro e w' ⟨rfl, rfl⟩
      rw [h1]
      go_wp2_with fail
      refine (hin_any s 2 96 _).mono ?_
      rintro e w' ⟨rfl, rfl⟩
      rw [h2]
      go_wp2_with fail
      go_ret
      exact ⟨rfl, hb⟩
    · go_enter Tryz.func113, Tryz.ntmps113
      go_wp2_with fail
      refine (hin_any r 1 24 _).mono ?_
      rintro e w' ⟨rfl, rfl⟩
      rw [h1]
      go_wp2_with fail
      refine (hin_any s 2 96 _).mono ?_
      rintro e w' ⟨rfl, rfl⟩
      rw [h2]
      go_wp2_with fail
      refine (hin_any d 1 s _).mono ?_
      rintro e w' ⟨rfl, rfl⟩
      go_wp2_with fail
      go_ret
      exact ⟨rfl, hb⟩

def spansB (a b lo hi : Int) : Bool := decide (lo ≤ a) && (decide (a ≤ b) && decide (b ≤ hi))
theorem spans_any (a b lo hi : Int) (w : World) : Calls Tryz.prog 200 #[.agg #[.int .i64 a, .int .i64 b], .int .i64 lo, .int .i64 hi] w fun e w' => e = .returned (.bool (spansB a b lo hi)) ∧ Below w.heap.size w w' := by
  have hb := (Below.refl w.heap.size w).alloc (Nat.le_refl _) (.cells #[.int .i64 a, .int .i64 b] 43)
  unfold spansB
  cases h1 : decide (lo ≤ a)
  · go_enter Tryz.func200, Tryz.ntmps200
    go_wp2_with fail
    go_ret
    exact ⟨rfl, hb⟩
  · cases h2 : decide (a ≤ b)
    · go_enter Tryz.func200, Tryz.ntmps200
      go_wp2_with fail
      go_ret
      exact ⟨rfl, hb⟩
    · go_enter Tryz.func200, Tryz.ntmps200
      go_wp2_with fail
      go_ret
      exact ⟨rfl, hb⟩

theorem cell_any (r s d x : Int) (w : World) (hr : 1 ≤ r ∧ r ≤ 24) (hs : 2 ≤ s ∧ s ≤ 96) : Calls Tryz.prog 201 #[.agg #[.int .i64 r, .int .i64 s, .int .i64 d], .int .i64 x] w fun e w' => e = .returned (.bool (inB x 0 (r * s - 1))) ∧ Below w.heap.size w w' := by
  have hb := (Below.refl w.heap.size w).alloc (Nat.le_refl _) (.cells #[.int .i64 r, .int .i64 s, .int .i64 d] 174)
  have h1 : 0 ≤ r * s := Int.mul_nonneg (by omega) (by omega)
  have h2 : r * s ≤ 24 * 96 := Int.mul_le_mul hr.2 hs.2 (by omega) (by omega)
  go_enter Tryz.func201, Tryz.ntmps201
  go_wp2_with fail
  refine (hin_any x 0 (r * s - 1) _).mono ?_
  rintro e w' ⟨rfl, rfl⟩
  go_wp2_with fail
  go_ret
  exact ⟨rfl, hb⟩
section
attribute [local go_sem] noteA_0 noteA_1
theorem nameOf_any (n : NoteV) (sa : Option Addr) (sc : Nat) (w : World) : Calls Tryz.prog 167 #[.agg (noteA n sa sc)] w fun e w' => e = .returned (.agg #[.int .i64 n.house, .int .i64 n.num]) ∧ Below w.heap.size w w' := by
  have hb := (Below.refl w.heap.size w).alloc (Nat.le_refl _) (.cells (noteA n sa sc) 47)
  go_enter Tryz.func167, Tryz.ntmps167
  go_wp2_with fail
  go_returns
  exact ⟨rfl, hb.alloc hb.size _⟩
end
end Go.Proofs.YtlnhppgfhkkidaaGreat
namespace Go.Proofs.YtlnhppgfhkkidaaGreat
open Go.RowKit

def strokesP (m : Int) (l : List Int) : Prop := ∀ i, i < l.length → inB (l[i]?.getD 0) 0 m = true ∧ (0 < i → l[i-1]?.getD 0 ≤ l[i]?.getD 0)
instance (m : Int) (l : List Int) : Decidable (strokesP m l) := by unfold strokesP; infer_instance
def strokesB (m : Int) (l : List Int) : Bool := decide (strokesP m l) && inB l.length 1 200

set_option maxHeartbeats 1000000 in
theorem hstrokes_any (r s d : Int) (a : Option Addr) (n c : Nat) (l : List Int) (w : World) (hr : RdI w a n c l) (hs : 2 ≤ s ∧ s ≤ 96) (hd : 1 ≤ d ∧ d ≤ s) :
    Calls Tryz.prog 202 #[.agg #[.int .i64 r, .int .i64 s, .int .i64 d], .slice a n c] w fun e w' => e = .returned (.bool (strokesB (s - d) l)) ∧ Below w.heap.size w w' := by
  have hb := (Below.refl w.heap.size w).alloc (Nat.le_refl _) (.cells #[.int .i64 r, .int .i64 s, .int .i64 d] 174)
  have hm := hr.maxn
  have hl := Lib.hid hr.len
  have hr1 := hr.below hb
  have HB := Lib.hid hb; clear hb hr
  have HF : Hid (¬ strokesP (s - d) l → strokesB (s - d) l = false) := fun h => by simp [strokesB, h]
  have HT : Hid (strokesP (s - d) l → strokesB (s - d) l = inB n 1 200) := fun h => by simp [strokesB, h, hl.out]
  generalize strokesB (s - d) l = R at *
  go_enter Tryz.func202, Tryz.ntmps202
  go_wp2_with fail
  go_loop [5, 6, 9] (fun _ _ i => ∃ k : Nat, k ≤ n ∧ i = .int .i64 k ∧ Hid (∀ i, i < k → inB (l[i]?.getD 0) 0 (s - d) = true ∧ (0 < i → l[i-1]?.getD 0 ≤ l[i]?.getD 0))) (fun _ _ i => n - (intOf i).toNat)
  case atStart => exact ⟨0, Nat.zero_le _, rfl, Lib.hid (fun j hj => by omega)⟩
  case round =>
    obtain ⟨k, hk, rfl, HR⟩ := hrel
    by_cases hlt : k < n
    · obtain ⟨b, off, rfl, hc⟩ := hr1.at (by omega)
      have e1 := hc k hlt
      have e2 : 0 < k → _ := fun h => hc (k - 1) (by omega)
      have E2 := Lib.hid e2; clear e2
      clear hc hr1
      cases hin : inB (l[k]?.getD 0) 0 (s - d)
      · have hno : ¬ strokesP (s - d) l := fun h => by
          have := (h k (by rw [hl.out]; exact hlt)).1
          rw [hin] at this
          cases this
        have HN := Lib.hid (HF.out hno); clear hno
        go_wp2_with fail
        refine (hin_any _ _ _ _).mono ?_
        rintro e w' ⟨rfl, rfl⟩
        rw [hin]
        go_wp2_with fail
        go_ret
        rw [HN.out]
        exact ⟨rfl, HB.out⟩
      · by_cases h0 : 0 < k
        · have q0 : decide ((0 : Int) < (k : Int)) = true := by simp; exact h0
          have e2 := E2.out h0
          have ek : ((k : Int) - 1) = ((k - 1 : Nat) : Int) := by omega
          by_cases h1 : l[k]?.getD 0 < l[k-1]?.getD 0
          · have q1 : decide (l[k]?.getD 0 < l[k-1]?.getD 0) = true := by simp; exact h1
            have hno : ¬ strokesP (s - d) l := fun h => by
              have := (h k (by rw [hl.out]; exact hlt)).2 h0
              omega
            have HN := Lib.hid (HF.out hno); clear hno
            generalize l[k]?.getD 0 = x at *
            generalize l[k-1]?.getD 0 = y at *
            go_wp2_with fail
            refine (hin_any _ _ _ _).mono ?_
            rintro e w' ⟨rfl, rfl⟩
            rw [hin]
            go_wp2_with fail
            go_ret
            rw [HN.out]
            exact ⟨rfl, HB.out⟩
          · have q1 : decide (l[k]?.getD 0 < l[k-1]?.getD 0) = false := by simp; omega
            have HG := Lib.hid (show inB (l[k]?.getD 0) 0 (s - d) = true ∧ (0 < k → l[k-1]?.getD 0 ≤ l[k]?.getD 0) from ⟨hin, fun _ => by omega⟩)
            generalize hx : l[k]?.getD 0 = x at *
            generalize hy : l[k-1]?.getD 0 = y at *
            have HX := Lib.hid hx; clear hx
            have HY := Lib.hid hy; clear hy
            go_wp2_with fail
            refine (hin_any _ _ _ _).mono ?_
            rintro e w' ⟨rfl, rfl⟩
            rw [hin]
            go_wp2_with fail
            go_round
            case rel => exact ⟨k + 1, by omega, by go_num, Lib.hid fun j hj => by
              rcases Nat.lt_succ_iff_lt_or_eq.1 hj with h | h
              · exact HR.out j h
              · rw [h, HX.out, HY.out]; exact HG.out⟩
            case measure => simp [intOf]; omega
        · have q0 : decide ((0 : Int) < (k : Int)) = false := by simp; omega
          have HG := Lib.hid (show inB (l[k]?.getD 0) 0 (s - d) = true ∧ (0 < k → l[k-1]?.getD 0 ≤ l[k]?.getD 0) from ⟨hin, fun h => absurd h h0⟩)
          generalize hx : l[k]?.getD 0 = x at *
          have HX := Lib.hid hx; clear hx
          go_wp2_with fail
          refine (hin_any _ _ _ _).mono ?_
          rintro e w' ⟨rfl, rfl⟩
          rw [hin]
          go_wp2_with fail
          go_round
          case rel => exact ⟨k + 1, by omega, by go_num, Lib.hid fun j hj => by
            rcases Nat.lt_succ_iff_lt_or_eq.1 hj with h | h
            · exact HR.out j h
            · rw [h, HX.out]; exact HG.out⟩
          case measure => simp [intOf]; omega
    · have hkn : k = n := by omega
      subst hkn
      have hyes : strokesP (s - d) l := fun i hi => HR.out i (by rw [hl.out] at hi; exact hi)
      have HY := Lib.hid (HT.out hyes); clear hyes hr1
      go_wp2_with fail
      refine (hin_any _ _ _ _).mono ?_
      rintro e w' ⟨rfl, rfl⟩
      go_wp2_with fail
      go_ret
      rw [HY.out]
      exact ⟨rfl, HB.out⟩

theorem int_ne {x y : Int} (h : ¬ x = y) : (x != y) = true := by simp [h]
theorem int_eq {x y : Int} (h : x = y) : (x != y) = false := by simp [h]
theorem ilist_ext {l m : List Int} (hl : l.length = m.length) (h : ∀ j, j < l.length → l[j]?.getD 0 = m[j]?.getD 0) : l = m := by
  apply List.ext_getElem hl
  intro i h1 h2
  have := h i h1
  simpa [List.getElem?_eq_getElem h1, List.getElem?_eq_getElem h2] using this

theorem eqInts_any (a : Option Addr) (n c : Nat) (l : List Int) (a' : Option Addr) (n' c' : Nat) (l' : List Int) (w : World) (hr : RdI w a n c l) (hr' : RdI w a' n' c' l') :
    Calls Tryz.prog 176 #[.slice a n c, .slice a' n' c'] w fun e w' => ∃ b : Bool, e = .returned (.bool b) ∧ (b = true ↔ l = l') ∧ ∃ q, w' = w.drewN q := by
  have hm := RdI.maxn hr
  have hl := Lib.hid hr.len
  have hl' := Lib.hid hr'.len
  by_cases hnn : n = n'
  · subst hnn
    go_enter Tryz.func176, Tryz.ntmps176
    go_wp2
    go_loopw [5, 13] (fun _ i wr => ∃ k : Nat, k ≤ n ∧ i = .int .i64 k ∧ (∀ j, j < k → l[j]?.getD 0 = l'[j]?.getD 0) ∧ ∃ q, wr = w.drewN q) (fun _ i _ => n - (intOf i).toNat)
    case atStart => exact ⟨0, Nat.zero_le _, rfl, fun j hj => by omega, 0, rfl⟩
    case round =>
      obtain ⟨k, hk, rfl, hrl, q, rfl⟩ := hrel
      have HR := Lib.hid hrl; clear hrl
      by_cases hlt : k < n
      · obtain ⟨b, off, rfl, hc⟩ := hr.at (by omega)
        obtain ⟨b', off', rfl, hc'⟩ := hr'.at (by omega)
        have hx := hc k hlt
        have hx' := hc' k hlt
        clear hc hc' hr hr'
        have hk64 : (k : Int) ≤ 9223372036854775807 := by omega
        by_cases he : l[k]?.getD 0 = l'[k]?.getD 0
        · have hb := int_eq he
          have HE := Lib.hid he; clear he
          go_wp2
          go_quiet (fail)
          go_wp2
          go_roundw
          case rel => exact ⟨k + 1, by omega, by go_num, fun j hj => by
            rcases Nat.lt_succ_iff_lt_or_eq.1 hj with h | h
            · exact HR.out j h
            · rw [h]; exact HE.out, _, rfl⟩
          case measure => simp [intOf]; omega
        · have hb := int_ne he
          have HE := Lib.hid he; clear he
          go_wp2
          go_quiet (fail)
          go_wp2
          go_ret
          exact ⟨false, rfl, ⟨fun h => by simp at h, fun h => absurd (by rw [h]) HE.out⟩, _, World.drewN_drewN _ _ _⟩
      · go_wp2
        go_ret
        have hkn : k = n := by omega
        exact ⟨true, rfl, ⟨fun _ => ilist_ext (by rw [hl.out, hl'.out]) (fun j hj => HR.out j (by rw [hl.out] at hj; omega)), fun _ => rfl⟩, _, rfl⟩
  · have hb : (((n : Nat) : Int) != ((n' : Nat) : Int)) = true := by rw [bne_iff_ne]; omega
    have hm' := RdI.maxn hr'
    have HN := Lib.hid hnn; clear hnn
    go_enter Tryz.func176, Tryz.ntmps176
    go_wp2
    go_ret
    exact ⟨false, rfl, ⟨fun h => by simp at h, fun h => absurd (by rw [← hl.out, ← hl'.out, h]) HN.out⟩, 0, rfl⟩

end Go.Proofs.YtlnhppgfhkkidaaGreat
namespace Go.Proofs.YtlnhppgfhkkidaaGreat
open Go.RowKit

theorem plain_int : Tryz.prog.plainKey 3 = true := by kernel_rfl
theorem run_eqItems_ints (w : World) (d : Nat) (l m : List Int) : ∀ is : List Nat, (∀ i ∈ is, i < l.length ∧ i < m.length) →
    (Op.eqItems (d + 1) 3 (Tryz.prog.cellsOf 3) (l.map intV).toArray (m.map intV).toArray is).run Tryz.prog w = .ok (decide (∀ i ∈ is, l[i]?.getD 0 = m[i]?.getD 0)) w
  | [], _ => by simp [Op.eqItems]
  | i :: is, h => by
    have hi := h i (List.mem_cons_self ..)
    have hc : Tryz.prog.cellsOf 3 = 1 := by kernel_rfl
    have ih := run_eqItems_ints w d l m is (fun j hj => h j (List.mem_cons_of_mem _ hj))
    have p1 : (part 3 (l.map intV).toArray (i * 1)).run Tryz.prog w = .ok (intV (l[i]?.getD 0)) w := run_part_plain w plain_int (by simp [List.getElem?_eq_getElem hi.1])
    have p2 : (part 3 (m.map intV).toArray (i * 1)).run Tryz.prog w = .ok (intV (m[i]?.getD 0)) w := run_part_plain w plain_int (by simp [List.getElem?_eq_getElem hi.2])
    have p3 := run_equalIn_int w d 3 .i64 .i64 (l[i]?.getD 0) (m[i]?.getD 0) Tryz.underlying3
    rw [hc] at ih ⊢
    simp only [Op.eqItems, Sem.run_bind, p1, p2, Result.andThen_ok]
    rw [show Op.equalIn (d + 1) 3 (intV (l[i]?.getD 0)) (intV (m[i]?.getD 0)) = Op.equalIn (d + 1) 3 (.int .i64 (l[i]?.getD 0)) (.int .i64 (m[i]?.getD 0)) from rfl, p3]
    simp only [Result.andThen_ok]
    by_cases he : l[i]?.getD 0 = m[i]?.getD 0
    · simp [he, ih]
    · simp [he]

theorem all_range14 {l m : List Int} (hl : l.length = 14) (hm : m.length = 14) : (∀ i ∈ List.range 14, l[i]?.getD 0 = m[i]?.getD 0) ↔ l = m := by
  constructor
  · intro h
    refine ilist_ext (by omega) (fun j hj => h j (List.mem_range.2 (by omega)))
  · rintro rfl i _
    rfl
set_option maxRecDepth 100000 in
theorem run_equalIn14 (w : World) (d : Nat) (l m : List Int) (hl : l.length = 14) (hm : m.length = 14) : (Op.equalIn (d + 2) 228 (.agg (l.map intV).toArray) (.agg (m.map intV).toArray)).run Tryz.prog w = .ok (decide (l = m)) w := by
  obtain ⟨i, hi, _⟩ : ∃ i, Tryz.prog.info? 3 = some i ∧ True := by
    cases h : Tryz.prog.info? 3 with
    | none => exact absurd h (by have : (Tryz.prog.info? 3).isSome = true := by kernel_rfl
                                 intro h'; rw [h'] at this; cases this)
    | some i => exact ⟨i, rfl, trivial⟩
  rw [run_equalIn_array (P := Tryz.prog) w (d + 1) (t := 228) (l.map intV).toArray (m.map intV).toArray Tryz.underlying228 hi, run_eqItems_ints w d l m (List.range 14) (fun i hi => by have := List.mem_range.1 hi; omega)]
  congr 1
  exact decide_eq_decide.2 (all_range14 hl hm)
end Go.Proofs.YtlnhppgfhkkidaaGreat
namespace Go.Proofs.YtlnhppgfhkkidaaGreat
open Go.RowKit

def nums14 (n : NoteV) : List Int := [n.house, n.num, n.clock, n.day, n.kind, n.stone, n.heap, n.turns, n.a, n.b, n.ring, n.refH, n.refN, n.fix]
def numsA (n : NoteV) : Array Value := ((nums14 n).map intV).toArray
theorem run_equal_nums (x y : NoteV) (w : World) : (Op.equalIn 10000 228 (.agg (numsA x)) (.agg (numsA y))).run Tryz.prog w = .ok (decide (nums14 x = nums14 y)) w := by
  have h := run_equalIn14 w 9998 (nums14 x) (nums14 y) rfl rfl
  simp only [Nat.reduceAdd] at h
  exact h
section
attribute [local go_sem] noteA_0 noteA_1 noteA_2 noteA_3 noteA_4 noteA_5 noteA_6 noteA_7 noteA_12 noteA_13 noteA_14 noteA_16 noteA_17 noteA_18
set_option maxHeartbeats 1000000 in
theorem numbers_any (n : NoteV) (sa : Option Addr) (sc : Nat) (w : World) : Calls Tryz.prog 175 #[.agg (noteA n sa sc)] w fun e w' => e = .returned (.agg (numsA n)) ∧ Below w.heap.size w w' := by
  have hb := (Below.refl w.heap.size w).alloc (Nat.le_refl _) (.cells (noteA n sa sc) 47)
  go_enter Tryz.func175, Tryz.ntmps175
  go_wp2_with fail
  go_returns
  exact ⟨rfl, hb.alloc hb.size _⟩
end

def sameB (x y : NoteV) : Bool := decide (nums14 x = nums14 y) && (decide (x.hardLo = y.hardLo ∧ x.hardHi = y.hardHi) && (decide (x.diffLo = y.diffLo ∧ x.diffHi = y.diffHi) && decide (x.strokes = y.strokes)))

theorem note_cells {W : World} {p : Nat} {x : NoteV} {sa : Option Addr} {sc : Nat} (h1 : W.heap[p]? = some (.cells (noteA x sa sc) 47 (0, 0))) : W.rangeAt p 0 (x.cells sa sc) := fun j v hv => by
  simp only [World.cell?, h1]
  simpa [noteA] using hv
theorem size43 (x : NoteV) (sa : Option Addr) (sc : Nat) : (Tryz.prog.info? 47).map (·.size) = some (x.cells sa sc).length := by kernel_rfl

attribute [local go_sem ↓] run_equal_nums
theorem quiet_load43 {C : World → Prop} {w : World} {o : Oper} {a : Act} (x : Operand) (ho : o.op = .load 47 x) (p : Nat) (hx : a.eval x = .pointer (some ⟨p, 0, none⟩)) (n : NoteV) (sa : Option Addr) (sc : Nat)
    (h : w.heap[p]? = some (.cells (noteA n sa sc) 47 (0, 0))) : o.quietAt Tryz.prog a C w (.agg (noteA n sa sc)) := by
  unfold Oper.quietAt execOp
  simp only [ho, hx, Instr.loadAt, Instr.sureAddr, Sem.run_bind, Sem.run_pure, Result.andThen_ok, run_loadVar_mid w p 0 47 (n.cells sa sc) _ (note_cells h) Tryz.underlying47 rfl (size43 n sa sc)]
  exact ⟨rfl, rfl⟩

set_option maxRecDepth 100000 in
set_option maxHeartbeats 2000000 in
theorem same_any (x y : NoteV) (sa : Option Addr) (sc : Nat) (ta : Option Addr) (tc : Nat) (w : World) (hx : RdI w sa x.strokes.length sc x.strokes) (hy : RdI w ta y.strokes.length tc y.strokes) :
    Calls Tryz.prog 122 #[.agg (noteA x sa sc), .agg (noteA y ta tc)] w fun e w' => e = .returned (.bool (sameB x y)) ∧ Below w.heap.size w w' := by
  have hlast := heap_last w (.cells (noteA x sa sc) 47)
  have p0 := heap_before (w.alloc (.cells (noteA x sa sc) 47)) (.cells (noteA y ta tc) 47) _ _ hlast
  have q0 : ((w.alloc (.cells (noteA x sa sc) 47)).alloc (.cells (noteA y ta tc) 47)).heap[w.heap.size + 1]? = some (.cells (noteA y ta tc) 47) := by
    have := heap_last (w.alloc (.cells (noteA x sa sc) 47)) (.cells (noteA y ta tc) 47)
    simpa using this
  have hb : Below w.heap.size w ((w.alloc (.cells (noteA x sa sc) 47)).alloc (.cells (noteA y ta tc) 47)) := ((Below.refl _ _).alloc (Nat.le_refl _) _).alloc (by simp) _
  have hp : w.heap.size < ((w.alloc (.cells (noteA x sa sc) 47)).alloc (.cells (noteA y ta tc) 47)).heap.size := by simp; omega
  have hq : w.heap.size + 1 < ((w.alloc (.cells (noteA x sa sc) 47)).alloc (.cells (noteA y ta tc) 47)).heap.size := by simp
  clear hlast
  have H1 := Lib.hid p0; clear p0
  have H2 := Lib.hid q0; clear q0
  have HB := Lib.hid hb; clear hb
  have HP := Lib.hid hp; clear hp
  have HQ := Lib.hid hq; clear hq
  have hbx := hx.below HB.out
  have hby := hy.below HB.out
  have hu := Tryz.underlying47
  go_enter Tryz.func122, Tryz.ntmps122
  go_upto_region 2 with fail
  generalize (w.alloc (.cells (noteA x sa sc) 47)).alloc (.cells (noteA y ta tc) 47) = W at *
  generalize hpe : w.heap.size = p at *
  generalize hqe : p + 1 = q at *
  have HPE := Lib.hid hpe; clear hpe
  have HQE := Lib.hid hqe; clear hqe
  have hC0 : Below W.heap.size W W.drew := (Below.refl _ _).drew
  have HX := Lib.hid (show ∀ w0, Below W.heap.size W w0 → w0.heap[p]? = some (.cells (noteA x sa sc) 47 (0, 0)) from fun w0 h => (h.block p HP.out).trans H1.out)
  have HY := Lib.hid (show ∀ w0, Below W.heap.size W w0 → w0.heap[q]? = some (.cells (noteA y ta tc) 47 (0, 0)) from fun w0 h => (h.block q HQ.out).trans H2.out)
  have hZ : p ≤ W.heap.size := Nat.le_of_lt HP.out
  refine wp_region_quiet (C := fun w' : World => Below W.heap.size W w') (by kernel_rfl) (by kernel_rfl) hC0 ?_
  show wpQuiet _ _ _ _ (_ :: _) _
  go_big_quiet_want
  go_big_quiet_op
  go_big_quiet_on
  go_big_quiet_want
  refine ⟨.agg (noteA x sa sc), fun w0 hC => quiet_load43 (.tmp 2) rfl p rfl x sa sc (HX.out w0 hC), ?_⟩
  simp only [Act.put, lq3, lq4, lq5]
  go_big_quiet_on
  go_big_quiet_want
  refine ⟨.agg (numsA x), fun w0 hC => ?_, ?_⟩
  · go_simp
    refine (numbers_any x sa sc _).mono ?_; rintro e w1 ⟨rfl, b1⟩; exact ⟨rfl, hC.trans (b1.mono hC.size)⟩
  simp only [Act.put, lq3, lq4, lq5]
  go_big_quiet_on
  go_big_quiet_want
  go_big_quiet_op
  go_big_quiet_on
  go_big_quiet_want
  refine ⟨.agg (noteA y ta tc), fun w0 hC => quiet_load43 (.tmp 3) rfl q rfl y ta tc (HY.out w0 hC), ?_⟩
  simp only [Act.put, lq3, lq4, lq5]
  go_big_quiet_on
  go_big_quiet_want
  refine ⟨.agg (numsA y), fun w0 hC => ?_, ?_⟩
  · go_simp
    refine (numbers_any y ta tc _).mono ?_; rintro e w1 ⟨rfl, b1⟩; exact ⟨rfl, hC.trans (b1.mono hC.size)⟩
  simp only [Act.put, lq3, lq4, lq5]
  go_big_quiet_on
  go_big_quiet_want
  refine ⟨.bool (decide (nums14 x = nums14 y)), fun w0 hC => ?_, ?_⟩
  · clear hC
    go_simp
  simp only [Act.put, lq3, lq4, lq5]
  go_big_quiet_on
  cases hn : decide (nums14 x = nums14 y)
  · have hR : sameB x y = false := by simp only [sameB, hn, Bool.false_and]
    have HR := Lib.hid hR; clear hR
    go_big_quiet_want
    go_big_quiet_op
    go_big_quiet_on
    go_big_quiet_skip
    go_big_quiet_skip
    go_big_quiet_skip
    go_big_quiet_skip
    go_big_quiet_skip
    go_big_quiet_want
    refine ⟨.bool false, fun w0 hC => ?_, ?_⟩
    · clear hC
      go_simp
    simp only [Act.put, lq3, lq4, lq5]
    go_big_quiet_on
    go_big_quiet_want
    go_big_quiet_op
    go_big_quiet_on
    go_big_quiet_skip
    go_big_quiet_skip
    go_big_quiet_skip
    go_big_quiet_skip
    go_big_quiet_skip
    go_big_quiet_want
    refine ⟨.bool false, fun w0 hC => ?_, ?_⟩
    · clear hC
      go_simp
    simp only [Act.put, lq3, lq4, lq5]
    go_big_quiet_on
    go_big_quiet_want
    go_big_quiet_op
    go_big_quiet_on
    go_big_quiet_skip
    go_big_quiet_skip
    go_big_quiet_skip
    go_big_quiet_skip
    go_big_quiet_skip
    go_big_quiet_want
    refine ⟨.bool false, fun w0 hC => ?_, ?_⟩
    · clear hC
      go_simp
    simp only [Act.put, lq3, lq4, lq5]
    go_big_quiet_on
    go_big_quiet_want
    go_big_quiet_op
    go_big_quiet_on
    refine wpQuiet_nil ?_
    intro w' hC
    go_wp2_with fail
    go_ret
    rw [HR.out]
    exact ⟨rfl, by rw [HPE.out]; exact HB.out.trans (hC.mono hZ)⟩
  · have HN := Lib.hid hn
    clear hn
    go_big_quiet_want
    go_big_quiet_op
    go_big_quiet_on
    go_big_quiet_want
    refine ⟨.pointer (some ⟨p, 8, none⟩), fun w0 hC => ?_, ?_⟩
    · clear hC
      go_simp
    simp only [Act.put, lq3, lq4, lq5]
    go_big_quiet_on
    go_big_quiet_want
    refine ⟨.agg #[.int .i64 x.hardLo, .int .i64 x.hardHi], fun w0 hC => ?_, ?_⟩
    · have c8 := note_cells (HX.out w0 hC) 8 _ rfl; simp only [Nat.zero_add] at c8; have c9 := note_cells (HX.out w0 hC) 9 _ rfl; simp only [Nat.zero_add] at c9
      clear hC
      go_simp
    simp only [Act.put, lq3, lq4, lq5]
    go_big_quiet_on
    go_big_quiet_want
    refine ⟨.pointer (some ⟨q, 8, none⟩), fun w0 hC => ?_, ?_⟩
    · clear hC
      go_simp
    simp only [Act.put, lq3, lq4, lq5]
    go_big_quiet_on
    go_big_quiet_want
    refine ⟨.agg #[.int .i64 y.hardLo, .int .i64 y.hardHi], fun w0 hC => ?_, ?_⟩
    · have c8 := note_cells (HY.out w0 hC) 8 _ rfl; simp only [Nat.zero_add] at c8; have c9 := note_cells (HY.out w0 hC) 9 _ rfl; simp only [Nat.zero_add] at c9
      clear hC
      go_simp
    simp only [Act.put, lq3, lq4, lq5]
    go_big_quiet_on
    go_big_quiet_want
    refine ⟨.bool (decide (x.hardLo = y.hardLo ∧ x.hardHi = y.hardHi)), fun w0 hC => ?_, ?_⟩
    · clear hC
      go_simp
      by_cases h1 : x.hardLo = y.hardLo <;> by_cases h2 : x.hardHi = y.hardHi <;> simp [h1, h2]
    simp only [Act.put, lq3, lq4, lq5]
    go_big_quiet_on
    cases hh : decide (x.hardLo = y.hardLo ∧ x.hardHi = y.hardHi)
    · have hR : sameB x y = false := by simp only [sameB, hh, Bool.false_and, Bool.and_false]
      have HR := Lib.hid hR; clear hR hh
      go_big_quiet_want
      refine ⟨.bool false, fun w0 hC => ?_, ?_⟩
      · clear hC
        go_simp
      simp only [Act.put, lq3, lq4, lq5]
      go_big_quiet_on
      go_big_quiet_want
      go_big_quiet_op
      go_big_quiet_on
      go_big_quiet_skip
      go_big_quiet_skip
      go_big_quiet_skip
      go_big_quiet_skip
      go_big_quiet_skip
      go_big_quiet_want
      refine ⟨.bool false, fun w0 hC => ?_, ?_⟩
      · clear hC
        go_simp
      simp only [Act.put, lq3, lq4, lq5]
      go_big_quiet_on
      go_big_quiet_want
      go_big_quiet_op
      go_big_quiet_on
      go_big_quiet_skip
      go_big_quiet_skip
      go_big_quiet_skip
      go_big_quiet_skip
      go_big_quiet_skip
      go_big_quiet_want
      refine ⟨.bool false, fun w0 hC => ?_, ?_⟩
      · clear hC
        go_simp
      simp only [Act.put, lq3, lq4, lq5]
      go_big_quiet_on
      go_big_quiet_want
      go_big_quiet_op
      go_big_quiet_on
      refine wpQuiet_nil ?_
      intro w' hC
      go_wp2_with fail
      go_ret
      rw [HR.out]
      exact ⟨rfl, by rw [HPE.out]; exact HB.out.trans (hC.mono hZ)⟩
    · have HH := Lib.hid hh
      clear hh
      go_big_quiet_want
      refine ⟨.bool true, fun w0 hC => ?_, ?_⟩
      · clear hC
        go_simp
      simp only [Act.put, lq3, lq4, lq5]
      go_big_quiet_on
      go_big_quiet_want
      go_big_quiet_op
      go_big_quiet_on
      go_big_quiet_want
      refine ⟨.pointer (some ⟨p, 10, none⟩), fun w0 hC => ?_, ?_⟩
      · clear hC
        go_simp
      simp only [Act.put, lq3, lq4, lq5]
      go_big_quiet_on
      go_big_quiet_want
      refine ⟨.agg #[.int .i64 x.diffLo, .int .i64 x.diffHi], fun w0 hC => ?_, ?_⟩
      · have c10 := note_cells (HX.out w0 hC) 10 _ rfl; simp only [Nat.zero_add] at c10; have c11 := note_cells (HX.out w0 hC) 11 _ rfl; simp only [Nat.zero_add] at c11
        clear hC
        go_simp
      simp only [Act.put, lq3, lq4, lq5]
      go_big_quiet_on
      go_big_quiet_want
      refine ⟨.pointer (some ⟨q, 10, none⟩), fun w0 hC => ?_, ?_⟩
      · clear hC
        go_simp
      simp only [Act.put, lq3, lq4, lq5]
      go_big_quiet_on
      go_big_quiet_want
      refine ⟨.agg #[.int .i64 y.diffLo, .int .i64 y.diffHi], fun w0 hC => ?_, ?_⟩
      · have c10 := note_cells (HY.out w0 hC) 10 _ rfl; simp only [Nat.zero_add] at c10; have c11 := note_cells (HY.out w0 hC) 11 _ rfl; simp only [Nat.zero_add] at c11
        clear hC
        go_simp
      simp only [Act.put, lq3, lq4, lq5]
      go_big_quiet_on
      go_big_quiet_want
      refine ⟨.bool (decide (x.diffLo = y.diffLo ∧ x.diffHi = y.diffHi)), fun w0 hC => ?_, ?_⟩
      · clear hC
        go_simp
        by_cases h1 : x.diffLo = y.diffLo <;> by_cases h2 : x.diffHi = y.diffHi <;> simp [h1, h2]
      simp only [Act.put, lq3, lq4, lq5]
      go_big_quiet_on
      cases hd : decide (x.diffLo = y.diffLo ∧ x.diffHi = y.diffHi)
      · have hR : sameB x y = false := by simp only [sameB, hd, Bool.false_and, Bool.and_false]
        have HR := Lib.hid hR; clear hR hd
        go_big_quiet_want
        refine ⟨.bool false, fun w0 hC => ?_, ?_⟩
        · clear hC
          go_simp
        simp only [Act.put, lq3, lq4, lq5]
        go_big_quiet_on
        go_big_quiet_want
        go_big_quiet_op
        go_big_quiet_on
        go_big_quiet_skip
        go_big_quiet_skip
        go_big_quiet_skip
        go_big_quiet_skip
        go_big_quiet_skip
        go_big_quiet_want
        refine ⟨.bool false, fun w0 hC => ?_, ?_⟩
        · clear hC
          go_simp
        simp only [Act.put, lq3, lq4, lq5]
        go_big_quiet_on
        go_big_quiet_want
        go_big_quiet_op
        go_big_quiet_on
        refine wpQuiet_nil ?_
        intro w' hC
        go_wp2_with fail
        go_ret
        rw [HR.out]
        exact ⟨rfl, by rw [HPE.out]; exact HB.out.trans (hC.mono hZ)⟩
      · have hR : sameB x y = decide (x.strokes = y.strokes) := by simp only [sameB, HN.out, HH.out, hd, Bool.true_and]
        have HR := Lib.hid hR; clear hR hd
        go_big_quiet_want
        refine ⟨.bool true, fun w0 hC => ?_, ?_⟩
        · clear hC
          go_simp
        simp only [Act.put, lq3, lq4, lq5]
        go_big_quiet_on
        go_big_quiet_want
        go_big_quiet_op
        go_big_quiet_on
        go_big_quiet_want
        refine ⟨.pointer (some ⟨p, 15, none⟩), fun w0 hC => ?_, ?_⟩
        · clear hC
          go_simp
        simp only [Act.put, lq3, lq4, lq5]
        go_big_quiet_on
        go_big_quiet_want
        refine ⟨.slice sa x.strokes.length sc, fun w0 hC => ?_, ?_⟩
        · have c15 := note_cells (HX.out w0 hC) 15 _ rfl; simp only [Nat.zero_add] at c15
          clear hC
          go_simp
        simp only [Act.put, lq3, lq4, lq5]
        go_big_quiet_on
        go_big_quiet_want
        refine ⟨.pointer (some ⟨q, 15, none⟩), fun w0 hC => ?_, ?_⟩
        · clear hC
          go_simp
        simp only [Act.put, lq3, lq4, lq5]
        go_big_quiet_on
        go_big_quiet_want
        refine ⟨.slice ta y.strokes.length tc, fun w0 hC => ?_, ?_⟩
        · have c15 := note_cells (HY.out w0 hC) 15 _ rfl; simp only [Nat.zero_add] at c15
          clear hC
          go_simp
        simp only [Act.put, lq3, lq4, lq5]
        go_big_quiet_on
        go_big_quiet_want
        refine ⟨.bool (decide (x.strokes = y.strokes)), fun w0 hC => ?_, ?_⟩
        · go_simp
          refine (eqInts_any _ _ _ x.strokes _ _ _ y.strokes w0 (hbx.below hC) (hby.below hC)).mono ?_; rintro e w1 ⟨b, rfl, hb, q1, rfl⟩; exact ⟨by rw [show b = decide (x.strokes = y.strokes) from Bool.eq_iff_iff.2 (hb.trans decide_eq_true_iff.symm)], hC.trans (below_drewN (Below.refl _ _) q1)⟩
        simp only [Act.put, lq3, lq4, lq5]
        go_big_quiet_on
        go_big_quiet_want
        refine ⟨.bool (decide (x.strokes = y.strokes)), fun w0 hC => ?_, ?_⟩
        · clear hC
          go_simp
        simp only [Act.put, lq3, lq4, lq5]
        go_big_quiet_on
        go_big_quiet_want
        go_big_quiet_op
        go_big_quiet_on
        refine wpQuiet_nil ?_
        intro w' hC
        go_wp2_with fail
        go_ret
        rw [HR.out]
        exact ⟨rfl, by rw [HPE.out]; exact HB.out.trans (hC.mono hZ)⟩
end Go.Proofs.YtlnhppgfhkkidaaGreat
namespace Go.Proofs.YtlnhppgfhkkidaaGreat
open Go.RowKit
section
attribute [local go_sem] noteA_0 noteA_1 noteA_2 noteA_3 noteA_4 noteA_5 noteA_6 noteA_7 noteA_8 noteA_9 noteA_10 noteA_11 noteA_12 noteA_13 noteA_14 noteA_15 noteA_16 noteA_17 noteA_18
variable (n : NoteV) (sa : Option Addr) (sc : Nat) (w : World)
theorem content1 : Calls Tryz.prog 199 #[.int .i64 1, .agg (noteA n sa sc)] w fun e w' => e = .returned (.iface 258 (.agg #[.int .i64 n.hardLo, .int .i64 n.hardHi])) ∧ Below w.heap.size w w' := by
  have hb := (Below.refl w.heap.size w).alloc (Nat.le_refl _) (.cells (noteA n sa sc) 47)
  go_enter Tryz.func199, Tryz.ntmps199
  go_wp2_with fail
  go_ret
  exact ⟨rfl, hb⟩
theorem content2 : Calls Tryz.prog 199 #[.int .i64 2, .agg (noteA n sa sc)] w fun e w' => e = .returned (.iface 261 (.agg #[.int .i64 n.turns])) ∧ Below w.heap.size w w' := by
  have hb := (Below.refl w.heap.size w).alloc (Nat.le_refl _) (.cells (noteA n sa sc) 47)
  go_enter Tryz.func199, Tryz.ntmps199
  go_wp2_with fail
  go_ret
  exact ⟨rfl, hb⟩
theorem content3 : Calls Tryz.prog 199 #[.int .i64 3, .agg (noteA n sa sc)] w fun e w' => e = .returned (.iface 263 (.agg #[.int .i64 n.stone, .int .i64 n.a, .int .i64 n.b])) ∧ Below w.heap.size w w' := by
  have hb := (Below.refl w.heap.size w).alloc (Nat.le_refl _) (.cells (noteA n sa sc) 47)
  go_enter Tryz.func199, Tryz.ntmps199
  go_wp2_with fail
  go_ret
  exact ⟨rfl, hb⟩
theorem content4 : Calls Tryz.prog 199 #[.int .i64 4, .agg (noteA n sa sc)] w fun e w' => e = .returned (.iface 266 (.agg #[.int .i64 n.stone, .int .i64 n.ring])) ∧ Below w.heap.size w w' := by
  have hb := (Below.refl w.heap.size w).alloc (Nat.le_refl _) (.cells (noteA n sa sc) 47)
  go_enter Tryz.func199, Tryz.ntmps199
  go_wp2_with fail
  go_ret
  exact ⟨rfl, hb⟩
theorem content5 : Calls Tryz.prog 199 #[.int .i64 5, .agg (noteA n sa sc)] w fun e w' => e = .returned (.iface 269 (.agg #[.int .i64 n.refH, .int .i64 n.refN])) ∧ Below w.heap.size w w' := by
  have hb := (Below.refl w.heap.size w).alloc (Nat.le_refl _) (.cells (noteA n sa sc) 47)
  go_enter Tryz.func199, Tryz.ntmps199
  go_wp2_with fail
  go_ret
  exact ⟨rfl, hb⟩
theorem content6 : Calls Tryz.prog 199 #[.int .i64 6, .agg (noteA n sa sc)] w fun e w' => e = .returned (.iface 269 (.agg #[.int .i64 n.refH, .int .i64 n.refN])) ∧ Below w.heap.size w w' := by
  have hb := (Below.refl w.heap.size w).alloc (Nat.le_refl _) (.cells (noteA n sa sc) 47)
  go_enter Tryz.func199, Tryz.ntmps199
  go_wp2_with fail
  go_ret
  exact ⟨rfl, hb⟩
theorem content0 (k : Int) (h : ¬ (1 ≤ k ∧ k ≤ 6)) : Calls Tryz.prog 199 #[.int .i64 k, .agg (noteA n sa sc)] w fun e w' => e = .returned .nilIface ∧ Below w.heap.size w w' := by
  have hb := (Below.refl w.heap.size w).alloc (Nat.le_refl _) (.cells (noteA n sa sc) 47)
  have q1 : (k == 1) = false := by simp; omega
  have r1 : decide (k = 1) = false := by simp; omega
  have q2 : (k == 2) = false := by simp; omega
  have r2 : decide (k = 2) = false := by simp; omega
  have q3 : (k == 3) = false := by simp; omega
  have r3 : decide (k = 3) = false := by simp; omega
  have q4 : (k == 4) = false := by simp; omega
  have r4 : decide (k = 4) = false := by simp; omega
  have q5 : (k == 5) = false := by simp; omega
  have r5 : decide (k = 5) = false := by simp; omega
  have q6 : (k == 6) = false := by simp; omega
  have r6 : decide (k = 6) = false := by simp; omega
  clear h
  go_enter Tryz.func199, Tryz.ntmps199
  go_wp2_with fail
  go_ret
  exact ⟨rfl, hb⟩
end
end Go.Proofs.YtlnhppgfhkkidaaGreat
