/- Parts of the proof, in this order: Words for slices in memory, over any program: what a slice reads as, and append, reslicing, conversion to a string in these words; A note: its numbers, its cells; Structs of many cells, whole: a load, and a store into the block that was made last; The cells of a note as one array; loads and stores of whole structs; The functions on bytes below Notch and Join: two, check, Grow, Equal, Clone and Concat of byte slices; The program's small tests of notes: in, rightName, nameOf, valid, cell, spans, strokes; Concat of byte slices; both halves of a tally: Notch of the program and of the reference; comparing lists of byte slices; Short words for the steps of a drawn region (the packed texts use them); General facts on blocks and cells, for the stones; Faces of stones as values: the plain mirror of the program; slices.ContainsFunc of ints; within, kind, around, index, cellOf, has, asked of stones; Neighbours, plain: a list sorted, each number once; Neighbours are neighbours of one another: the plain law; has and asked of stones; Blocks made one after the other; Cells and indices: the plain law of StonesPlaces; asked, weight, Weight, Index, At of stones; strconv.Atoi, Itoa, strings.Cut, Split, IndexByte of the library, laid at this program; WriteByte, WriteString and String of the library's Builder, laid at this program; Faces as texts, plain. -/
import Derived.WalkKit
import Derived.WalkSpells
import Derived.WalkLawsBesides
import Derived.Laws.AppendOwnNone
import Derived.Lib.Hide
import Derived.Deep.MidRow
import Derived.Deep.WholeRow
import Derived.Test.YtimmadkbkimonaaGreatDoorProg
import Derived.Lib.AppendZerosOnto
import Derived.Lib.Walk
import Derived.Deep.QuietTactic
import Derived.BigQuiet
import Derived.Handy
import Derived.Deep.RegionHeld3
import Derived.Laws.Rows
import Derived.IntWalk
import Derived.Deep.Cut
import Derived.Laws.Tables
import Derived.Lib.SlicesCompact
import Derived.Shelf.Strconv.AtoiAll
import Derived.Shelf.Strconv.Itoa3
import Derived.Shelf.Strings.SplitShaped
import Derived.Shelf.Strings.Cut
import Derived.Shelf.Small.Strs
import Derived.Shelf.LaysM
import Derived.Ground.Names2Prog
import Derived.Shelf.Strings.BuilderK
import Derived.Ground.NamesProg
set_option linter.unusedSimpArgs false
set_option linter.unusedVariables false
open List renaming getElem_toArray → lq0, getElem_cons_succ → lq1, getElem_cons_zero → lq2, setIfInBounds_toArray → lq3, set_cons_zero → lq4, set_cons_succ → lq5
namespace Go.Proofs.YtimmadkbkimonaaGreatDoor
open Go.RowKit

def RdA (w : World) (k : Nat) (a : Option Addr) (n c : Nat) (xs : List Value) : Prop :=
  xs.length = n * k ∧ n ≤ c ∧ c ≤ maxLen ∧ (c = 0 ∨ ∃ b off, a = some ⟨b, off, none⟩ ∧ ∀ i x, xs[i]? = some x → w.cell? ⟨b, off + i, none⟩ = some x)

theorem RdA.len {w : World} {k : Nat} {a : Option Addr} {n c : Nat} {xs : List Value} (h : RdA w k a n c xs) : xs.length = n * k := h.1
theorem RdA.le {w : World} {k : Nat} {a : Option Addr} {n c : Nat} {xs : List Value} (h : RdA w k a n c xs) : n ≤ c := h.2.1
theorem RdA.max {w : World} {k : Nat} {a : Option Addr} {n c : Nat} {xs : List Value} (h : RdA w k a n c xs) : c ≤ maxLen := h.2.2.1
theorem RdA.maxn {w : World} {k : Nat} {a : Option Addr} {n c : Nat} {xs : List Value} (h : RdA w k a n c xs) : n ≤ 9223372036854775807 := by
  have h1 := h.2.1; have h2 := h.2.2.1; unfold maxLen at h2; omega
theorem RdA.nil (w : World) (k : Nat) : RdA w k none 0 0 [] := ⟨by simp, Nat.le_refl _, Nat.zero_le _, .inl rfl⟩

theorem RdA.at {w : World} {k : Nat} {a : Option Addr} {n c : Nat} {xs : List Value} (h : RdA w k a n c xs) (hn : 0 < n) :
    ∃ b off, a = some ⟨b, off, none⟩ ∧ ∀ i x, xs[i]? = some x → w.cell? ⟨b, off + i, none⟩ = some x := by
  rcases h.2.2.2 with hc | h4
  · have := h.2.1; omega
  · exact h4

theorem RdA.below {w w' : World} {k : Nat} {a : Option Addr} {n c : Nat} {xs : List Value} (h : RdA w k a n c xs) (hb : Below w.heap.size w w') : RdA w' k a n c xs := by
  refine ⟨h.1, h.2.1, h.2.2.1, ?_⟩
  rcases h.2.2.2 with h4 | ⟨b, off, rfl, h4⟩
  · exact .inl h4
  · refine .inr ⟨b, off, rfl, fun i x hx => ?_⟩
    have h5 := h4 i x hx
    exact (hb.cell (p := ⟨b, off + i, none⟩) (World.block_lt_of_cell? w _ h5)).trans h5

theorem RdA.of_cells {w w' : World} {k : Nat} {a : Option Addr} {n c : Nat} {xs : List Value} (h : RdA w k a n c xs)
    (hb : ∀ b, (∃ off, a = some ⟨b, off, none⟩) → b < w.heap.size → w'.heap[b]? = w.heap[b]?) : RdA w' k a n c xs := by
  refine ⟨h.1, h.2.1, h.2.2.1, ?_⟩
  rcases h.2.2.2 with h4 | ⟨b, off, rfl, h4⟩
  · exact .inl h4
  · refine .inr ⟨b, off, rfl, fun i x hx => ?_⟩
    have h5 := h4 i x hx
    exact (World.cell?_of_block (a := ⟨b, off + i, none⟩) (hb b ⟨off, rfl⟩ (World.block_lt_of_cell? w _ h5))).trans h5

theorem RdA.of_own {w : World} {base : Nat} {e : TypeId} {k : Nat} {a : Option Addr} {n c : Nat} {xs : List Value} (h : w.ownsRow base e k (.slice a n c) n xs) : RdA w k a n c xs := by
  obtain ⟨h1, h2⟩ := h
  rcases h2 with ⟨h2, rfl⟩ | ⟨g, cap, cur, hv, _, hg, hn, hc, hs, ht⟩
  · simp only [Value.slice.injEq] at h2
    obtain ⟨rfl, _, rfl⟩ := h2
    exact ⟨h1, Nat.le_refl _, Nat.zero_le _, .inl rfl⟩
  · simp only [Value.slice.injEq] at hv
    obtain ⟨rfl, _, rfl⟩ := hv
    refine ⟨h1, hn, hc, .inr ⟨g, 0, rfl, fun i x hx => ?_⟩⟩
    rw [cell_of_row w g (0 + i) cur e (0, 0) hg]
    rw [← ht, List.getElem?_take] at hx
    split at hx
    · simpa using hx
    · cases hx

section
variable {P : Program} (w : World)

theorem run_append_rd (base : Nat) (t ty e : TypeId) (i : TypeInfo) (z : Value) (size bytes : Nat) (ht : P.underlying t = some (.slice e)) (hi : P.info? e = some i) (hz : i.zero = some z)
    (hsize : i.size = size) (hby : i.bytes = bytes) (hzs : z.cells.size = size) (hsz : 0 < size)
    (sa : Option Addr) (sn sc : Nat) (xs : List Value) (hown : w.ownsRow base e size (.slice sa sn sc) sn xs)
    (xa : Option Addr) (m xc : Nat) (ys : List Value) (hrd : RdA w size xa m xc ys) (h1 : ∀ u ∈ ys, u.oneCell' = true)
    (h63 : sn + m ≤ maxLen) (hbytes : (sn + m) * bytes ≤ 140737488355328) (hbase : base ≤ w.heap.size) :
    ∃ a' c' w', (Builtin.append_ #[t, t] ty #[.slice sa sn sc, .slice xa m xc]).run P w = .ok (.slice a' (sn + m) c') w' ∧ w'.ownsRow base e size (.slice a' (sn + m) c') (sn + m) (xs ++ ys) ∧ w.grownBy w' (Value.ownBlock (.slice sa sn sc)) := by
  have hshape : ∀ (w' : World) (v : Value) (n : Nat) (zs : List Value), w'.ownsRow base e size v n zs → ∃ a c, v = .slice a n c := by
    intro w' v n zs h
    rcases h.2 with ⟨rfl, rfl⟩ | ⟨g, cap, cur, rfl, _⟩
    · exact ⟨_, _, rfl⟩
    · exact ⟨_, _, rfl⟩
  rcases hrd.2.2.2 with rfl | ⟨b, off, rfl, h4⟩
  · have hm : m = 0 := by have := hrd.2.1; omega
    subst hm
    have hy : ys = [] := List.eq_nil_of_length_eq_zero (by simpa using hrd.1)
    subst hy
    cases xa with
    | none =>
      refine ⟨sa, sc, w, ?_, by simpa using hown, World.grownBy.refl _ _⟩
      simpa using run_append_owned_none (P := P) (w := w) base t ty e i size ht hi _ sn xs hown
    | some ad =>
      obtain ⟨v', w', hr, ho, hg, _⟩ := run_append_own (P := P) w base t ty e i z size bytes ht hi hz hsize hby hzs hsz _ sn xs hown ad 0 0 [] (by simp)
        (fun j u hu => by simp at hu) h1 h63 hbytes hbase
      obtain ⟨a', c', rfl⟩ := hshape _ _ _ _ ho
      exact ⟨a', c', w', hr, ho, hg⟩
  · obtain ⟨v', w', hr, ho, hg, _⟩ := run_append_own (P := P) w base t ty e i z size bytes ht hi hz hsize hby hzs hsz _ sn xs hown ⟨b, off, none⟩ m xc ys hrd.1
      (fun j u hu => by rw [Addr.add_lit]; exact h4 j u hu) h1 h63 hbytes hbase
    obtain ⟨a', c', rfl⟩ := hshape _ _ _ _ ho
    exact ⟨a', c', w', hr, ho, hg⟩

theorem wpList_append_rd {ops : Array Oper} {rest : List Oper} {o : Oper} {a : Act} {Q : Exit → Act → World → Prop} (hgd : o.guard = none) (s x : Operand) (t : TypeId)
    (ho : o.op = .call { callee := .builtin .append, args := #[s, x], argTypes := #[t, t] })
    (base : Nat) (e : TypeId) (i : TypeInfo) (z : Value) (size bytes : Nat) (ht : P.underlying t = some (.slice e)) (hi : P.info? e = some i) (hz : i.zero = some z)
    (hsize : i.size = size) (hby : i.bytes = bytes) (hzs : z.cells.size = size) (hsz : 0 < size)
    (sa : Option Addr) (sn sc : Nat) (xs : List Value) (hs : a.eval s = .slice sa sn sc) (hown : w.ownsRow base e size (.slice sa sn sc) sn xs)
    (xa : Option Addr) (m xc : Nat) (ys : List Value) (hx : a.eval x = .slice xa m xc) (hrd : RdA w size xa m xc ys) (h1 : ∀ u ∈ ys, u.oneCell' = true)
    (h63 : sn + m ≤ maxLen) (hbytes : (sn + m) * bytes ≤ 140737488355328) (hbase : base ≤ w.heap.size)
    (h : ∀ a' c' w', w'.ownsRow base e size (.slice a' (sn + m) c') (sn + m) (xs ++ ys) → w.grownBy w' (Value.ownBlock (.slice sa sn sc)) → wpList P ops Q rest (a.put o.dst (.slice a' (sn + m) c')) w') : wpList P ops Q (o :: rest) a w := by
  refine wpList_plain hgd fun K hK => ?_
  obtain ⟨a', c', w', hr, h2, h3⟩ := run_append_rd (P := P) w base t o.type e i z size bytes ht hi hz hsize hby hzs hsz sa sn sc xs hown xa m xc ys hrd h1 h63 hbytes hbase
  unfold Oper.wp
  simp [execOp, ho, resolve, invoke, builtin, hs, hx, hr, Result.andThen]
  exact hK _ _ (h a' c' w' h2 h3)

end

def byteV (b : UInt8) : Value := .int .u8 b.toNat
def RdB (w : World) (a : Option Addr) (n c : Nat) (l : List UInt8) : Prop := RdA w 1 a n c (l.map byteV)
theorem RdB.len {w : World} {a : Option Addr} {n c : Nat} {l : List UInt8} (h : RdB w a n c l) : l.length = n := by simpa using h.1
theorem RdB.below {w w' : World} {a : Option Addr} {n c : Nat} {l : List UInt8} (h : RdB w a n c l) (hb : Below w.heap.size w w') : RdB w' a n c l := RdA.below h hb
theorem RdB.at {w : World} {a : Option Addr} {n c : Nat} {l : List UInt8} (h : RdB w a n c l) (hn : 0 < n) :
    ∃ b off, a = some ⟨b, off, none⟩ ∧ ∀ i, i < n → w.cell? ⟨b, off + i, none⟩ = some (.int .u8 ((l[i]?.getD 0).toNat : Int)) := by
  obtain ⟨b, off, rfl, h4⟩ := RdA.at h hn
  refine ⟨b, off, rfl, fun i hi => h4 i _ ?_⟩
  have := h.len
  simp [byteV, List.getElem?_map, List.getElem?_eq_getElem (show i < l.length by omega)]

end Go.Proofs.YtimmadkbkimonaaGreatDoor
namespace Go.Proofs.YtimmadkbkimonaaGreatDoor
open Go.RowKit

def intV (z : Int) : Value := .int .i64 z
theorem intV_one (l : List Int) : ∀ u ∈ l.map intV, u.oneCell' = true := by
  intro u hu
  obtain ⟨_, _, rfl⟩ := List.mem_map.1 hu
  rfl
def I64 (z : Int) : Prop := -9223372036854775808 ≤ z ∧ z ≤ 9223372036854775807
def RdI (w : World) (a : Option Addr) (n c : Nat) (l : List Int) : Prop := RdA w 1 a n c (l.map intV)
theorem RdI.len {w : World} {a : Option Addr} {n c : Nat} {l : List Int} (h : RdI w a n c l) : l.length = n := by simpa using h.1
theorem RdI.below {w w' : World} {a : Option Addr} {n c : Nat} {l : List Int} (h : RdI w a n c l) (hb : Below w.heap.size w w') : RdI w' a n c l := RdA.below h hb
theorem RdI.maxn {w : World} {a : Option Addr} {n c : Nat} {l : List Int} (h : RdI w a n c l) : n ≤ 9223372036854775807 := RdA.maxn h
theorem RdI.at {w : World} {a : Option Addr} {n c : Nat} {l : List Int} (h : RdI w a n c l) (hn : 0 < n) :
    ∃ b off, a = some ⟨b, off, none⟩ ∧ ∀ i, i < n → w.cell? ⟨b, off + i, none⟩ = some (.int .i64 (l[i]?.getD 0)) := by
  obtain ⟨b, off, rfl, h4⟩ := RdA.at h hn
  refine ⟨b, off, rfl, fun i hi => h4 i _ ?_⟩
  have := h.len
  simp [intV, List.getElem?_map, List.getElem?_eq_getElem (show i < l.length by omega)]

structure NoteV where
  house : Int
  num : Int
  clock : Int
  day : Int
  kind : Int
  stone : Int
  heap : Int
  turns : Int
  hardLo : Int
  hardHi : Int
  diffLo : Int
  diffHi : Int
  a : Int
  b : Int
  ring : Int
  refH : Int
  refN : Int
  fix : Int
  strokes : List Int
deriving Inhabited

def NoteV.cells (n : NoteV) (sa : Option Addr) (sc : Nat) : List Value :=
  [.int .i64 n.house, .int .i64 n.num, .int .i64 n.clock, .int .i64 n.day, .int .i64 n.kind, .int .i64 n.stone, .int .i64 n.heap, .int .i64 n.turns, .int .i64 n.hardLo, .int .i64 n.hardHi, .int .i64 n.diffLo, .int .i64 n.diffHi, .int .i64 n.a, .int .i64 n.b, .int .i64 n.ring, .slice sa n.strokes.length sc, .int .i64 n.refH, .int .i64 n.refN, .int .i64 n.fix]
theorem NoteV.cells_one (n : NoteV) (sa : Option Addr) (sc : Nat) : ∀ v ∈ n.cells sa sc, v.oneCell' = true := by
  intro v hv
  simp only [NoteV.cells, List.mem_cons, List.not_mem_nil, or_false] at hv
  rcases hv with rfl | rfl | rfl | rfl | rfl | rfl | rfl | rfl | rfl | rfl | rfl | rfl | rfl | rfl | rfl | rfl | rfl | rfl | rfl <;> rfl
structure NoteV.Ok (n : NoteV) : Prop where
  house : I64 n.house
  num : I64 n.num
  clock : I64 n.clock
  day : I64 n.day
  kind : I64 n.kind
  stone : I64 n.stone
  heap : I64 n.heap
  turns : I64 n.turns
  hardLo : I64 n.hardLo
  hardHi : I64 n.hardHi
  diffLo : I64 n.diffLo
  diffHi : I64 n.diffHi
  a : I64 n.a
  b : I64 n.b
  ring : I64 n.ring
  refH : I64 n.refH
  refN : I64 n.refN
  fix : I64 n.fix
  strokes : ∀ z ∈ n.strokes, I64 z
def RdNote (w : World) (cs : List Value) (n : NoteV) : Prop := ∃ sa sc, cs = n.cells sa sc ∧ RdI w sa n.strokes.length sc n.strokes ∧ n.Ok
theorem RdNote.below {w w' : World} {cs : List Value} {n : NoteV} (h : RdNote w cs n) (hb : Below w.heap.size w w') : RdNote w' cs n := by
  obtain ⟨sa, sc, h1, h2, h3⟩ := h
  exact ⟨sa, sc, h1, h2.below hb, h3⟩
theorem RdNote.len {w : World} {cs : List Value} {n : NoteV} (h : RdNote w cs n) : cs.length = 19 := by
  obtain ⟨sa, sc, rfl, _⟩ := h
  rfl
theorem RdNote.one {w : World} {cs : List Value} {n : NoteV} (h : RdNote w cs n) : ∀ v ∈ cs, v.oneCell' = true := by
  obtain ⟨sa, sc, rfl, _⟩ := h
  exact n.cells_one sa sc
end Go.Proofs.YtimmadkbkimonaaGreatDoor
namespace Go.Proofs.YtimmadkbkimonaaGreatDoor
open Go.RowKit

theorem wpList_store_new {P : Program} {ops : Array Oper} {rest : List Oper} {op : Oper} {a : Act} {Q : Exit → Act → World → Prop} (w : World) (hgd : op.guard = none) (ty : TypeId) (x y : Operand) (ho : op.op = .store ty x y)
    (c c' : Array Value) (hx : a.eval x = .pointer (some ⟨w.heap.size, 0, none⟩)) (hy : a.eval y = .agg c') (hi : (P.info? ty).map (·.size) = some c'.size) (hc : c.size = c'.size) (h1 : c'.all (·.oneCell') = true)
    (h : wpList P ops Q rest (a.put op.dst undef) (w.alloc (.cells c' ty))) : wpList P ops Q (op :: rest) a (w.alloc (.cells c ty)) := by
  refine wpList_plain hgd fun K hK => ?_
  unfold Oper.wp execOp
  simp only [ho, hx, hy, run_storeAt_new w ty c c' hi hc h1, Sem.run_bind, Sem.run_pure, Result.andThen_ok]
  exact hK _ _ h

end Go.Proofs.YtimmadkbkimonaaGreatDoor
namespace Go.Proofs.YtimmadkbkimonaaGreatDoor
open Go.RowKit

def noteA (n : NoteV) (sa : Option Addr) (sc : Nat) : Array Value := (n.cells sa sc).toArray
section
variable (n : NoteV) (sa : Option Addr) (sc : Nat)
theorem noteA_0 : (noteA n sa sc)[0]? = some (.int .i64 n.house) := rfl
theorem noteA_1 : (noteA n sa sc)[1]? = some (.int .i64 n.num) := rfl
end
section
variable {P : Program} {ops : Array Oper} {rest : List Oper} {op : Oper} {a : Act} {Q : Exit → Act → World → Prop}
end
end Go.Proofs.YtimmadkbkimonaaGreatDoor
namespace Go.Proofs.YtimmadkbkimonaaGreatDoor
open Go.RowKit

theorem infoByte : (Tryz.prog.info? 5).map (fun i => (i.zero, i.size, i.bytes)) = some (some (.int .u8 0), 1, 1) := by kernel_rfl

end Go.Proofs.YtimmadkbkimonaaGreatDoor
namespace Go.Proofs.YtimmadkbkimonaaGreatDoor
open Go.RowKit

def inB (x lo hi : Int) : Bool := decide (lo ≤ x) && decide (x ≤ hi)
theorem inB_true {x lo hi : Int} : inB x lo hi = true ↔ lo ≤ x ∧ x ≤ hi := by simp [inB]
theorem inB_false {x lo hi : Int} : inB x lo hi = false ↔ ¬ (lo ≤ x ∧ x ≤ hi) := by rw [← inB_true]; simp

structure FrV where
  rings : Int
  sectors : Int
  wide : Int
def FrV.val (f : FrV) : Value := .agg #[.int .i64 f.rings, .int .i64 f.sectors, .int .i64 f.wide]
def FrV.valid (f : FrV) : Bool := inB f.rings 1 24 && (inB f.sectors 2 96 && inB f.wide 1 f.sectors)

section
attribute [local go_sem] noteA_0 noteA_1
end
end Go.Proofs.YtimmadkbkimonaaGreatDoor
namespace Go.Proofs.YtimmadkbkimonaaGreatDoor
open Go.RowKit

def RdBB (w : World) (a : Option Addr) (n c : Nat) (ls : List (List UInt8)) : Prop :=
  ∃ vs : List Value, RdA w 1 a n c vs ∧ ls.length = n ∧ ∀ i, i < n → ∃ ai ci, vs[i]? = some (.slice ai (ls[i]?.getD []).length ci) ∧ RdB w ai (ls[i]?.getD []).length ci (ls[i]?.getD [])

theorem RdBB.len {w : World} {a : Option Addr} {n c : Nat} {ls : List (List UInt8)} (h : RdBB w a n c ls) : ls.length = n := by obtain ⟨_, _, h, _⟩ := h; exact h
theorem RdBB.maxn {w : World} {a : Option Addr} {n c : Nat} {ls : List (List UInt8)} (h : RdBB w a n c ls) : n ≤ 9223372036854775807 := by obtain ⟨_, h, _⟩ := h; exact h.maxn
theorem RdBB.below {w w' : World} {a : Option Addr} {n c : Nat} {ls : List (List UInt8)} (h : RdBB w a n c ls) (hb : Below w.heap.size w w') : RdBB w' a n c ls := by
  obtain ⟨vs, h1, h2, h3⟩ := h
  refine ⟨vs, h1.below hb, h2, fun i hi => ?_⟩
  obtain ⟨ai, ci, h4, h5⟩ := h3 i hi
  exact ⟨ai, ci, h4, h5.below hb⟩
theorem RdBB.at {w : World} {a : Option Addr} {n c : Nat} {ls : List (List UInt8)} (h : RdBB w a n c ls) (hn : 0 < n) :
    ∃ b off, a = some ⟨b, off, none⟩ ∧ ∀ i, i < n → ∃ ai ci, w.cell? ⟨b, off + i, none⟩ = some (.slice ai (ls[i]?.getD []).length ci) ∧ RdB w ai (ls[i]?.getD []).length ci (ls[i]?.getD []) := by
  obtain ⟨vs, h1, h2, h3⟩ := h
  obtain ⟨b, off, rfl, h4⟩ := h1.at hn
  refine ⟨b, off, rfl, fun i hi => ?_⟩
  obtain ⟨ai, ci, h5, h6⟩ := h3 i hi
  exact ⟨ai, ci, h4 i _ h5, h6⟩
theorem RdBB.nil (w : World) : RdBB w none 0 0 [] := ⟨[], RdA.nil w 1, rfl, fun i hi => by omega⟩

theorem own_mono {w : World} {B base : Nat} {e : TypeId} {k : Nat} {v : Value} {n : Nat} {xs : List Value} (h : w.ownsRow base e k v n xs) (hB : B ≤ base) : w.ownsRow B e k v n xs := by
  refine ⟨h.1, ?_⟩
  rcases h.2 with h | ⟨g, cap, cur, h, hg, hr⟩
  · exact .inl h
  · exact .inr ⟨g, cap, cur, h, by omega, hr⟩
theorem own_below {w w' : World} {base : Nat} {e : TypeId} {k : Nat} {v : Value} {n : Nat} {xs : List Value} (h : w.ownsRow base e k v n xs) (hb : Below w.heap.size w w') : w'.ownsRow base e k v n xs := by
  refine ⟨h.1, ?_⟩
  rcases h.2 with h | ⟨g, cap, cur, h, hg, hgg, hr⟩
  · exact .inl h
  · exact .inr ⟨g, cap, cur, h, hg, (hb.block g (Array.getElem?_eq_some_iff.1 hgg).1).trans hgg, hr⟩

theorem RdB.of_own {w : World} {base : Nat} {e : TypeId} {a : Option Addr} {n c : Nat} {l : List UInt8} (h : w.ownsRow base e 1 (.slice a n c) n (l.map byteV)) : RdB w a n c l := RdA.of_own h

end Go.Proofs.YtimmadkbkimonaaGreatDoor
namespace Go.Proofs.YtimmadkbkimonaaGreatDoor
section
variable {P : Program} {ops : Array Oper} {Q : Exit → Act → World → Prop} {md : Region.Mode} {S : World → Prop} {fuel : Nat} {listed : Array Bool} {a a' : Act} {w : World}
theorem zT (i : Nat) {oi : Oper} (hi : ops[i]? = some oi) (v : Value) (hy : YieldsIf P ops S oi v a) (h : wpAnyH P md ops Q S fuel (listed.setIfInBounds i true) a' w)
    (hs : Region.noSelect ops = true := by kernel_rfl) (hf : Region.free md ops listed i = true := by kernel_rfl) (hr : (Region.ready md ops listed).contains i = true := by kernel_rfl)
    (hQ : ∀ c a w, Q (.panic c) (a.put oi.dst v) w → Q (.panic c) a w := by exact fun _ _ _ h => h) (hS : S w := by assumption)
    (ha : a.put oi.dst v = a' := by first | (simp only [Act.put, List.getElem_toArray, List.getElem_cons_succ, List.getElem_cons_zero, List.setIfInBounds_toArray, List.set_cons_zero, List.set_cons_succ]; rfl) | rfl) :
    wpAnyH P md ops Q S (fuel + 1) listed a w := wpAnyH_take hi hs hf hr hQ hy hS (ha ▸ h)
theorem zW (i : Nat) {oi : Oper} (hi : ops[i]? = some oi) (v : Value) (h : wpAnyH P md ops Q S fuel (listed.setIfInBounds i true) a' w)
    (hs : Region.noSelect ops = true := by kernel_rfl) (hf : Region.free md ops listed i = true := by kernel_rfl) (hr : (Region.ready md ops listed).contains i = true := by kernel_rfl)
    (hQ : ∀ c a w, Q (.panic c) (a.put oi.dst v) w → Q (.panic c) a w := by exact fun _ _ _ h => h) (hS : S w := by assumption) (hy : YieldsIf P ops S oi v a := by exact Or.inl ⟨by kernel_rfl, by intro W _; go_simp⟩)
    (ha : a.put oi.dst v = a' := by first | (simp only [Act.put, List.getElem_toArray, List.getElem_cons_succ, List.getElem_cons_zero, List.setIfInBounds_toArray, List.set_cons_zero, List.set_cons_succ]; rfl) | rfl) :
    wpAnyH P md ops Q S (fuel + 1) listed a w := wpAnyH_take hi hs hf hr hQ hy hS (ha ▸ h)
theorem zS (i : Nat) {oi : Oper} (hi : ops[i]? = some oi) (v : Value) (hq : ∀ W, S W → (execOp a.eval oi).run P W = .ok (.value v) W) (h : wpAnyH P md ops Q S fuel (listed.setIfInBounds i true) a' w)
    (hs : Region.noSelect ops = true := by kernel_rfl) (hf : Region.free md ops listed i = true := by kernel_rfl) (hr : (Region.ready md ops listed).contains i = true := by kernel_rfl)
    (hQ : ∀ c a w, Q (.panic c) (a.put oi.dst v) w → Q (.panic c) a w := by exact fun _ _ _ h => h) (hS : S w := by assumption) (hw : Region.wanted oi (yielded ops a.tmps) = true := by kernel_rfl)
    (ha : a.put oi.dst v = a' := by first | (simp only [Act.put, List.getElem_toArray, List.getElem_cons_succ, List.getElem_cons_zero, List.setIfInBounds_toArray, List.set_cons_zero, List.set_cons_succ]; rfl) | rfl) :
    wpAnyH P md ops Q S (fuel + 1) listed a w := wpAnyH_take hi hs hf hr hQ (.inl ⟨hw, hq⟩) hS (ha ▸ h)
theorem zR (i : Nat) {o : Oper} (ho : ops[i]? = some o)
    (h : ∀ K' : Act → World → Prop, Shut (∀ a w, S w → (S w → wpAnyH P md ops Q S fuel (listed.setIfInBounds i true) a w) → K' a w) → if Region.wanted o (yielded ops a.tmps) = true then Oper.wp P o a w K' Q else K' (a.put o.dst undef) w)
    (hr : Region.ready md ops listed = [i] := by kernel_rfl) : wpAnyH P md ops Q S (fuel + 1) listed a w := wpAnyH_ready hr (by simp) (AllReadyH.cons ho h AllReadyH.nil)
theorem zn {i : Nat} {o : Oper} (h : ∀ K' : Act → World → Prop, Shut (∀ a w, S w → (S w → wpAnyH P md ops Q S fuel (listed.setIfInBounds i true) a w) → K' a w) → if Region.wanted o (yielded ops a.tmps) = true then Oper.wp P o a w K' Q else K' (a.put o.dst undef) w)
    (ho : ops[i]? = some o := by exact rfl) : AllReadyH P md ops Q S fuel listed a w [i] := AllReadyH.cons ho h AllReadyH.nil
theorem zM (rs : List Nat) {i : Nat} {rt : List Nat} {o : Oper} (ho : ops[i]? = some o)
    (h : ∀ K' : Act → World → Prop, Shut (∀ a w, S w → (S w → wpAnyH P md ops Q S fuel (listed.setIfInBounds i true) a w) → K' a w) → if Region.wanted o (yielded ops a.tmps) = true then Oper.wp P o a w K' Q else K' (a.put o.dst undef) w)
    (hs : AllReadyH P md ops Q S fuel listed a w rt) (hr : Region.ready md ops listed = rs := by kernel_rfl) (e : rs = i :: rt := by exact rfl) : wpAnyH P md ops Q S (fuel + 1) listed a w := by
  subst e
  exact wpAnyH_ready hr (by simp) (AllReadyH.cons ho h hs)
theorem zK {K : Act → World → Prop} (hK : Shut (∀ a w, S w → (S w → wpAnyH P md ops Q S fuel listed a w) → K a w)) (hS : S w) (h : S w → wpAnyH P md ops Q S fuel listed a' w)
    (ha : a = a' := by first | (simp only [Act.put, List.getElem_toArray, List.getElem_cons_succ, List.getElem_cons_zero, List.setIfInBounds_toArray, List.set_cons_zero, List.set_cons_succ]; rfl) | rfl) : K a w := by
  subst ha
  exact hK.out _ _ hS h
theorem zD {id : Nat} (S : World → Prop) {Q : Exit → Act → World → Prop} (hS : S w.drew) (h : S w.drew → wpAnyH P .any ops (NoPanic Q) S ops.size (Array.replicate ops.size false) a w.drew) (hm : P.follows .mixedOrders = true := by kernel_rfl) : (Code.region id ops true).wp P Q a w :=
  wp_region_noPanic (wp_region_held_drew hm hS h)
theorem zp {id p : Nat} {c : Obj} {Q : Exit → Act → World → Prop} (hS : w.heap[p]? = some c) (h : w.drew.heap[p]? = some c → wpAnyH P .any ops (NoPanic Q) (fun w' => w'.heap[p]? = some c) ops.size (Array.replicate ops.size false) a w.drew) (hm : P.follows .mixedOrders = true := by kernel_rfl) : (Code.region id ops true).wp P Q a w :=
  wp_region_noPanic (wp_region_held_drew (S := fun w' => w'.heap[p]? = some c) hm hS h)
theorem zE {Q : Exit → Act → World → Prop} (h : Q .normal a w) (hr : Region.ready md ops listed = [] := by kernel_rfl) : wpAnyH P md ops (NoPanic Q) S fuel listed a w := wpAnyH_done hr (NoPanic.normal h) _
theorem zd (w : World) : RowKit.Below w.heap.size w w.drew := (RowKit.Below.refl _ _).drew
theorem zB (w : World) (o : Obj) : RowKit.Below w.heap.size w (w.alloc o) := (RowKit.Below.refl _ _).alloc (Nat.le_refl _) _
end
section
variable {P : Program} {ops : Array Oper} {C : World → Prop} {Q : Act → Prop} {o : Oper} {rest : List Oper} {a a' : Act}
end
end Go.Proofs.YtimmadkbkimonaaGreatDoor
namespace Go.Proofs.YtimmadkbkimonaaGreatDoor
set_option linter.unusedSimpArgs false
set_option linter.unusedVariables false
open Go.RowKit

theorem qblk {w w' : World} {p : Nat} {o : Obj} (hg : Below w.heap.size w w') (h : w.heap[p]? = some o) : w'.heap[p]? = some o :=
  (hg.block p (Array.getElem?_eq_some_iff.1 h).1).trans h
theorem qgrown {w w' : World} {row : Option Nat} {p : Nat} {o : Obj} (hg : w.grownBy w' row) (h : w.heap[p]? = some o) (hne : some p ≠ row) : w'.heap[p]? = some o :=
  (hg.block p (Array.getElem?_eq_some_iff.1 h).1 hne).trans h
theorem qlt {w : World} {p : Nat} {o : Obj} (h : w.heap[p]? = some o) : p < w.heap.size := (Array.getElem?_eq_some_iff.1 h).1
theorem qcell {W : World} {p : Nat} {A : Array Value} {t : TypeId} {sp : Nat × Nat} (h : W.heap[p]? = some (.cells A t sp)) (j : Nat) (v : Value) (hv : A[j]? = some v) : W.cell? ⟨p, j, none⟩ = some v := by
  simp [World.cell?, h, hv]
theorem qlast (w : World) (o : Obj) : (w.alloc o).heap[w.heap.size]? = some o := heap_alloc_last w o
theorem qat (w : World) (o : Obj) (p : Nat) (h : w.heap.size = p) : (w.alloc o).heap[p]? = some o := by subst h; exact heap_alloc_last w o
theorem qidx {t e : TypeId} {k b off n c j o : Nat} {W : World} (ht : Tryz.prog.underlying t = some (.slice e)) (hk : (Tryz.prog.info? e).map (·.size) = some k) (hj : j < n) (ho : off + j * k = o) :
    (Instr.indexAt t (.slice (some ⟨b, off, none⟩) n c) (.int .i64 (j : Int))).run Tryz.prog W = .ok (.pointer (some ⟨b, o, none⟩)) W := by
  subst ho
  cases hq : Tryz.prog.info? e with
  | none => simp [hq] at hk
  | some i =>
    simp only [hq, Option.map_some, Option.some.injEq] at hk
    simp [Instr.indexAt, run_underlying ht, Instr.sureAddr, asIntOf, sizeOf, typeInfo, hq, hk, Addr.add, hj]
theorem qset_at (w : World) (p : Nat) (c c' : Array Value) (t : TypeId) (fr : Nat × Nat) (hp : w.heap[p]? = some (.cells c t fr)) : (w.setRow p c').heap[p]? = some (.cells c' t fr) := by
  simp only [World.setRow, Array.getElem?_modify, hp]
  simp
theorem qset_grown (w : World) (p : Nat) (c' : Array Value) : w.grownBy (w.setRow p c') (some p) :=
  ⟨rfl, rfl, rfl, by simp [World.setRow], fun k _ hk => by
    have : ¬ p = k := fun e => hk (by rw [e])
    simp [World.setRow, Array.getElem?_modify, this]⟩
theorem qstore {P : Program} {op : Oper} {a : Act} {w : World} {K : Act → World → Prop} {Q : Exit → Act → World → Prop} (ty : TypeId) (x y : Operand) (ho : op.op = .store ty x y) (p : Nat)
    (c c' : Array Value) (t : TypeId) (hx : a.eval x = .pointer (some ⟨p, 0, none⟩)) (hy : a.eval y = .agg c') (hg : w.heap[p]? = some (.cells c t (0, 0))) (hi : (P.info? ty).map (·.size) = some c'.size) (hc : c.size = c'.size) (h1 : c'.all (·.oneCell') = true)
    (h : ∀ w', w'.heap[p]? = some (.cells c' t (0, 0)) → w.grownBy w' (some p) → w'.heap.size = w.heap.size → K (a.put op.dst undef) w') : op.wp P a w K Q := by
  unfold Oper.wp execOp
  simp only [ho, hx, hy, Instr.storeAt, Instr.sureAddr, Sem.run_bind, Sem.run_pure, Result.andThen_ok, run_storeVar_row w p t ty c c' hg hi hc h1]
  exact h _ (qset_at w p c c' t _ hg) (qset_grown w p c') (by simp [World.setRow])
theorem qbuild {P : Program} {op : Oper} {a : Act} {w w' : World} {K : Act → World → Prop} {Q : Exit → Act → World → Prop} (v : Value) (h : (execOp a.eval op).run P w = .ok (.value v) w') (hK : K (a.put op.dst v) w') : op.wp P a w K Q := by
  unfold Oper.wp
  rw [h]
  exact hK
theorem qyrow {P : Program} {ops : Array Oper} {S : World → Prop} {op : Oper} {a : Act} (hw : Region.wanted op (yielded ops a.tmps) = true) (ty : TypeId) (x : Operand) (ho : op.op = .load ty x)
    (b : Nat) (hx : a.eval x = .pointer (some ⟨b, 0, none⟩)) (cs : Array Value) (t : TypeId) (fr : Nat × Nat) (d : TypeDesc) (hS : ∀ w, S w → w.heap[b]? = some (.cells cs t fr))
    (hu : P.underlying ty = some d) (hd : (match d with | .struct _ | .array _ _ => true | _ => false) = true) (hi : (P.info? ty).map (·.size) = some cs.size) : YieldsIf P ops S op (.agg cs) a :=
  .inl ⟨hw, fun w hw' => by
    unfold execOp
    simp only [ho, hx, Instr.loadAt, Instr.sureAddr, Sem.run_bind, Sem.run_pure, Result.andThen_ok, run_loadVar_row w b t ty cs fr d (hS w hw') hu hd hi]⟩
end Go.Proofs.YtimmadkbkimonaaGreatDoor
namespace Go.Proofs.YtimmadkbkimonaaGreatDoor
set_option linter.unusedSimpArgs false
set_option linter.unusedVariables false
open Go.RowKit

structure FaceV where
  eye : Int
  rings : Int
  sectors : Int
  kinds : List Int
  deriving DecidableEq
def FaceV.cells (f : FaceV) (a : Option Addr) (c : Nat) : Array Value := #[.int .i64 f.eye, .int .i64 f.rings, .int .i64 f.sectors, .slice a f.kinds.length c]
def kindB (k : Int) : Bool := inB k 0 2
def FaceV.sized (f : FaceV) : Bool := inB f.eye 1 16 && (inB f.rings 1 24 && (inB f.sectors 2 96 && decide ((f.kinds.length : Int) = f.rings * f.sectors)))
def FaceV.valid (f : FaceV) : Bool := f.sized && f.kinds.all kindB
def zeroF : FaceV := ⟨0, 0, 0, []⟩
abbrev CellV := Int × Int
def around (n m : Int) : Int := n % m
def FaceV.R (f : FaceV) : Nat := f.rings.toNat
def FaceV.S (f : FaceV) : Nat := f.sectors.toNat
def FaceV.kat (f : FaceV) (i : Nat) : Int := f.kinds[i]?.getD 0
def indexF (f : FaceV) (ring sector : Int) : Int := ring * f.sectors + around sector f.sectors
def cellF (f : FaceV) (i : Int) : CellV := (i / f.sectors, i % f.sectors)
def hasF (f : FaceV) (c : CellV) : Bool := inB c.1 0 (f.rings - 1) && inB c.2 0 (f.sectors - 1)
def cellsF (f : FaceV) (k : Int) (n : Nat) : List CellV := (List.range n).filterMap fun i => if f.kat i = k then some (cellF f i) else none
def cellsP (f : FaceV) (k : Int) : List CellV × Int := if f.valid = false then ([], 10) else if kindB k = false then ([], 1) else (cellsF f k f.kinds.length, 0)
def weightF (f : FaceV) (ring : Int) : Int := 2 * (f.eye + ring) + 1
def areaP (f : FaceV) (k : Int) : Int × Int := (((cellsP f k).1.map fun c => weightF f c.1).sum, (cellsP f k).2)
def mapK (f : FaceV) (s : Nat) (of : Int → Int) (r : Nat) : List Int := (List.range r).flatMap fun (i : Nat) => (List.range s).map fun (j : Nat) => f.kat (indexF f i (of j)).toNat
def mapF (f : FaceV) (s : Nat) (of : Int → Int) : FaceV := ⟨f.eye, f.rings, s, mapK f s of f.R⟩
def turnF (f : FaceV) (by_ : Int) : FaceV := mapF f f.S fun s => s - around by_ f.sectors
def turnP (f : FaceV) (by_ : Int) : FaceV × Int := if f.valid = true then (turnF f by_, 0) else (zeroF, 10)
theorem FaceV.valid_iff {f : FaceV} : f.valid = true ↔ (1 ≤ f.eye ∧ f.eye ≤ 16) ∧ (1 ≤ f.rings ∧ f.rings ≤ 24) ∧ (2 ≤ f.sectors ∧ f.sectors ≤ 96) ∧ (f.kinds.length : Int) = f.rings * f.sectors ∧ ∀ k ∈ f.kinds, 0 ≤ k ∧ k ≤ 2 := by
  unfold FaceV.valid FaceV.sized kindB
  simp only [Bool.and_eq_true, inB_true, decide_eq_true_eq, List.all_eq_true]
  constructor
  · rintro ⟨⟨h1, h2, h3, h4⟩, h5⟩
    exact ⟨h1, h2, h3, h4, h5⟩
  · rintro ⟨h1, h2, h3, h4, h5⟩
    exact ⟨⟨h1, h2, h3, h4⟩, h5⟩
section
variable {f : FaceV}
theorem FaceV.nat (h : f.valid = true) : f.rings = (f.R : Int) ∧ f.sectors = (f.S : Int) ∧ 1 ≤ f.R ∧ f.R ≤ 24 ∧ 2 ≤ f.S ∧ f.S ≤ 96 ∧ f.kinds.length = f.R * f.S := by
  obtain ⟨_, h2, h3, h4, _⟩ := FaceV.valid_iff.1 h
  have e1 : f.rings = (f.R : Int) := by unfold FaceV.R; omega
  have e2 : f.sectors = (f.S : Int) := by unfold FaceV.S; omega
  refine ⟨e1, e2, by omega, by omega, by omega, by omega, ?_⟩
  rw [e1, e2] at h4
  exact_mod_cast h4
theorem indexF_eq (h : f.valid = true) (i : Nat) (s : Int) : indexF f i s = ((i * f.S + (s % (f.S : Int)).toNat : Nat) : Int) := by
  obtain ⟨_, e2, _, _, e5, _, _⟩ := FaceV.nat h
  unfold indexF around
  rw [e2]
  have := Int.emod_nonneg s (show (f.S : Int) ≠ 0 by omega)
  push_cast
  omega
theorem mapK_len (s : Nat) (of : Int → Int) : ∀ r, (mapK f s of r).length = r * s
  | 0 => by simp [mapK]
  | r + 1 => by
    have := mapK_len s of r
    unfold mapK at this ⊢
    rw [List.range_succ, List.flatMap_append, List.length_append, this]
    simp [Nat.add_mul]
theorem mapK_at (s : Nat) (of : Int → Int) : ∀ {r i j : Nat}, i < r → j < s → (mapK f s of r)[i * s + j]? = some (f.kat (indexF f i (of j)).toNat)
  | 0, i, j, h, _ => by omega
  | r + 1, i, j, h, hj => by
    have hl := mapK_len (f := f) s of r
    have e : mapK f s of (r + 1) = mapK f s of r ++ (List.range s).map fun (j : Nat) => f.kat (indexF f r (of j)).toNat := by
      unfold mapK
      rw [List.range_succ, List.flatMap_append]
      simp
    rw [e]
    by_cases hi : i < r
    · have : i * s + j < r * s := by
        have := Nat.mul_le_mul_right s (show i + 1 ≤ r by omega)
        rw [Nat.add_mul] at this
        omega
      rw [List.getElem?_append_left (by omega)]
      exact mapK_at s of hi hj
    · have e2 : i = r := by omega
      subst e2
      rw [List.getElem?_append_right (by omega), hl, Nat.add_sub_cancel_left, List.getElem?_map, List.getElem?_range hj]
      rfl
theorem mapF_kat (s : Nat) (of : Int → Int) {i j : Nat} (hi : i < f.R) (hj : j < s) : (mapF f s of).kat (i * s + j) = f.kat (indexF f i (of j)).toNat := by
  unfold FaceV.kat mapF
  rw [mapK_at s of hi hj]
  rfl
theorem mapF_valid (h : f.valid = true) (s : Nat) (hs : 2 ≤ s ∧ s ≤ 96) (of : Int → Int) : (mapF f s of).valid = true := by
  obtain ⟨e1, e2, e3, e4, e5, e6, e7⟩ := FaceV.nat h
  obtain ⟨h1, h2, h3, h4, h5⟩ := FaceV.valid_iff.1 h
  refine FaceV.valid_iff.2 ⟨h1, h2, ⟨by show (2 : Int) ≤ (s : Int); omega, by show (s : Int) ≤ 96; omega⟩, ?_, fun k hk => ?_⟩
  · show ((mapK f s of f.R).length : Int) = f.rings * (s : Int)
    rw [mapK_len, e1]
    push_cast
    rfl
  · have hk : k ∈ mapK f s of f.R := hk
    unfold mapK at hk
    obtain ⟨i, _, hk⟩ := List.mem_flatMap.1 hk
    obtain ⟨j, _, rfl⟩ := List.mem_map.1 hk
    unfold FaceV.kat
    cases he : f.kinds[(indexF f i (of j)).toNat]? with
    | none => simp
    | some x => exact h5 x (List.mem_of_getElem? he)
end
end Go.Proofs.YtimmadkbkimonaaGreatDoor
namespace Go.Proofs.YtimmadkbkimonaaGreatDoor
set_option linter.unusedSimpArgs false
set_option linter.unusedVariables false
open Go.RowKit

def idxZ (es : List Int) (p : Int → Bool) : Int := match es.findIdx? p with | some i => (i : Int) | none => -1
theorem idxZ_at {es : List Int} {p : Int → Bool} {k : Nat} {x : Int} (hx : es[k]? = some x) (hp : p x = true) (hb : ∀ j y, j < k → es[j]? = some y → p y = false) : idxZ es p = k := by
  have : es.findIdx? p = some k := by
    rw [List.findIdx?_eq_some_iff_getElem]
    obtain ⟨h1, rfl⟩ := List.getElem?_eq_some_iff.1 hx
    exact ⟨h1, hp, fun j hj => by rw [hb j _ hj (List.getElem?_eq_getElem (by omega))]; decide⟩
  simp [idxZ, this]
theorem idxZ_none {es : List Int} {p : Int → Bool} (hb : ∀ j y, j < es.length → es[j]? = some y → p y = false) : idxZ es p = -1 := by
  have : es.findIdx? p = none := by
    rw [List.findIdx?_eq_none_iff]
    intro x hx
    obtain ⟨j, h1, h2⟩ := List.getElem_of_mem hx
    exact hb j x h1 (by rw [List.getElem?_eq_getElem h1, h2])
  simp [idxZ, this]
theorem idxZ_any {es : List Int} {p : Int → Bool} : decide (0 ≤ idxZ es p) = es.any p := by
  unfold idxZ
  cases h : es.findIdx? p with
  | none =>
    rw [List.findIdx?_eq_none_iff] at h
    rw [List.any_eq_false.2 (fun x hx => by rw [h x hx]; decide)]
    rfl
  | some i =>
    obtain ⟨h1, h2, _⟩ := List.findIdx?_eq_some_iff_getElem.1 h
    rw [List.any_eq_true.2 ⟨_, List.getElem_mem h1, h2⟩]
    simp
theorem RdI.get {w : World} {a : Option Addr} {n c : Nat} {l : List Int} (h : RdI w a n c l) {k : Nat} {x : Int} (hx : l[k]? = some x) : ∃ b off, a = some ⟨b, off, none⟩ ∧ w.cell? ⟨b, off + k, none⟩ = some (.int .i64 x) := by
  have hl := (List.getElem?_eq_some_iff.1 hx).1
  have hn := h.len
  obtain ⟨b, off, rfl, h4⟩ := RdA.at h (by omega)
  exact ⟨b, off, rfl, h4 k _ (by rw [List.getElem?_map, hx]; rfl)⟩
set_option maxHeartbeats 4000000 in
set_option maxRecDepth 100000 in
theorem indexZ_any (es : List Int) (pred : Int → Bool) (fn : Nat) (hfn : ∀ (args : Array Value) (w : World), (callFunc fn args).run Tryz.prog w = .ok (.enter fn args) w)
    (a : Option Addr) (n c : Nat) (w : World) (hr : RdI w a n c es)
    (hp : ∀ e ∈ es, ∀ W, Below w.heap.size w W → Calls Tryz.prog fn #[.int .i64 e] W fun r W' => r = .returned (.bool (pred e)) ∧ Below W.heap.size W W') :
    Calls Tryz.prog 137 #[.slice a n c, .func (.func fn) #[] #[]] w fun e w' => e = .returned (.int .i64 (idxZ es pred)) ∧ Below w.heap.size w w' := by
  have hn63 := hr.maxn
  have HN : Hid (es.length = n) := Lib.hid hr.len
  have RE := Lib.hid (show ∀ W, Below w.heap.size w W → RdI W a n c es from fun W h => hr.below h)
  have HPD := Lib.hid hp
  clear hr hp
  go_enter Tryz.func137, Tryz.ntmps137
  go_wp2_with fail
  go_loopw [5, 8] (fun _ i wr => ∃ k : Nat, i = .int .i64 k ∧ k ≤ n ∧ Hid (∀ j y, j < k → es[j]? = some y → pred y = false) ∧ Hid (Below w.heap.size w wr)) (fun _ i _ => n - (intOf i).toNat)
  case atStart => exact ⟨0, rfl, Nat.zero_le _, Lib.hid (fun j y h => by omega), Lib.hid (Below.refl _ _)⟩
  case round =>
    obtain ⟨k, rfl, hk, HB, B1⟩ := hrel
    by_cases hkn : k < n
    · have t0 : decide ((k : Int) < (n : Int)) = true := by simp; omega
      obtain ⟨x, Hx⟩ : ∃ x, es[k]? = some x := ⟨es[k]'(by rw [HN.out]; exact hkn), List.getElem?_eq_getElem (by rw [HN.out]; exact hkn)⟩
      obtain ⟨b, off, rfl, hk1⟩ := (RE.out _ B1.out).get Hx
      have hk64 : (k : Int) + 1 ≤ 9223372036854775807 := by omega
      go_wp2_with fail
      refine (HPD.out x (List.mem_of_getElem? Hx) _ B1.out).mono ?_
      rintro e w2 ⟨rfl, b2⟩
      have B2 := Lib.hid (B1.out.trans (b2.mono B1.out.size))
      clear b2 t0
      cases hpx : pred x with
      | true =>
        go_wp2_with fail
        go_ret
        exact ⟨by rw [idxZ_at Hx hpx HB.out]; rfl, B2.out⟩
      | false =>
        have HPX := Lib.hid hpx; clear hpx
        go_wp2_with fail
        go_roundw
        case rel => exact ⟨k + 1, by simp, by omega, Lib.hid (fun j y hj hy => by
          rcases Nat.lt_or_ge j k with h | h
          · exact HB.out j y h hy
          · have e : j = k := by omega
            subst e
            rw [Hx] at hy
            cases hy
            exact HPX.out), B2⟩
        case measure => simp [intOf]; omega
    · have t0 : decide ((k : Int) < (n : Int)) = false := by simp; omega
      go_wp2_with fail
      go_ret
      exact ⟨by rw [idxZ_none (fun j y hj hy => HB.out j y (by have := HN.out; omega) hy)]; rfl, B1.out⟩
theorem containsZ_any (es : List Int) (pred : Int → Bool) (fn : Nat) (hfn : ∀ (args : Array Value) (w : World), (callFunc fn args).run Tryz.prog w = .ok (.enter fn args) w)
    (a : Option Addr) (n c : Nat) (w : World) (hr : RdI w a n c es)
    (hp : ∀ e ∈ es, ∀ W, Below w.heap.size w W → Calls Tryz.prog fn #[.int .i64 e] W fun r W' => r = .returned (.bool (pred e)) ∧ Below W.heap.size W W') :
    Calls Tryz.prog 107 #[.slice a n c, .func (.func fn) #[] #[]] w fun e w' => e = .returned (.bool (es.any pred)) ∧ Below w.heap.size w w' := by
  have HX := Lib.hid (indexZ_any es pred fn hfn a n c w hr hp)
  clear hr hp hfn
  go_enter Tryz.func107, Tryz.ntmps107
  go_wp2_with fail
  refine HX.out.mono ?_
  rintro e w1 ⟨rfl, b1⟩
  have B1 := Lib.hid b1
  clear b1
  have hq := @idxZ_any es pred
  go_wp2_with fail
  go_ret
  exact ⟨by first | rfl | (rw [← hq]; rfl), B1.out⟩
end Go.Proofs.YtimmadkbkimonaaGreatDoor
namespace Go.Proofs.YtimmadkbkimonaaGreatDoor
set_option linter.unusedSimpArgs false
set_option linter.unusedVariables false
open Go.RowKit

theorem within_any (x lo hi : Int) (w : World) : Calls Tryz.prog 69 #[.int .i64 x, .int .i64 lo, .int .i64 hi] w fun e w' => e = .returned (.bool (inB x lo hi)) ∧ w' = w := by
  by_cases h1 : lo ≤ x
  · have t1 : decide (lo ≤ x) = true := by simp; omega
    by_cases h2 : x ≤ hi
    · have t2 : decide (x ≤ hi) = true := by simp; omega
      have t3 : inB x lo hi = true := inB_true.2 ⟨h1, h2⟩
      rw [t3]; clear t3
      go_enter Tryz.func69, Tryz.ntmps69
      go_wp2_with fail
      go_ret
      exact ⟨rfl, rfl⟩
    · have t2 : decide (x ≤ hi) = false := by simp; omega
      have t3 : inB x lo hi = false := inB_false.2 (fun h => h2 h.2)
      rw [t3]; clear t3
      go_enter Tryz.func69, Tryz.ntmps69
      go_wp2_with fail
      go_ret
      exact ⟨rfl, rfl⟩
  · have t1 : decide (lo ≤ x) = false := by simp; omega
    have t3 : inB x lo hi = false := inB_false.2 (fun h => h1 h.1)
    rw [t3]; clear t3
    go_enter Tryz.func69, Tryz.ntmps69
    go_wp2_with fail
    go_ret
    exact ⟨rfl, rfl⟩
theorem kind_any (k : Int) (w : World) : Calls Tryz.prog 95 #[.int .i64 k] w fun e w' => e = .returned (.bool (kindB k)) ∧ w' = w := by
  by_cases h0 : k = 0
  · subst h0
    go_enter Tryz.func95, Tryz.ntmps95
    go_wp2_with fail
    go_ret
    exact ⟨rfl, rfl⟩
  by_cases h1 : k = 1
  · subst h1
    go_enter Tryz.func95, Tryz.ntmps95
    go_wp2_with fail
    go_ret
    exact ⟨rfl, rfl⟩
  by_cases h2 : k = 2
  · subst h2
    go_enter Tryz.func95, Tryz.ntmps95
    go_wp2_with fail
    go_ret
    exact ⟨rfl, rfl⟩
  have t3 : kindB k = false := inB_false.2 (by omega)
  rw [t3]
  have q0 : (k == 0) = false := by simp [h0]
  have q1 : (k == 1) = false := by simp [h1]
  have q2 : (k == 2) = false := by simp [h2]
  go_enter Tryz.func95, Tryz.ntmps95
  go_wp2_with fail
  go_ret
  exact ⟨rfl, rfl⟩
theorem around_tmod (n m : Int) (hm : 1 ≤ m ∧ m ≤ 1000000) : (wrap64 (n.tmod m + m)).tmod m = around n m := by
  unfold around
  have hb : -m < n.tmod m ∧ n.tmod m < m := by
    constructor
    · have := Int.lt_tmod_of_pos n (show 0 < m by omega); omega
    · exact Int.tmod_lt_of_pos n (by omega)
  have hw : wrap64 (n.tmod m + m) = n.tmod m + m := by unfold wrap64; omega
  rw [hw, Int.tmod_eq_emod_of_nonneg (by omega), Int.add_emod_right]
  rcases Int.le_total 0 n with h0 | h0
  · rw [Int.tmod_eq_emod_of_nonneg h0, Int.emod_emod_of_dvd _ (Int.dvd_refl _)]
  · have : n.tmod m = -((-n) % m) := by
      rw [← Int.tmod_eq_emod_of_nonneg (show 0 ≤ -n by omega), Int.neg_tmod, Int.neg_neg]
    rw [this, ← Int.zero_sub, Int.sub_emod, Int.emod_emod_of_dvd _ (Int.dvd_refl _), ← Int.sub_emod]
    congr 1
    omega
theorem around_any (n m : Int) (w : World) (hm : 1 ≤ m ∧ m ≤ 1000000) : Calls Tryz.prog 132 #[.int .i64 n, .int .i64 m] w fun e w' => e = .returned (.int .i64 (around n m)) ∧ w' = w := by
  have HA := Lib.hid (around_tmod n m hm)
  have h0 : (m == 0) = false := by simp; omega
  have h0' : m ≠ 0 := by omega
  go_enter Tryz.func132, Tryz.ntmps132
  go_wp2_with fail
  go_ret
  exact ⟨by rw [← HA.out]; rfl, rfl⟩
set_option maxHeartbeats 4000000 in
set_option maxRecDepth 100000 in
theorem index_any (f : FaceV) (a : Option Addr) (c : Nat) (ring sector : Int) (w : World) (hs : 1 ≤ f.sectors ∧ f.sectors ≤ 1000000) (hr : -1000000 ≤ ring ∧ ring ≤ 1000000) :
    Calls Tryz.prog 88 #[.agg (f.cells a c), .int .i64 ring, .int .i64 sector] w fun e w' => e = .returned (.int .i64 (indexF f ring sector)) ∧ Below w.heap.size w w' := by
  have B0 := Lib.hid ((Below.refl w.heap.size w).alloc (Nat.le_refl _) (.cells (f.cells a c) 28))
  have X0 := Lib.hid (qlast w (.cells (f.cells a c) 28))
  have AR := Lib.hid (fun W => around_any sector f.sectors W hs)
  have W1 := Lib.hid (show wrap64 (ring * f.sectors) = ring * f.sectors by
    have h1 : ring * f.sectors ≤ 1000000 * 1000000 := by
      rcases Int.le_total 0 ring with h | h
      · exact Int.mul_le_mul hr.2 hs.2 (by omega) (by omega)
      · have := Int.mul_nonpos_of_nonpos_of_nonneg h (show 0 ≤ f.sectors by omega); omega
    have h2 : -(1000000 * 1000000) ≤ ring * f.sectors := by
      rcases Int.le_total 0 ring with h | h
      · have := Int.mul_nonneg h (show 0 ≤ f.sectors by omega); omega
      · have := Int.mul_le_mul (show -ring ≤ 1000000 by omega) hs.2 (by omega) (by omega)
        rw [Int.neg_mul] at this
        omega
    unfold wrap64
    omega)
  have W2 := Lib.hid (show wrap64 (ring * f.sectors + around sector f.sectors) = indexF f ring sector by
    have h3 : 0 ≤ around sector f.sectors ∧ around sector f.sectors < f.sectors := by
      unfold around
      exact ⟨Int.emod_nonneg _ (by omega), Int.emod_lt_of_pos _ (by omega)⟩
    have h1 : ring * f.sectors ≤ 1000000 * 1000000 := by
      rcases Int.le_total 0 ring with h | h
      · exact Int.mul_le_mul hr.2 hs.2 (by omega) (by omega)
      · have := Int.mul_nonpos_of_nonpos_of_nonneg h (show 0 ≤ f.sectors by omega); omega
    have h2 : -(1000000 * 1000000) ≤ ring * f.sectors := by
      rcases Int.le_total 0 ring with h | h
      · have := Int.mul_nonneg h (show 0 ≤ f.sectors by omega); omega
      · have := Int.mul_le_mul (show -ring ≤ 1000000 by omega) hs.2 (by omega) (by omega)
        rw [Int.neg_mul] at this
        omega
    unfold indexF wrap64
    omega)
  clear hs hr
  go_enter Tryz.func88, Tryz.ntmps88
  go_upto_region 1 with fail
  obtain ⟨p, hp⟩ : ∃ p, Hid (w.heap.size = p) := ⟨_, Lib.hid rfl⟩
  rw [hp.out] at X0 ⊢
  generalize w.alloc (.cells (f.cells a c) 28) = W0 at *
  have XC : Hid (∀ W, Below W0.heap.size W0 W → W.cell? ⟨p, 2, none⟩ = some (.int .i64 f.sectors)) := Lib.hid (fun W hb => qcell (qblk hb X0.out) 2 _ rfl)
  refine zD (fun W => Below W0.heap.size W0 W) (Below.refl _ _).drew (fun hHeld => ?_)
  have BV := Lib.hid hHeld
  generalize W0.drew = V0 at *
  refine zW 0 rfl (.int .i64 ring) ?_
  refine zW 1 rfl (.pointer (some ⟨p, 2, none⟩)) ?_
  refine zS 2 rfl (.int .i64 f.sectors) (fun W hW => by have c := XC.out W hW; go_simp) ?_
  refine zW 3 rfl (.int .i64 (ring * f.sectors)) (hy := .inl ⟨by kernel_rfl, by intro W _; go_simp; exact (IntWalk.i64_left _).trans W1.out⟩) ?_
  refine zW 4 rfl (.int .i64 sector) ?_
  refine zW 5 rfl (.pointer (some ⟨p, 2, none⟩)) ?_
  refine zS 6 rfl (.int .i64 f.sectors) (fun W hW => by have c := XC.out W hW; go_simp) ?_
  refine zR 7 rfl (fun K hK => ?_)
  go_simp
  refine (AR.out V0).mono ?_
  rintro e V1 ⟨rfl, rfl⟩
  dsimp only
  refine zK hK BV.out (fun hHeld => ?_)
  clear hK K
  refine zW 8 rfl (.int .i64 (indexF f ring sector)) (hy := .inl ⟨by kernel_rfl, by intro W _; go_simp; exact (IntWalk.i64_left _).trans W2.out⟩) ?_
  refine zW 9 rfl (.int .i64 (indexF f ring sector)) ?_
  refine zE ?_
  have BF := Lib.hid (B0.out.trans (BV.out.mono B0.out.size))
  go_wp2_with fail
  go_ret
  exact ⟨rfl, BF.out⟩
set_option maxHeartbeats 4000000 in
set_option maxRecDepth 100000 in
theorem cellOf_any (f : FaceV) (a : Option Addr) (c : Nat) (i : Int) (w : World) (hs : 1 ≤ f.sectors ∧ f.sectors ≤ 1000000) (hi : 0 ≤ i ∧ i ≤ 9223372036854775807) :
    Calls Tryz.prog 89 #[.agg (f.cells a c), .int .i64 i] w fun e w' => e = .returned (.agg #[.int .i64 (cellF f i).1, .int .i64 (cellF f i).2]) ∧ Below w.heap.size w w' := by
  have J2 := Lib.hid (show ∀ x y : Value, (Tryz.prog.info? 41).map (·.size) = some (#[x, y] : Array Value).size from fun x y => by kernel_rfl)
  have B0 := Lib.hid (((Below.refl w.heap.size w).alloc (Nat.le_refl _) (.cells (f.cells a c) 28)).alloc (by simp) (.cells #[.int .i64 0, .int .i64 0] 41))
  have X0 := Lib.hid (qblk ((Below.refl _ _).alloc (Nat.le_refl _) (.cells #[.int .i64 0, .int .i64 0] 41)) (qlast w (.cells (f.cells a c) 28)))
  have R0 := Lib.hid (qat (w.alloc (.cells (f.cells a c) 28)) (.cells #[.int .i64 0, .int .i64 0] 41) (w.heap.size + 1) (by simp))
  have NE := Lib.hid (show ¬ f.sectors = 0 by omega)
  have D1 := Lib.hid (show wrap64 (i.tdiv f.sectors) = i / f.sectors by
    rw [Int.tdiv_eq_ediv_of_nonneg hi.1]
    have h1 : 0 ≤ i / f.sectors := Int.ediv_nonneg hi.1 (by omega)
    have h2 : i / f.sectors ≤ i := Int.ediv_le_self _ hi.1
    unfold wrap64
    omega)
  have D2 := Lib.hid (show i.tmod f.sectors = i % f.sectors from Int.tmod_eq_emod_of_nonneg hi.1)
  clear hs hi
  go_enter Tryz.func89, Tryz.ntmps89
  go_upto_region 1 with fail
  obtain ⟨p, hp⟩ : ∃ p, Hid (w.heap.size = p) := ⟨_, Lib.hid rfl⟩
  obtain ⟨q, hq⟩ : ∃ q, Hid (w.heap.size + 1 = q) := ⟨_, Lib.hid rfl⟩
  rw [hq.out] at R0 ⊢
  rw [hp.out] at X0 ⊢
  generalize (w.alloc (.cells (f.cells a c) 28)).alloc (.cells #[.int .i64 0, .int .i64 0] 41) = W0 at *
  have hd : Below W0.heap.size W0 W0.drew := (Below.refl _ _).drew
  have Q0 := Lib.hid (qblk hd R0.out)
  have NQ : Hid (p ≠ q) := Lib.hid (by have := hp.out; have := hq.out; omega)
  have GE : Hid (w.heap.size ≤ q) := Lib.hid (by have := hq.out; omega)
  refine zD (fun W => Below w.heap.size w W ∧ W.heap[p]? = some (.cells (f.cells a c) 28 (0, 0))) ⟨B0.out.drew, qblk hd X0.out⟩ (fun hHeld => ?_)
  have BV := Lib.hid hHeld
  clear hd
  generalize W0.drew = V0 at *
  refine zW 0 rfl (.int .i64 i) ?_
  refine zW 1 rfl (.pointer (some ⟨p, 2, none⟩)) ?_
  refine zS 2 rfl (.int .i64 f.sectors) (fun W hW => by have c := qcell hW.2 2 (.int .i64 f.sectors) rfl; go_simp) ?_
  refine zW 3 rfl (.int .i64 (i / f.sectors)) (hy := .inl ⟨by kernel_rfl, by intro W _; go_simp; rw [if_neg NE.out, (IntWalk.i64_left _).trans D1.out]⟩) ?_
  refine zW 4 rfl (.int .i64 i) ?_
  refine zW 5 rfl (.pointer (some ⟨p, 2, none⟩)) ?_
  refine zS 6 rfl (.int .i64 f.sectors) (fun W hW => by have c := qcell hW.2 2 (.int .i64 f.sectors) rfl; go_simp) ?_
  refine zW 7 rfl (.int .i64 (i % f.sectors)) (hy := .inl ⟨by kernel_rfl, by intro W _; go_simp; rw [if_neg NE.out, D2.out]⟩) ?_
  refine zW 8 rfl (.agg #[.int .i64 (i / f.sectors), .int .i64 (i % f.sectors)]) ?_
  refine zR 9 rfl (fun K hK => ?_)
  rw [if_pos (by kernel_rfl)]
  refine qstore 41 _ _ rfl q #[.int .i64 0, .int .i64 0] #[.int .i64 (i / f.sectors), .int .i64 (i % f.sectors)] 41 rfl rfl Q0.out (J2.out _ _) rfl (by simp [Value.oneCell']) ?_
  intro X h8 hg8 hs8
  have BX := Lib.hid (BV.out.1.grown hg8 BV.out.1.size (fun k e => by cases e; exact GE.out))
  have PX := Lib.hid (qgrown hg8 BV.out.2 (fun e => NQ.out (Option.some.inj e)))
  have RX := Lib.hid h8
  clear h8 hg8 hs8
  refine zK hK ⟨BX.out, PX.out⟩ (fun hHeld => ?_)
  clear hK K
  refine zE ?_
  go_wp2_with fail
  refine bodyPost_ret (results_cell_row rfl _ X q 41 _ (0, 0) _ rfl RX.out Tryz.underlying41 rfl (J2.out _ _)) rfl ?_
  exact ⟨rfl, BX.out⟩
end Go.Proofs.YtimmadkbkimonaaGreatDoor
namespace Go.Proofs.YtimmadkbkimonaaGreatDoor
set_option linter.unusedSimpArgs false
set_option linter.unusedVariables false
open Go.RowKit

def insU (x : Int) : List Int → List Int
  | [] => [x]
  | y :: ys => if x < y then x :: y :: ys else if x = y then y :: ys else y :: insU x ys
def uniqS (l : List Int) : List Int := l.foldr insU []
theorem insU_mem {x z : Int} : ∀ {l : List Int}, z ∈ insU x l ↔ z = x ∨ z ∈ l
  | [] => by simp [insU]
  | y :: ys => by
    unfold insU
    split
    · simp
    · split
      · rename_i h; subst h; simp
      · rw [List.mem_cons, insU_mem, List.mem_cons]
        constructor
        · rintro (h | h | h)
          · exact .inr (.inl h)
          · exact .inl h
          · exact .inr (.inr h)
        · rintro (h | h | h)
          · exact .inr (.inl h)
          · exact .inl h
          · exact .inr (.inr h)
theorem insU_sorted {x : Int} : ∀ {l : List Int}, l.Pairwise (· < ·) → (insU x l).Pairwise (· < ·)
  | [], _ => by simp [insU]
  | y :: ys, h => by
    rw [List.pairwise_cons] at h
    unfold insU
    split
    · rename_i hx
      exact List.pairwise_cons.2 ⟨fun z hz => by
        rcases List.mem_cons.1 hz with rfl | hz
        · exact hx
        · have := h.1 z hz; omega, List.pairwise_cons.2 h⟩
    · split
      · exact List.pairwise_cons.2 h
      · rename_i h1 h2
        exact List.pairwise_cons.2 ⟨fun z hz => by
          rcases insU_mem.1 hz with rfl | hz
          · omega
          · exact h.1 z hz, insU_sorted h.2⟩
theorem uniqS_mem {z : Int} : ∀ {l : List Int}, z ∈ uniqS l ↔ z ∈ l
  | [] => by simp [uniqS]
  | y :: ys => by
    show z ∈ insU y (uniqS ys) ↔ _
    rw [insU_mem, uniqS_mem, List.mem_cons]
theorem uniqS_sorted : ∀ (l : List Int), (uniqS l).Pairwise (· < ·)
  | [] => List.Pairwise.nil
  | y :: ys => insU_sorted (uniqS_sorted ys)
theorem sortedZ_eq : ∀ {u v : List Int}, u.Pairwise (· < ·) → v.Pairwise (· < ·) → (∀ x, x ∈ u ↔ x ∈ v) → u = v
  | [], [], _, _, _ => rfl
  | [], y :: v, _, _, h => by have := (h y).2 (List.mem_cons_self ..); cases this
  | x :: u, [], _, _, h => by have := (h x).1 (List.mem_cons_self ..); cases this
  | x :: u, y :: v, hu, hv, h => by
    rw [List.pairwise_cons] at hu hv
    have e : x = y := by
      rcases List.mem_cons.1 ((h x).1 (List.mem_cons_self ..)) with h1 | h1
      · exact h1
      · rcases List.mem_cons.1 ((h y).2 (List.mem_cons_self ..)) with h2 | h2
        · exact h2.symm
        · have := hu.1 y h2
          have := hv.1 x h1
          omega
    subst e
    rw [sortedZ_eq hu.2 hv.2 fun z => ?_]
    constructor
    · intro hz
      rcases List.mem_cons.1 ((h z).1 (List.mem_cons_of_mem _ hz)) with h1 | h1
      · have := hu.1 z hz; omega
      · exact h1
    · intro hz
      rcases List.mem_cons.1 ((h z).2 (List.mem_cons_of_mem _ hz)) with h1 | h1
      · have := hv.1 z hz; omega
      · exact h1
theorem compact_go (d : Array Int) (hd : ∀ i j, i ≤ j → j < d.size → d[i]! ≤ d[j]!) : ∀ m, m ≤ d.size → (Lib.compactUpTo d m).Pairwise (· < ·) ∧ ∀ z, z ∈ Lib.compactUpTo d m ↔ ∃ j, j < m ∧ d[j]! = z
  | 0, _ => by simp [Lib.compactUpTo]
  | m + 1, hm => by
    obtain ⟨h1, h2⟩ := compact_go d hd m (by omega)
    rw [Lib.compactUpTo_succ]
    by_cases hk : Lib.keeps d m = true
    · rw [if_pos hk]
      have hk2 : m = 0 ∨ d[m]! ≠ d[m - 1]! := of_decide_eq_true hk
      refine ⟨List.pairwise_append.2 ⟨h1, by simp, fun a ha b hb => ?_⟩, fun z => ?_⟩
      · rw [List.mem_singleton.1 hb]
        obtain ⟨j, hj, rfl⟩ := (h2 a).1 ha
        have h3 := hd j (m - 1) (by omega) (by omega)
        have h4 := hd (m - 1) m (by omega) (by omega)
        rcases hk2 with h5 | h5 <;> omega
      · rw [List.mem_append, h2, List.mem_singleton]
        constructor
        · rintro (⟨j, hj, e⟩ | e)
          · exact ⟨j, by omega, e⟩
          · exact ⟨m, by omega, e.symm⟩
        · rintro ⟨j, hj, e⟩
          by_cases hjm : j < m
          · exact .inl ⟨j, hjm, e⟩
          · have : j = m := by omega
            subst this
            exact .inr e.symm
    · rw [if_neg hk, List.append_nil]
      have hk2 : ¬ (m = 0 ∨ d[m]! ≠ d[m - 1]!) := fun h => hk (decide_eq_true h)
      have hm0 : m ≠ 0 := fun h => hk2 (.inl h)
      have he : d[m]! = d[m - 1]! := Classical.not_not.1 (fun h => hk2 (.inr h))
      refine ⟨h1, fun z => ?_⟩
      rw [h2]
      constructor
      · rintro ⟨j, hj, e⟩; exact ⟨j, by omega, e⟩
      · rintro ⟨j, hj, e⟩
        by_cases hjm : j < m
        · exact ⟨j, hjm, e⟩
        · have : j = m := by omega
          subst this
          exact ⟨j - 1, by omega, by rw [← e, he]⟩
theorem sort_uniq (l : List Int) : Lib.compact (l.mergeSort fun x y => decide (x ≤ y)) = uniqS l := by
  have hs : (l.mergeSort fun x y => decide (x ≤ y)).Pairwise (fun x y => decide (x ≤ y) = true) := List.pairwise_mergeSort (fun a b c h1 h2 => by simp at h1 h2 ⊢; omega) (fun a b => by simp; omega) l
  have hp := List.mergeSort_perm l (fun x y => decide (x ≤ y))
  generalize l.mergeSort (fun x y => decide (x ≤ y)) = s at *
  have hd : ∀ i j, i ≤ j → j < s.toArray.size → s.toArray[i]! ≤ s.toArray[j]! := fun i j hij hj => by
    have hj2 : j < s.length := by simpa using hj
    rcases Nat.lt_or_ge i j with h | h
    · have := List.pairwise_iff_getElem.1 hs i j (by omega) hj2 h
      simp only [decide_eq_true_eq] at this
      rw [getElem!_pos s.toArray i (by simp; omega), getElem!_pos s.toArray j hj]
      simpa using this
    · have : i = j := by omega
      subst this
      omega
  obtain ⟨h1, h2⟩ := compact_go s.toArray hd s.length (by simp)
  refine sortedZ_eq h1 (uniqS_sorted l) fun z => ?_
  unfold Lib.compact at *
  rw [h2, uniqS_mem, ← hp.mem_iff]
  constructor
  · rintro ⟨j, hj, e⟩
    rw [getElem!_pos s.toArray j (by simpa using hj)] at e
    rw [← e]
    simp
  · intro hz
    obtain ⟨j, hj, e⟩ := List.getElem_of_mem hz
    exact ⟨j, hj, by rw [getElem!_pos s.toArray j (by simpa using hj)]; simpa using e⟩
def neighL (f : FaceV) (i : Int) : List Int :=
  [indexF f (cellF f i).1 ((cellF f i).2 - 1), indexF f (cellF f i).1 ((cellF f i).2 + 1)] ++ (if inB ((cellF f i).1 - 1) 0 (f.rings - 1) = true then [indexF f ((cellF f i).1 - 1) (cellF f i).2] else []) ++ (if inB ((cellF f i).1 + 1) 0 (f.rings - 1) = true then [indexF f ((cellF f i).1 + 1) (cellF f i).2] else [])
def neighF (f : FaceV) (i : Int) : List Int := uniqS (neighL f i)
end Go.Proofs.YtimmadkbkimonaaGreatDoor
namespace Go.Proofs.YtimmadkbkimonaaGreatDoor
set_option linter.unusedSimpArgs false
set_option linter.unusedVariables false
open Go.RowKit

section
variable {f : FaceV}
theorem FaceV.int (h : f.valid = true) : 1 ≤ f.rings ∧ f.rings ≤ 24 ∧ 2 ≤ f.sectors ∧ f.sectors ≤ 96 ∧ (f.kinds.length : Int) = f.rings * f.sectors := by
  obtain ⟨_, h2, h3, h4, _⟩ := FaceV.valid_iff.1 h
  exact ⟨h2.1, h2.2, h3.1, h3.2, h4⟩
theorem cell_index (h : f.valid = true) (r : Int) {s : Int} (hs : 0 ≤ s ∧ s < f.sectors) : cellF f (r * f.sectors + s) = (r, s) := by
  have h2 := FaceV.int h
  unfold cellF
  rw [Int.add_comm, Int.add_mul_ediv_right _ _ (by omega), Int.add_mul_emod_self_right, Int.ediv_eq_zero_of_lt hs.1 hs.2, Int.emod_eq_of_lt hs.1 hs.2, Int.zero_add]
theorem around_lt (h : f.valid = true) (s : Int) : 0 ≤ around s f.sectors ∧ around s f.sectors < f.sectors := by
  have h2 := FaceV.int h
  unfold around
  exact ⟨Int.emod_nonneg _ (by omega), Int.emod_lt_of_pos _ (by omega)⟩
theorem around_eq (h : f.valid = true) {s : Int} (hs : 0 ≤ s ∧ s < f.sectors) : around s f.sectors = s := Int.emod_eq_of_lt hs.1 hs.2
theorem indexF_of (h : f.valid = true) (r : Int) {s : Int} (hs : 0 ≤ s ∧ s < f.sectors) : indexF f r s = r * f.sectors + s := by unfold indexF; rw [around_eq h hs]
theorem indexF_cell (h : f.valid = true) (r s : Int) : cellF f (indexF f r s) = (r, around s f.sectors) := cell_index h r (around_lt h s)
theorem indexF_around (h : f.valid = true) (r s : Int) : indexF f r (around s f.sectors) = indexF f r s := by
  unfold indexF
  rw [around_eq h (around_lt h s)]
theorem hasF_iff {c : CellV} : hasF f c = true ↔ (0 ≤ c.1 ∧ c.1 ≤ f.rings - 1) ∧ 0 ≤ c.2 ∧ c.2 ≤ f.sectors - 1 := by
  unfold hasF
  rw [Bool.and_eq_true, inB_true, inB_true]
theorem index_lt (h : f.valid = true) {r : Int} (hr : 0 ≤ r ∧ r ≤ f.rings - 1) (s : Int) : 0 ≤ indexF f r s ∧ indexF f r s < f.kinds.length := by
  have h2 := FaceV.int h
  have h3 := around_lt h s
  unfold indexF
  have h4 : r * f.sectors ≤ (f.rings - 1) * f.sectors := Int.mul_le_mul_of_nonneg_right hr.2 (by omega)
  have h5 : 0 ≤ r * f.sectors := Int.mul_nonneg hr.1 (by omega)
  rw [Int.sub_mul, Int.one_mul] at h4
  omega
def BesideF (f : FaceV) (c x : CellV) : Prop := (x.1 = c.1 ∧ (x.2 = around (c.2 - 1) f.sectors ∨ x.2 = around (c.2 + 1) f.sectors)) ∨ (x.2 = c.2 ∧ (x.1 = c.1 - 1 ∧ 0 ≤ x.1 ∨ x.1 = c.1 + 1 ∧ x.1 ≤ f.rings - 1))
theorem around_back (h : f.valid = true) {s : Int} (hs : 0 ≤ s ∧ s ≤ f.sectors - 1) : around (around (s - 1) f.sectors + 1) f.sectors = s ∧ around (around (s + 1) f.sectors - 1) f.sectors = s := by
  have h2 := FaceV.int h
  unfold around
  rw [Int.emod_add_emod, Int.sub_emod ((s + 1) % f.sectors) 1, Int.emod_emod_of_dvd _ (Int.dvd_refl _), ← Int.sub_emod]
  exact ⟨by rw [show s - 1 + 1 = s by omega]; exact Int.emod_eq_of_lt hs.1 (by omega), by rw [show s + 1 - 1 = s by omega]; exact Int.emod_eq_of_lt hs.1 (by omega)⟩
theorem around_ne (h : f.valid = true) {s : Int} (hs : 0 ≤ s ∧ s ≤ f.sectors - 1) : around (s - 1) f.sectors ≠ s ∧ around (s + 1) f.sectors ≠ s := by
  have h2 := FaceV.int h
  unfold around
  constructor
  · by_cases h0 : s = 0
    · subst h0
      intro e
      have : (0 - 1 : Int) % f.sectors = f.sectors - 1 := by
        rw [show (0 - 1 : Int) = (f.sectors - 1) + f.sectors * (-1) by omega, Int.add_mul_emod_self_left, Int.emod_eq_of_lt (by omega) (by omega)]
      omega
    · rw [Int.emod_eq_of_lt (by omega) (by omega)]
      omega
  · by_cases h0 : s = f.sectors - 1
    · subst h0
      rw [show f.sectors - 1 + 1 = f.sectors by omega, Int.emod_self]
      omega
    · rw [Int.emod_eq_of_lt (by omega) (by omega)]
      omega
theorem beside_has (h : f.valid = true) {c x : CellV} (hc : hasF f c = true) (hx : BesideF f c x) : hasF f x = true := by
  rw [hasF_iff] at hc ⊢
  have h1 := around_lt h (c.2 - 1)
  have h2 := around_lt h (c.2 + 1)
  rcases hx with ⟨e, e2 | e2⟩ | ⟨e, e2 | e2⟩ <;> omega
theorem beside_sym (h : f.valid = true) {c x : CellV} (hc : hasF f c = true) (hx : BesideF f c x) : BesideF f x c := by
  rw [hasF_iff] at hc
  obtain ⟨b1, b2⟩ := around_back h hc.2
  rcases hx with ⟨e, e2 | e2⟩ | ⟨e, e2 | e2⟩
  · exact .inl ⟨e.symm, .inr (by rw [e2, b1])⟩
  · exact .inl ⟨e.symm, .inl (by rw [e2, b2])⟩
  · exact .inr ⟨e.symm, .inr (by omega)⟩
  · exact .inr ⟨e.symm, .inl (by omega)⟩
theorem beside_ne (h : f.valid = true) {c x : CellV} (hc : hasF f c = true) (hx : BesideF f c x) : x ≠ c := by
  rw [hasF_iff] at hc
  obtain ⟨b1, b2⟩ := around_ne h hc.2
  intro e
  subst e
  rcases hx with ⟨_, e2 | e2⟩ | ⟨_, e2 | e2⟩
  · exact b1 e2.symm
  · exact b2 e2.symm
  · omega
  · omega
theorem neigh_mem (h : f.valid = true) {c : CellV} (hc : hasF f c = true) {n : Int} : n ∈ neighF f (indexF f c.1 c.2) ↔ ∃ x, BesideF f c x ∧ n = indexF f x.1 x.2 := by
  have hc2 := hasF_iff.1 hc
  have ec : cellF f (indexF f c.1 c.2) = c := by
    rw [indexF_cell h, around_eq h (by omega)]
  unfold neighF
  rw [uniqS_mem]
  unfold neighL
  rw [ec]
  simp only [List.mem_append, List.mem_cons, List.not_mem_nil, or_false]
  constructor
  · rintro (((e | e) | e) | e)
    · exact ⟨(c.1, around (c.2 - 1) f.sectors), .inl ⟨rfl, .inl rfl⟩, by rw [e]; exact (indexF_around h _ _).symm⟩
    · exact ⟨(c.1, around (c.2 + 1) f.sectors), .inl ⟨rfl, .inr rfl⟩, by rw [e]; exact (indexF_around h _ _).symm⟩
    · split at e
      · rename_i hq
        rw [inB_true] at hq
        exact ⟨(c.1 - 1, c.2), .inr ⟨rfl, .inl ⟨rfl, hq.1⟩⟩, List.mem_singleton.1 e⟩
      · cases e
    · split at e
      · rename_i hq
        rw [inB_true] at hq
        exact ⟨(c.1 + 1, c.2), .inr ⟨rfl, .inr ⟨rfl, hq.2⟩⟩, List.mem_singleton.1 e⟩
      · cases e
  · rintro ⟨x, ⟨e, e2 | e2⟩ | ⟨e, e2 | e2⟩, rfl⟩
    · exact .inl (.inl (.inl (by rw [e, e2, indexF_around h])))
    · exact .inl (.inl (.inr (by rw [e, e2, indexF_around h])))
    · refine .inl (.inr ?_)
      rw [if_pos (inB_true.2 (by omega)), e, e2.1]
      exact List.mem_singleton.2 rfl
    · refine .inr ?_
      rw [if_pos (inB_true.2 (by omega)), e, e2.1]
      exact List.mem_singleton.2 rfl
theorem insU_len (x : Int) : ∀ l : List Int, (insU x l).length ≤ l.length + 1
  | [] => by simp [insU]
  | y :: ys => by
    unfold insU
    have := insU_len x ys
    split
    · simp
    · split
      · simp
      · simp; omega
theorem uniqS_len : ∀ l : List Int, (uniqS l).length ≤ l.length
  | [] => by simp [uniqS]
  | y :: ys => by
    have h1 := insU_len y (uniqS ys)
    have h2 := uniqS_len ys
    show (insU y (uniqS ys)).length ≤ _
    rw [List.length_cons]
    omega
theorem neigh_len (h : f.valid = true) (i : Int) : 1 ≤ (neighF f i).length ∧ (neighF f i).length ≤ 4 := by
  constructor
  · have : indexF f (cellF f i).1 ((cellF f i).2 - 1) ∈ neighF f i := by
      unfold neighF
      rw [uniqS_mem]
      unfold neighL
      simp
    exact List.length_pos_of_mem this
  · refine Nat.le_trans (uniqS_len _) ?_
    unfold neighL
    simp only [List.length_append, List.length_cons, List.length_nil]
    split <;> split <;> simp
end
end Go.Proofs.YtimmadkbkimonaaGreatDoor
namespace Go.Proofs.YtimmadkbkimonaaGreatDoor
set_option linter.unusedSimpArgs false
set_option linter.unusedVariables false
open Go.RowKit

def cellA (c : CellV) : Array Value := #[.int .i64 c.1, .int .i64 c.2]
set_option maxHeartbeats 4000000 in
set_option maxRecDepth 100000 in
theorem valid2_any (f : FaceV) (a : Option Addr) (n : Nat) (w : World) (hr : RdI w a f.kinds.length n f.kinds) :
    Calls Tryz.prog 52 #[.agg (f.cells a n)] w fun e w' => e = .returned (.bool f.valid) ∧ Below w.heap.size w w' := by
  have B0 := Lib.hid ((Below.refl w.heap.size w).alloc (Nat.le_refl _) (.cells (f.cells a n) 28))
  have X0 := Lib.hid (qlast w (.cells (f.cells a n) 28))
  have HR := Lib.hid (fun W (hb : Below w.heap.size w W) => hr.below hb)
  have VF : Hid (∀ x : Int, ∀ W, Calls Tryz.prog 108 #[.int .i64 x] W fun r W' => r = .returned (.bool (!kindB x)) ∧ Below W.heap.size W W') := Lib.hid (fun x W => by
    cases hk : kindB x
    all_goals
      go_enter Tryz.func108, Tryz.ntmps108
      go_wp2_with fail
      refine (kind_any x W).mono ?_
      rintro e W1 ⟨rfl, rfl⟩
      rw [hk]
      go_wp2_with fail
      go_ret
      exact ⟨rfl, Below.refl _ _⟩)
  have VFN := Lib.hid (show ∀ (args : Array Value) (w : World), (callFunc 108 args).run Tryz.prog w = .ok (.enter 108 args) w from fun args w => by kernel_rfl)
  have V1 : Hid (inB f.eye 1 16 = false → f.valid = false) := Lib.hid (fun h => by unfold FaceV.valid FaceV.sized; rw [h]; rfl)
  have V2 : Hid (inB f.rings 1 24 = false → f.valid = false) := Lib.hid (fun h => by unfold FaceV.valid FaceV.sized; rw [h]; simp)
  have V3 : Hid (inB f.sectors 2 96 = false → f.valid = false) := Lib.hid (fun h => by unfold FaceV.valid FaceV.sized; rw [h]; simp)
  have V4 : Hid (((f.kinds.length : Int) != f.rings * f.sectors) = true → f.valid = false) := Lib.hid (fun h => by unfold FaceV.valid FaceV.sized; rw [bne_iff_ne] at h; simp [h])
  have V5 : Hid (inB f.eye 1 16 = true → inB f.rings 1 24 = true → inB f.sectors 2 96 = true → ((f.kinds.length : Int) != f.rings * f.sectors) = false → f.valid = !(f.kinds.any fun x => !kindB x)) := Lib.hid (fun h1 h2 h3 h4 => by
    have h4 : (f.kinds.length : Int) = f.rings * f.sectors := by simpa using h4
    unfold FaceV.valid FaceV.sized
    rw [h1, h2, h3, h4]
    simp [List.all_eq_not_any_not])
  clear hr
  go_enter Tryz.func52, Tryz.ntmps52
  go_upto_region 1 with fail
  obtain ⟨p, hp⟩ : ∃ p, Hid (w.heap.size = p) := ⟨_, Lib.hid rfl⟩
  rw [hp.out] at X0 ⊢
  generalize w.alloc (.cells (f.cells a n) 28) = W0 at *
  have c0 := qcell X0.out 0 (.int .i64 f.eye) rfl
  have c1 := qcell X0.out 1 (.int .i64 f.rings) rfl
  have c2 := qcell X0.out 2 (.int .i64 f.sectors) rfl
  have c3 := qcell X0.out 3 (.slice a f.kinds.length n) rfl
  go_wp2_with fail
  refine (within_any f.eye 1 16 W0).mono ?_
  rintro e W1 ⟨rfl, rfl⟩
  cases h1 : inB f.eye 1 16
  · have VV := Lib.hid (V1.out h1)
    go_wp2_with fail
    go_ret
    exact ⟨by rw [VV.out]; rfl, B0.out⟩
  go_wp2_with fail
  refine (within_any f.rings 1 24 W1).mono ?_
  rintro e W2 ⟨rfl, rfl⟩
  cases h2 : inB f.rings 1 24
  · have VV := Lib.hid (V2.out h2)
    go_wp2_with fail
    go_ret
    exact ⟨by rw [VV.out]; rfl, B0.out⟩
  go_wp2_with fail
  refine (within_any f.sectors 2 96 W2).mono ?_
  rintro e W3 ⟨rfl, rfl⟩
  cases h3 : inB f.sectors 2 96
  · have VV := Lib.hid (V3.out h3)
    go_wp2_with fail
    go_ret
    exact ⟨by rw [VV.out]; rfl, B0.out⟩
  have ew : wrap64 (f.rings * f.sectors) = f.rings * f.sectors := by
    rw [inB_true] at h2 h3
    have h5 : f.rings * f.sectors ≤ 24 * 96 := Int.mul_le_mul (by omega) (by omega) (by omega) (by omega)
    have h6 := Int.mul_nonneg (show 0 ≤ f.rings by omega) (show 0 ≤ f.sectors by omega)
    unfold wrap64
    omega
  cases h4 : ((f.kinds.length : Int) != f.rings * f.sectors)
  case true =>
    have VV := Lib.hid (V4.out h4)
    go_wp2_with fail
    go_ret
    exact ⟨by rw [VV.out]; rfl, B0.out⟩
  have VV := Lib.hid (V5.out h1 h2 h3 h4)
  clear V1 V2 V3 V4 V5
  go_wp2_with fail
  refine (containsZ_any f.kinds (fun x => !kindB x) 108 VFN.out a f.kinds.length n W3 (HR.out W3 B0.out) (fun x _ W _ => VF.out x W)).mono ?_
  rintro e W4 ⟨rfl, b⟩
  have BF := Lib.hid (B0.out.trans (b.mono B0.out.size))
  clear b
  go_wp2_with fail
  go_ret
  exact ⟨by rw [VV.out]; rfl, BF.out⟩
end Go.Proofs.YtimmadkbkimonaaGreatDoor
namespace Go.Proofs.YtimmadkbkimonaaGreatDoor
set_option linter.unusedSimpArgs false
set_option linter.unusedVariables false
open Go.RowKit

section
variable (w : World) (o1 o2 o3 o4 : Obj)
theorem al1 : Below w.heap.size w (w.alloc o1) ∧ (w.alloc o1).heap[w.heap.size]? = some o1 := ⟨(Below.refl _ _).alloc (Nat.le_refl _) _, heap_alloc_last w o1⟩
theorem al2 : Below w.heap.size w ((w.alloc o1).alloc o2) ∧ ((w.alloc o1).alloc o2).heap[w.heap.size]? = some o1 ∧ ((w.alloc o1).alloc o2).heap[w.heap.size + 1]? = some o2 :=
  ⟨(al1 w o1).1.alloc (by simp) _, qblk ((Below.refl _ _).alloc (Nat.le_refl _) o2) (al1 w o1).2, qat (w.alloc o1) o2 _ (by simp)⟩
theorem al3 : Below w.heap.size w (((w.alloc o1).alloc o2).alloc o3) ∧ (((w.alloc o1).alloc o2).alloc o3).heap[w.heap.size]? = some o1 ∧ (((w.alloc o1).alloc o2).alloc o3).heap[w.heap.size + 1]? = some o2 ∧ (((w.alloc o1).alloc o2).alloc o3).heap[w.heap.size + 2]? = some o3 :=
  ⟨(al2 w o1 o2).1.alloc (by simp; omega) _, qblk ((Below.refl _ _).alloc (Nat.le_refl _) o3) (al2 w o1 o2).2.1, qblk ((Below.refl _ _).alloc (Nat.le_refl _) o3) (al2 w o1 o2).2.2, qat ((w.alloc o1).alloc o2) o3 _ (by simp)⟩
end
theorem qJF (f : FaceV) (a : Option Addr) (n : Nat) : (Tryz.prog.info? 28).map (·.size) = some (f.cells a n).size := by kernel_rfl
theorem qJC (c : CellV) : (Tryz.prog.info? 41).map (·.size) = some (cellA c).size := by kernel_rfl
theorem results_ct {P : Program} {fn : Func} {p u : Tmp} {ty : TypeId} (h : fn.results = #[.cell p ty, .tmp u]) (tmps : Array Value) (w : World) (g : Nat) (t : TypeId) (cs : Array Value) (fr : Nat × Nat) (d : TypeDesc)
    (hp : tmps.getD p undef = .pointer (some ⟨g, 0, none⟩)) (hg : w.heap[g]? = some (.cells cs t fr))
    (hu : P.underlying ty = some d) (hd : (match d with | .struct _ | .array _ _ => true | _ => false) = true) (hi : (P.info? ty).map (·.size) = some cs.size) :
    (results fn tmps).run P w = .ok (.tuple #[.agg cs, tmps.getD u undef]) w := by
  have hp' : tmps[p]?.getD undef = .pointer (some ⟨g, 0, none⟩) := by simpa using hp
  simp [results, h, hp', asAddr, run_loadVar_row w g t ty cs fr d hg hu hd hi]
theorem wpList_qstore {P : Program} {ops : Array Oper} {rest : List Oper} {op : Oper} {a : Act} {w : World} {Q : Exit → Act → World → Prop} (hgd : op.guard = none) (ty : TypeId) (x y : Operand) (ho : op.op = .store ty x y) (p : Nat)
    (c c' : Array Value) (t : TypeId) (hx : a.eval x = .pointer (some ⟨p, 0, none⟩)) (hy : a.eval y = .agg c') (hg : w.heap[p]? = some (.cells c t (0, 0))) (hi : (P.info? ty).map (·.size) = some c'.size) (hc : c.size = c'.size) (h1 : c'.all (·.oneCell') = true)
    (h : ∀ w', w'.heap[p]? = some (.cells c' t (0, 0)) → w.grownBy w' (some p) → wpList P ops Q rest (a.put op.dst undef) w') : wpList P ops Q (op :: rest) a w :=
  wpList_plain hgd fun _ hK => qstore ty x y ho p c c' t hx hy hg hi hc h1 fun w' h1 h2 _ => hK _ _ (h w' h1 h2)
theorem qstep {w w0 W : World} {p : Nat} (hb : Below w.heap.size w w0) (hg : w0.grownBy W (some p)) (hp : w.heap.size ≤ p) : Below w.heap.size w W := hb.grown hg hb.size (fun k e => by cases e; exact hp)
theorem qone (f : FaceV) (a : Option Addr) (n : Nat) : (f.cells a n).all (·.oneCell') = true := by simp [FaceV.cells, Value.oneCell']
theorem qoneC (c : CellV) : (cellA c).all (·.oneCell') = true := by simp [cellA, Value.oneCell']
end Go.Proofs.YtimmadkbkimonaaGreatDoor
namespace Go.Proofs.YtimmadkbkimonaaGreatDoor
set_option linter.unusedSimpArgs false
set_option linter.unusedVariables false
open Go.RowKit

section
variable {f : FaceV}
theorem cellF_has (h : f.valid = true) {i : Int} (hi : 0 ≤ i ∧ i < f.kinds.length) : hasF f (cellF f i) = true ∧ indexF f (cellF f i).1 (cellF f i).2 = i := by
  have h2 := FaceV.int h
  have e := Int.emod_add_mul_ediv i f.sectors
  have h3 := Int.emod_nonneg i (show f.sectors ≠ 0 by omega)
  have h4 := Int.emod_lt_of_pos i (show 0 < f.sectors by omega)
  have h5 : 0 ≤ i / f.sectors := Int.ediv_nonneg hi.1 (by omega)
  have h6 : i / f.sectors < f.rings := Int.ediv_lt_of_lt_mul (by omega) (by omega)
  refine ⟨hasF_iff.2 ⟨⟨h5, by show i / f.sectors ≤ _; omega⟩, h3, by show i % f.sectors ≤ _; omega⟩, ?_⟩
  show indexF f (i / f.sectors) (i % f.sectors) = i
  rw [indexF_of h _ ⟨h3, h4⟩]
  rw [Int.mul_comm]
  omega
theorem index_back (h : f.valid = true) {c : CellV} (hc : hasF f c = true) : (0 ≤ indexF f c.1 c.2 ∧ indexF f c.1 c.2 < f.kinds.length) ∧ cellF f (indexF f c.1 c.2) = c := by
  have hc2 := hasF_iff.1 hc
  exact ⟨index_lt h hc2.1 _, by rw [indexF_cell h, around_eq h (by omega)]⟩
theorem cellsF_mem {k : Int} {n : Nat} {c : CellV} : c ∈ cellsF f k n ↔ ∃ i : Nat, i < n ∧ f.kat i = k ∧ c = cellF f i := by
  unfold cellsF
  rw [List.mem_filterMap]
  constructor
  · rintro ⟨i, hi, e⟩
    split at e
    · rename_i hk
      cases e
      exact ⟨i, List.mem_range.1 hi, hk, rfl⟩
    · cases e
  · rintro ⟨i, hi, hk, rfl⟩
    exact ⟨i, List.mem_range.2 hi, by rw [if_pos hk]⟩
end
end Go.Proofs.YtimmadkbkimonaaGreatDoor
namespace Go.Proofs.YtimmadkbkimonaaGreatDoor
set_option linter.unusedSimpArgs false
set_option linter.unusedVariables false
open Go.RowKit

set_option maxHeartbeats 4000000 in
set_option maxRecDepth 100000 in
theorem weight_any (f : FaceV) (a : Option Addr) (n : Nat) (ring : Int) (w : World) (hv : 1 ≤ f.eye ∧ f.eye ≤ 16) (hq : 0 ≤ ring ∧ ring ≤ 24) :
    Calls Tryz.prog 110 #[.agg (f.cells a n), .int .i64 ring] w fun e w' => e = .returned (.int .i64 (weightF f ring)) ∧ Below w.heap.size w w' := by
  have A1 := Lib.hid (show wrap64 (wrap64 (2 * wrap64 (f.eye + ring)) + 1) = weightF f ring by unfold weightF wrap64; omega)
  have AL := Lib.hid (al1 w (.cells (f.cells a n) 28))
  go_enter Tryz.func110, Tryz.ntmps110
  go_upto_region 1 with fail
  obtain ⟨p, hp⟩ : ∃ p, Hid (w.heap.size = p) := ⟨_, Lib.hid rfl⟩
  rw [hp.out] at AL ⊢
  generalize (w.alloc (.cells (f.cells a n) 28)) = W0 at *
  have BF : Hid (Below w.heap.size w W0) := Lib.hid (by rw [hp.out]; exact AL.out.1)
  have XF : Hid (W0.heap[p]? = some (.cells (f.cells a n) 28 (0, 0))) := Lib.hid AL.out.2
  clear AL
  have c0 := qcell XF.out 0 (.int .i64 f.eye) rfl
  have c1 := qcell XF.out 1 (.int .i64 f.rings) rfl
  have c2 := qcell XF.out 2 (.int .i64 f.sectors) rfl
  have c3 := qcell XF.out 3 (.slice a f.kinds.length n) rfl
  go_wp2_with (first
    | (refine wpList_load_row rfl 28 _ rfl p rfl 28 (f.cells a n) (0, 0) _ XF.out Tryz.underlying28 rfl (by exact (qJF f a n)) ?_)
    | fail)
  go_ret
  exact ⟨rfl, BF.out⟩
end Go.Proofs.YtimmadkbkimonaaGreatDoor
namespace Go.Proofs.YtimmadkbkimonaaGreatDoor
set_option linter.unusedSimpArgs false
set_option linter.unusedVariables false
open Go.Shelf

def sh_lays137_ren : Go.Shelf.Ren := ⟨fun | 137 => 82 | 217 => 125 | 266 => 148 | n => n, fun | 9 => 9 | 5 => 5 | 3 => 3 | n => n, fun | n => n⟩
theorem sh_lays137 : Go.Proofs.Lays.n137 Tryz.prog sh_lays137_ren := {
  mixed := by kernel_rfl
  f137 := Tryz.func82.trans (congrArg some (by kernel_rfl))
  f217 := Tryz.func125.trans (congrArg some (by kernel_rfl))
  f266 := Tryz.func148.trans (congrArg some (by kernel_rfl))
  t3 := Tryz.underlying3
  a3 := Tryz.isAgg3
  z3 := Tryz.sizeOf3
  v3 := Tryz.zeroValue3
  t5 := Tryz.underlying5
  a5 := Tryz.isAgg5
  z5 := Tryz.sizeOf5
  v5 := Tryz.zeroValue5
  t9 := Tryz.underlying9
  a9 := Tryz.isAgg9
  z9 := Tryz.sizeOf9
  v9 := Tryz.zeroValue9 }
open Go.RowKit in
theorem sh_strings_IndexByte (s : ByteArray) (c : Int) (w : World) :
    Calls Tryz.prog 82 #[.string s, .int .u8 c] w fun e w' => e = .returned (.int .i64 (Lib.indexByte s.data.toList c.toNat.toUInt8)) ∧ w' = w := Any.strings_IndexByte sh_lays137 s c w
def sh_lays171_ren : Go.Shelf.Ren := ⟨fun | 171 => 114 | 243 => 139 | 246 => 152 | 283 => 178 | 284 => 179 | 285 => 180 | 286 => 181 | 129 => 177 | 317 => 194 | 318 => 195 | 319 => 196 | 320 => 197 | 337 => 201 | 338 => 202 | n => n, fun | 3 => 3 | 9 => 9 | 2 => 2 | 4 => 4 | 171 => 184 | 0 => 0 | 53 => 183 | 37 => 85 | 5 => 5 | 173 => 186 | 212 => 208 | 51 => 181 | 20 => 20 | 213 => 209 | 46 => 162 | 232 => 218 | 233 => 219 | n => n, fun | 17 => 5 | 18 => 6 | 19 => 7 | n => n⟩
theorem sh_lays171 : Go.Proofs.Lays.n171 Tryz.prog sh_lays171_ren := {
  mixed := by kernel_rfl
  f129 := Tryz.func177.trans (congrArg some (by kernel_rfl))
  f171 := Tryz.func114.trans (congrArg some (by kernel_rfl))
  f243 := Tryz.func139.trans (congrArg some (by kernel_rfl))
  f246 := Tryz.func152.trans (congrArg some (by kernel_rfl))
  f283 := Tryz.func178.trans (congrArg some (by kernel_rfl))
  f284 := Tryz.func179.trans (congrArg some (by kernel_rfl))
  f285 := Tryz.func180.trans (congrArg some (by kernel_rfl))
  f286 := Tryz.func181.trans (congrArg some (by kernel_rfl))
  f317 := Tryz.func194.trans (congrArg some (by kernel_rfl))
  f318 := Tryz.func195.trans (congrArg some (by kernel_rfl))
  f319 := Tryz.func196.trans (congrArg some (by kernel_rfl))
  f320 := Tryz.func197.trans (congrArg some (by kernel_rfl))
  f337 := Tryz.func201.trans (congrArg some (by kernel_rfl))
  f338 := Tryz.func202.trans (congrArg some (by kernel_rfl))
  t0 := Tryz.underlying0
  a0 := Tryz.isAgg0
  z0 := Tryz.sizeOf0
  v0 := Tryz.zeroValue0
  t2 := Tryz.underlying2
  a2 := Tryz.isAgg2
  z2 := Tryz.sizeOf2
  v2 := Tryz.zeroValue2
  t3 := Tryz.underlying3
  a3 := Tryz.isAgg3
  z3 := Tryz.sizeOf3
  v3 := Tryz.zeroValue3
  t4 := Tryz.underlying4
  a4 := Tryz.isAgg4
  z4 := Tryz.sizeOf4
  v4 := Tryz.zeroValue4
  t5 := Tryz.underlying5
  a5 := Tryz.isAgg5
  z5 := Tryz.sizeOf5
  v5 := Tryz.zeroValue5
  t9 := Tryz.underlying9
  a9 := Tryz.isAgg9
  z9 := Tryz.sizeOf9
  v9 := Tryz.zeroValue9
  t20 := Tryz.underlying20
  a20 := Tryz.isAgg20
  z20 := Tryz.sizeOf20
  v20 := Tryz.zeroValue20
  t37 := Tryz.underlying85
  a37 := Tryz.isAgg85
  z37 := Tryz.sizeOf85
  v37 := Tryz.zeroValue85
  t46 := Tryz.underlying162
  a46 := Tryz.isAgg162
  z46 := Tryz.sizeOf162
  v46 := Tryz.zeroValue162
  t51 := Tryz.underlying181
  a51 := Tryz.isAgg181
  z51 := Tryz.sizeOf181
  v51 := Tryz.zeroValue181
  t53 := Tryz.underlying183
  a53 := Tryz.isAgg183
  z53 := Tryz.sizeOf183
  v53 := Tryz.zeroValue183
  t171 := Tryz.underlying184
  a171 := Tryz.isAgg184
  z171 := Tryz.sizeOf184
  v171 := Tryz.zeroValue184
  t173 := Tryz.underlying186
  a173 := Tryz.isAgg186
  z173 := Tryz.sizeOf186
  v173 := Tryz.zeroValue186
  t212 := Tryz.underlying208
  a212 := Tryz.isAgg208
  z212 := Tryz.sizeOf208
  v212 := Tryz.zeroValue208
  t213 := Tryz.underlying209
  a213 := Tryz.isAgg209
  z213 := Tryz.sizeOf209
  t232 := Tryz.underlying218
  a232 := Tryz.isAgg218
  z232 := Tryz.sizeOf218
  v232 := Tryz.zeroValue218
  t233 := Tryz.underlying219
  a233 := Tryz.isAgg219
  z233 := Tryz.sizeOf219
  v233 := Tryz.zeroValue219
  g17 := by kernel_rfl
  g18 := by kernel_rfl
  g19 := by kernel_rfl }
open Go.RowKit Go.Sort Go.Lib in
theorem sh_strconv_Itoa_small (i : Nat) (hi : i < 100) (w : World) :
    Calls Tryz.prog 114 #[.int .i64 i] w fun e w' => e = .returned (.string ⟨(Lib.decDigits i).toArray⟩) ∧ w' = w := Any.strconv_Itoa_small sh_lays171 i hi w
def sh_laysC172_ren : Go.Shelf.Ren := ⟨fun | 172 => 124 | 244 => 146 | 245 => 147 | 247 => 162 | 279 => 163 | 280 => 164 | 281 => 165 | 282 => 166 | 287 => 186 | 316 => 187 | 171 => 114 | 205 => 188 | 321 => 198 | 322 => 199 | 243 => 139 | 246 => 152 | 283 => 178 | 284 => 179 | 285 => 180 | 286 => 181 | 129 => 177 | 317 => 194 | 318 => 195 | 319 => 196 | 320 => 197 | 337 => 201 | 338 => 202 | n => n, fun | 9 => 9 | 3 => 3 | 75 => 89 | 76 => 90 | 4 => 4 | 5 => 5 | 167 => 166 | 37 => 85 | 0 => 0 | 85 => 167 | 2 => 2 | 168 => 169 | 53 => 183 | 175 => 196 | 46 => 162 | 210 => 200 | 127 => 133 | 145 => 214 | 143 => 212 | 21 => 21 | 171 => 184 | 173 => 186 | 212 => 208 | 51 => 181 | 20 => 20 | 213 => 209 | 232 => 218 | 233 => 219 | 80 => 94 | n => n, fun | 15 => 3 | 16 => 4 | 17 => 5 | 18 => 6 | 19 => 7 | n => n⟩
theorem sh_laysC172 : Go.Proofs.LaysC.n172 Tryz.prog sh_laysC172_ren := {
  mixed := by kernel_rfl
  f129 := Tryz.func177.trans (congrArg some (by kernel_rfl))
  f171 := Tryz.func114.trans (congrArg some (by kernel_rfl))
  f172 := Tryz.func124.trans (congrArg some (by kernel_rfl))
  f205 := Tryz.func188.trans (congrArg some (by kernel_rfl))
  f243 := Tryz.func139.trans (congrArg some (by kernel_rfl))
  f244 := Tryz.func146.trans (congrArg some (by kernel_rfl))
  f245 := Tryz.func147.trans (congrArg some (by kernel_rfl))
  f246 := Tryz.func152.trans (congrArg some (by kernel_rfl))
  f247 := Tryz.func162.trans (congrArg some (by kernel_rfl))
  f279 := Tryz.func163.trans (congrArg some (by kernel_rfl))
  f280 := Tryz.func164.trans (congrArg some (by kernel_rfl))
  f281 := Tryz.func165.trans (congrArg some (by kernel_rfl))
  f282 := Tryz.func166.trans (congrArg some (by kernel_rfl))
  f283 := Tryz.func178.trans (congrArg some (by kernel_rfl))
  f284 := Tryz.func179.trans (congrArg some (by kernel_rfl))
  f285 := Tryz.func180.trans (congrArg some (by kernel_rfl))
  f286 := Tryz.func181.trans (congrArg some (by kernel_rfl))
  f287 := Tryz.func186.trans (congrArg some (by kernel_rfl))
  f316 := Tryz.func187.trans (congrArg some (by kernel_rfl))
  f317 := Tryz.func194.trans (congrArg some (by kernel_rfl))
  f318 := Tryz.func195.trans (congrArg some (by kernel_rfl))
  f319 := Tryz.func196.trans (congrArg some (by kernel_rfl))
  f320 := Tryz.func197.trans (congrArg some (by kernel_rfl))
  f321 := Tryz.func198.trans (congrArg some (by kernel_rfl))
  f322 := Tryz.func199.trans (congrArg some (by kernel_rfl))
  f337 := Tryz.func201.trans (congrArg some (by kernel_rfl))
  f338 := Tryz.func202.trans (congrArg some (by kernel_rfl))
  t0 := Tryz.underlying0
  a0 := Tryz.isAgg0
  z0 := Tryz.sizeOf0
  v0 := Tryz.zeroValue0
  t2 := Tryz.underlying2
  a2 := Tryz.isAgg2
  z2 := Tryz.sizeOf2
  v2 := Tryz.zeroValue2
  t3 := Tryz.underlying3
  a3 := Tryz.isAgg3
  z3 := Tryz.sizeOf3
  v3 := Tryz.zeroValue3
  t4 := Tryz.underlying4
  a4 := Tryz.isAgg4
  z4 := Tryz.sizeOf4
  v4 := Tryz.zeroValue4
  t5 := Tryz.underlying5
  a5 := Tryz.isAgg5
  z5 := Tryz.sizeOf5
  v5 := Tryz.zeroValue5
  t9 := Tryz.underlying9
  a9 := Tryz.isAgg9
  z9 := Tryz.sizeOf9
  v9 := Tryz.zeroValue9
  t20 := Tryz.underlying20
  a20 := Tryz.isAgg20
  z20 := Tryz.sizeOf20
  v20 := Tryz.zeroValue20
  t21 := Tryz.underlying21
  a21 := Tryz.isAgg21
  z21 := Tryz.sizeOf21
  v21 := Tryz.zeroValue21
  t37 := Tryz.underlying85
  a37 := Tryz.isAgg85
  z37 := Tryz.sizeOf85
  v37 := Tryz.zeroValue85
  t46 := Tryz.underlying162
  a46 := Tryz.isAgg162
  z46 := Tryz.sizeOf162
  v46 := Tryz.zeroValue162
  t51 := Tryz.underlying181
  a51 := Tryz.isAgg181
  z51 := Tryz.sizeOf181
  v51 := Tryz.zeroValue181
  t53 := Tryz.underlying183
  a53 := Tryz.isAgg183
  z53 := Tryz.sizeOf183
  v53 := Tryz.zeroValue183
  t75 := Tryz.underlying89
  a75 := Tryz.isAgg89
  z75 := Tryz.sizeOf89
  v75 := Tryz.zeroValue89
  t76 := Tryz.underlying90
  a76 := Tryz.isAgg90
  z76 := Tryz.sizeOf90
  v76 := Tryz.zeroValue90
  t85 := Tryz.underlying167
  a85 := Tryz.isAgg167
  z85 := Tryz.sizeOf167
  v85 := Tryz.zeroValue167
  t127 := Tryz.underlying133
  a127 := Tryz.isAgg133
  z127 := Tryz.sizeOf133
  v127 := Tryz.zeroValue133
  t143 := Tryz.underlying212
  a143 := Tryz.isAgg212
  z143 := Tryz.sizeOf212
  v143 := Tryz.zeroValue212
  t145 := Tryz.underlying214
  a145 := Tryz.isAgg214
  z145 := Tryz.sizeOf214
  v145 := Tryz.zeroValue214
  t167 := Tryz.underlying166
  a167 := Tryz.isAgg166
  z167 := Tryz.sizeOf166
  v167 := Tryz.zeroValue166
  t168 := Tryz.underlying169
  a168 := Tryz.isAgg169
  z168 := Tryz.sizeOf169
  v168 := Tryz.zeroValue169
  t171 := Tryz.underlying184
  a171 := Tryz.isAgg184
  z171 := Tryz.sizeOf184
  v171 := Tryz.zeroValue184
  t173 := Tryz.underlying186
  a173 := Tryz.isAgg186
  z173 := Tryz.sizeOf186
  v173 := Tryz.zeroValue186
  t175 := Tryz.underlying196
  a175 := Tryz.isAgg196
  z175 := Tryz.sizeOf196
  v175 := Tryz.zeroValue196
  t210 := Tryz.underlying200
  a210 := Tryz.isAgg200
  z210 := Tryz.sizeOf200
  v210 := Tryz.zeroValue200
  t212 := Tryz.underlying208
  a212 := Tryz.isAgg208
  z212 := Tryz.sizeOf208
  v212 := Tryz.zeroValue208
  t213 := Tryz.underlying209
  a213 := Tryz.isAgg209
  z213 := Tryz.sizeOf209
  t232 := Tryz.underlying218
  a232 := Tryz.isAgg218
  z232 := Tryz.sizeOf218
  v232 := Tryz.zeroValue218
  t233 := Tryz.underlying219
  a233 := Tryz.isAgg219
  z233 := Tryz.sizeOf219
  v233 := Tryz.zeroValue219
  g15 := by kernel_rfl
  g16 := by kernel_rfl
  g17 := by kernel_rfl
  g18 := by kernel_rfl
  g19 := by kernel_rfl
  t80 := Tryz.underlying94
  a80 := Tryz.isAgg94
  z80 := Tryz.sizeOf94
  v80 := Tryz.zeroValue94
  i0 := by kernel_rfl
  i2 := by kernel_rfl
  i3 := by kernel_rfl
  i4 := by kernel_rfl
  i5 := by kernel_rfl
  i9 := by kernel_rfl
  i20 := by kernel_rfl
  i21 := by kernel_rfl
  i37 := by kernel_rfl
  i46 := by kernel_rfl
  i51 := by kernel_rfl
  i53 := by kernel_rfl
  i75 := by kernel_rfl
  i76 := by kernel_rfl
  i80 := by kernel_rfl
  i85 := by kernel_rfl
  i127 := by kernel_rfl
  i143 := by kernel_rfl
  i145 := by kernel_rfl
  i167 := by kernel_rfl
  i168 := by kernel_rfl
  i171 := by kernel_rfl
  i173 := by kernel_rfl
  i175 := by kernel_rfl
  i210 := by kernel_rfl
  i212 := by kernel_rfl
  i232 := by kernel_rfl
  i233 := by kernel_rfl
  m15 := by kernel_rfl
  m16 := by kernel_rfl
  m17 := by kernel_rfl
  m18 := by kernel_rfl
  m19 := by kernel_rfl
  c0 := by kernel_rfl
  c2 := by kernel_rfl
  c3 := by kernel_rfl
  c4 := by kernel_rfl
  c5 := by kernel_rfl
  c9 := by kernel_rfl
  c20 := by kernel_rfl
  c21 := by kernel_rfl
  c37 := by kernel_rfl
  c46 := by kernel_rfl
  c51 := by kernel_rfl
  c53 := by kernel_rfl
  c75 := by kernel_rfl
  c76 := by kernel_rfl
  c80 := by kernel_rfl
  c85 := by kernel_rfl
  c127 := by kernel_rfl
  c143 := by kernel_rfl
  c145 := by kernel_rfl
  c167 := by kernel_rfl
  c168 := by kernel_rfl
  c171 := by kernel_rfl
  c173 := by kernel_rfl
  c175 := by kernel_rfl
  c210 := by kernel_rfl
  c212 := by kernel_rfl
  c213 := by kernel_rfl
  c232 := by kernel_rfl
  c233 := by kernel_rfl }
open Go.RowKit in
theorem sh_strconv_Atoi_ok (s : ByteArray) (hmax : s.size ≤ 9223372036854775806) (v : Int) (h : Lib.atoiAll s.data.toList = .ok v) (w : World) :
    Calls Tryz.prog 124 #[.string s] w fun e w' => e = .returned (.tuple #[.int .i64 v, .nilIface]) ∧ (w' = w ∨ ∃ t, w' = Lib.bytesWorld w 5 t) := Any.strconv_Atoi_ok sh_laysC172 s hmax v h w
open Go.RowKit in
theorem sh_strconv_Atoi_syntax (s : ByteArray) (hlim : s.size ≤ 281474976710656) (h : Lib.atoiAll s.data.toList = Lib.NumEnd.syntax) (ev : Value) (w : World) (hv : w.cell? ⟨3, 0, none⟩ = some ev) (hev : ev = .nilIface ∨ ∃ te pe, ev = .iface te pe) :
    Calls Tryz.prog 124 #[.string s] w fun e w' => ∃ N, e = .returned (.tuple #[.int .i64 (0), .iface 169 (.pointer (some ⟨N, 0, none⟩))]) ∧ w.heap.size ≤ N ∧ w'.heap[N]? = some (.cells #[.string ⟨#[65, 116, 111, 105]⟩, .string s, ev] 200 (0, 0)) ∧ Below w.heap.size w w' := Any.strconv_Atoi_syntax sh_laysC172 s hlim h ev w hv hev
open Go.RowKit in
theorem sh_strconv_Atoi_range (s : ByteArray) (hlim : s.size ≤ 281474976710656) (h : Lib.atoiAll s.data.toList = .range) (ev : Value) (w : World) (hv : w.cell? ⟨4, 0, none⟩ = some ev) (hev : ev = .nilIface ∨ ∃ te pe, ev = .iface te pe) :
    Calls Tryz.prog 124 #[.string s] w fun e w' => ∃ N, e = .returned (.tuple #[.int .i64 (Lib.atoiSat s.data.toList), .iface 169 (.pointer (some ⟨N, 0, none⟩))]) ∧ w.heap.size ≤ N ∧ w'.heap[N]? = some (.cells #[.string ⟨#[65, 116, 111, 105]⟩, .string s, ev] 200 (0, 0)) ∧ Below w.heap.size w w' := Any.strconv_Atoi_range sh_laysC172 s hlim h ev w hv hev
def sh_lays145_ren : Go.Shelf.Ren := ⟨fun | 145 => 79 | 220 => 115 | 219 => 140 | 217 => 125 | 225 => 153 | 224 => 154 | 267 => 155 | 266 => 148 | 314 => 182 | n => n, fun | 9 => 9 | 4 => 4 | 59 => 97 | 3 => 3 | 5 => 5 | 46 => 162 | 146 => 188 | 51 => 181 | n => n, fun | 1 => 0 | n => n⟩
theorem sh_lays145 : Go.Proofs.Lays.n145 Tryz.prog sh_lays145_ren := {
  mixed := by kernel_rfl
  f145 := Tryz.func79.trans (congrArg some (by kernel_rfl))
  f217 := Tryz.func125.trans (congrArg some (by kernel_rfl))
  f219 := Tryz.func140.trans (congrArg some (by kernel_rfl))
  f220 := Tryz.func115.trans (congrArg some (by kernel_rfl))
  f224 := Tryz.func154.trans (congrArg some (by kernel_rfl))
  f225 := Tryz.func153.trans (congrArg some (by kernel_rfl))
  f266 := Tryz.func148.trans (congrArg some (by kernel_rfl))
  f267 := Tryz.func155.trans (congrArg some (by kernel_rfl))
  f314 := Tryz.func182.trans (congrArg some (by kernel_rfl))
  t3 := Tryz.underlying3
  a3 := Tryz.isAgg3
  z3 := Tryz.sizeOf3
  v3 := Tryz.zeroValue3
  t4 := Tryz.underlying4
  a4 := Tryz.isAgg4
  z4 := Tryz.sizeOf4
  v4 := Tryz.zeroValue4
  t5 := Tryz.underlying5
  a5 := Tryz.isAgg5
  z5 := Tryz.sizeOf5
  v5 := Tryz.zeroValue5
  t9 := Tryz.underlying9
  a9 := Tryz.isAgg9
  z9 := Tryz.sizeOf9
  v9 := Tryz.zeroValue9
  t46 := Tryz.underlying162
  a46 := Tryz.isAgg162
  z46 := Tryz.sizeOf162
  v46 := Tryz.zeroValue162
  t51 := Tryz.underlying181
  a51 := Tryz.isAgg181
  z51 := Tryz.sizeOf181
  v51 := Tryz.zeroValue181
  t59 := Tryz.underlying97
  a59 := Tryz.isAgg97
  z59 := Tryz.sizeOf97
  v59 := Tryz.zeroValue97
  t146 := Tryz.underlying188
  a146 := Tryz.isAgg188
  z146 := Tryz.sizeOf188
  v146 := Tryz.zeroValue188
  g1 := by kernel_rfl }
open Go.RowKit Go.Lib in
theorem sh_strings_Cut (s sep : ByteArray) (m : Int) (w : World) (hs : s.size < 4294967281) (hm : w.cell? ⟨0, 0, none⟩ = some (.int .i64 m)) :
    Calls Tryz.prog 79 #[.string s, .string sep] w fun e w' => e = .returned (.tuple #[.string ⟨(Lib.cut s.data.toList sep.data.toList).1.toArray⟩, .string ⟨(Lib.cut s.data.toList sep.data.toList).2.1.toArray⟩, .bool (Lib.cut s.data.toList sep.data.toList).2.2]) ∧ ∃ n, w' = w.drewN n := Any.strings_Cut sh_lays145 s sep m w hs hm
def sh_lays146_ren : Go.Shelf.Ren := ⟨fun | 146 => 123 | 221 => 145 | 268 => 159 | 138 => 160 | 143 => 161 | 195 => 184 | 197 => 142 | 218 => 185 | 219 => 140 | 260 => 156 | 217 => 125 | 225 => 153 | 224 => 154 | 267 => 155 | 266 => 148 | 314 => 182 | n => n, fun | 9 => 9 | 31 => 103 | 3 => 3 | 4 => 4 | 0 => 0 | 105 => 155 | 21 => 21 | 5 => 5 | 46 => 162 | 119 => 190 | 139 => 193 | 138 => 192 | 146 => 188 | 51 => 181 | n => n, fun | 1 => 0 | 3 => 1 | 4 => 2 | n => n⟩
theorem sh_lays146 : Go.Proofs.Lays.n146 Tryz.prog sh_lays146_ren := {
  mixed := by kernel_rfl
  f138 := Tryz.func160.trans (congrArg some (by kernel_rfl))
  f143 := Tryz.func161.trans (congrArg some (by kernel_rfl))
  f146 := Tryz.func123.trans (congrArg some (by kernel_rfl))
  f195 := Tryz.func184.trans (congrArg some (by kernel_rfl))
  f197 := Tryz.func142.trans (congrArg some (by kernel_rfl))
  f217 := Tryz.func125.trans (congrArg some (by kernel_rfl))
  f218 := Tryz.func185.trans (congrArg some (by kernel_rfl))
  f219 := Tryz.func140.trans (congrArg some (by kernel_rfl))
  f221 := Tryz.func145.trans (congrArg some (by kernel_rfl))
  f224 := Tryz.func154.trans (congrArg some (by kernel_rfl))
  f225 := Tryz.func153.trans (congrArg some (by kernel_rfl))
  f260 := Tryz.func156.trans (congrArg some (by kernel_rfl))
  f266 := Tryz.func148.trans (congrArg some (by kernel_rfl))
  f267 := Tryz.func155.trans (congrArg some (by kernel_rfl))
  f268 := Tryz.func159.trans (congrArg some (by kernel_rfl))
  f314 := Tryz.func182.trans (congrArg some (by kernel_rfl))
  t0 := Tryz.underlying0
  a0 := Tryz.isAgg0
  z0 := Tryz.sizeOf0
  v0 := Tryz.zeroValue0
  t3 := Tryz.underlying3
  a3 := Tryz.isAgg3
  z3 := Tryz.sizeOf3
  v3 := Tryz.zeroValue3
  t4 := Tryz.underlying4
  a4 := Tryz.isAgg4
  z4 := Tryz.sizeOf4
  v4 := Tryz.zeroValue4
  t5 := Tryz.underlying5
  a5 := Tryz.isAgg5
  z5 := Tryz.sizeOf5
  v5 := Tryz.zeroValue5
  t9 := Tryz.underlying9
  a9 := Tryz.isAgg9
  z9 := Tryz.sizeOf9
  v9 := Tryz.zeroValue9
  t21 := Tryz.underlying21
  a21 := Tryz.isAgg21
  z21 := Tryz.sizeOf21
  v21 := Tryz.zeroValue21
  t31 := Tryz.underlying103
  a31 := Tryz.isAgg103
  z31 := Tryz.sizeOf103
  v31 := Tryz.zeroValue103
  t46 := Tryz.underlying162
  a46 := Tryz.isAgg162
  z46 := Tryz.sizeOf162
  v46 := Tryz.zeroValue162
  t51 := Tryz.underlying181
  a51 := Tryz.isAgg181
  z51 := Tryz.sizeOf181
  v51 := Tryz.zeroValue181
  t105 := Tryz.underlying155
  a105 := Tryz.isAgg155
  z105 := Tryz.sizeOf155
  v105 := Tryz.zeroValue155
  t119 := Tryz.underlying190
  a119 := Tryz.isAgg190
  z119 := Tryz.sizeOf190
  t138 := Tryz.underlying192
  a138 := Tryz.isAgg192
  z138 := Tryz.sizeOf192
  v138 := Tryz.zeroValue192
  t139 := Tryz.underlying193
  a139 := Tryz.isAgg193
  z139 := Tryz.sizeOf193
  v139 := Tryz.zeroValue193
  t146 := Tryz.underlying188
  a146 := Tryz.isAgg188
  z146 := Tryz.sizeOf188
  v146 := Tryz.zeroValue188
  g1 := by kernel_rfl
  g3 := by kernel_rfl
  g4 := by kernel_rfl }
open Go.RowKit Go.Lib in
theorem sh_strings_Split (s sep : ByteArray) (m : Int) (w : World) (hs : s.size < 4294967281) (hm : w.cell? ⟨0, 0, none⟩ = some (.int .i64 m)) (h1 : 1 ≤ sep.size) :
    Calls Tryz.prog 123 #[.string s, .string sep] w fun e w' =>
      e = .returned (.slice (some ⟨w.heap.size, 0, none⟩) (Lib.countB s sep + 1) (Lib.countB s sep + 1)) ∧ w' = w.alloc (.cells ((Lib.splitB sep 0 (Lib.countB s sep) s).map Value.string).toArray 9) := Any.strings_Split sh_lays146 (by kernel_rfl) s sep m w hs hm h1
end Go.Proofs.YtimmadkbkimonaaGreatDoor
namespace Go.Proofs.YtimmadkbkimonaaGreatDoor
set_option linter.unusedSimpArgs false
set_option linter.unusedVariables false
open Go.Shelf Go.RowKit

def bw_ren : Go.Shelf.Ren := ⟨fun | 240 => 113 | 276 => 138 | 167 => 75 | 166 => 73 | 169 => 76 | n => n, fun | 0 => 0 | 3 => 3 | 4 => 4 | 5 => 5 | 9 => 9 | 20 => 20 | 37 => 85 | 70 => 84 | 72 => 87 | 75 => 89 | 80 => 94 | 164 => 151 | 127 => 133 | n => n, fun n => n⟩
theorem bw_lays167 : Go.Proofs.Lays.n167 Tryz.prog bw_ren := {
  mixed := by kernel_rfl
  f167 := Tryz.func75.trans (congrArg some (by kernel_rfl))
  f240 := Tryz.func113.trans (congrArg some (by kernel_rfl))
  f276 := Tryz.func138.trans (congrArg some (by kernel_rfl))
  t0 := by kernel_rfl
  a0 := fun _ => by kernel_rfl
  z0 := fun _ => by kernel_rfl
  v0 := fun _ => by kernel_rfl
  t4 := Tryz.underlying4
  a4 := Tryz.isAgg4
  z4 := Tryz.sizeOf4
  v4 := Tryz.zeroValue4
  t5 := Tryz.underlying5
  a5 := Tryz.isAgg5
  z5 := Tryz.sizeOf5
  v5 := Tryz.zeroValue5
  t9 := Tryz.underlying9
  a9 := Tryz.isAgg9
  z9 := Tryz.sizeOf9
  v9 := Tryz.zeroValue9
  t20 := by kernel_rfl
  a20 := fun _ => by kernel_rfl
  z20 := fun _ => by kernel_rfl
  v20 := fun _ => by kernel_rfl
  t37 := Tryz.underlying85
  a37 := Tryz.isAgg85
  z37 := Tryz.sizeOf85
  v37 := Tryz.zeroValue85
  t70 := Tryz.underlying84
  a70 := Tryz.isAgg84
  z70 := Tryz.sizeOf84
  v70 := Tryz.zeroValue84
  t72 := Tryz.underlying87
  a72 := Tryz.isAgg87
  z72 := Tryz.sizeOf87
  v72 := Tryz.zeroValue87
  t75 := Tryz.underlying89
  a75 := Tryz.isAgg89
  z75 := Tryz.sizeOf89
  v75 := Tryz.zeroValue89
  t164 := Tryz.underlying151
  a164 := Tryz.isAgg151
  z164 := Tryz.sizeOf151
  v164 := Tryz.zeroValue151 }
theorem bw_lays166 : Go.Proofs.Lays.n166 Tryz.prog bw_ren := {
  mixed := by kernel_rfl
  f166 := Tryz.func73.trans (congrArg some (by kernel_rfl))
  f240 := Tryz.func113.trans (congrArg some (by kernel_rfl))
  f276 := Tryz.func138.trans (congrArg some (by kernel_rfl))
  t0 := by kernel_rfl
  a0 := fun _ => by kernel_rfl
  z0 := fun _ => by kernel_rfl
  v0 := fun _ => by kernel_rfl
  t3 := Tryz.underlying3
  a3 := Tryz.isAgg3
  z3 := Tryz.sizeOf3
  v3 := Tryz.zeroValue3
  t4 := Tryz.underlying4
  a4 := Tryz.isAgg4
  z4 := Tryz.sizeOf4
  v4 := Tryz.zeroValue4
  t9 := Tryz.underlying9
  a9 := Tryz.isAgg9
  z9 := Tryz.sizeOf9
  v9 := Tryz.zeroValue9
  t20 := by kernel_rfl
  a20 := fun _ => by kernel_rfl
  z20 := fun _ => by kernel_rfl
  v20 := fun _ => by kernel_rfl
  t37 := Tryz.underlying85
  a37 := Tryz.isAgg85
  z37 := Tryz.sizeOf85
  v37 := Tryz.zeroValue85
  t70 := Tryz.underlying84
  a70 := Tryz.isAgg84
  z70 := Tryz.sizeOf84
  v70 := Tryz.zeroValue84
  t72 := Tryz.underlying87
  a72 := Tryz.isAgg87
  z72 := Tryz.sizeOf87
  v72 := Tryz.zeroValue87
  t75 := Tryz.underlying89
  a75 := Tryz.isAgg89
  z75 := Tryz.sizeOf89
  v75 := Tryz.zeroValue89
  t164 := Tryz.underlying151
  a164 := Tryz.isAgg151
  z164 := Tryz.sizeOf151
  v164 := Tryz.zeroValue151 }
theorem bw_lays169 : Go.Proofs.Lays.n169 Tryz.prog bw_ren := {
  mixed := by kernel_rfl
  f169 := Tryz.func76.trans (congrArg some (by kernel_rfl))
  t0 := by kernel_rfl
  a0 := fun _ => by kernel_rfl
  z0 := fun _ => by kernel_rfl
  v0 := fun _ => by kernel_rfl
  t3 := Tryz.underlying3
  a3 := Tryz.isAgg3
  z3 := Tryz.sizeOf3
  v3 := Tryz.zeroValue3
  t9 := Tryz.underlying9
  a9 := Tryz.isAgg9
  z9 := Tryz.sizeOf9
  v9 := Tryz.zeroValue9
  t37 := Tryz.underlying85
  a37 := Tryz.isAgg85
  z37 := Tryz.sizeOf85
  v37 := Tryz.zeroValue85
  t70 := Tryz.underlying84
  a70 := Tryz.isAgg84
  z70 := Tryz.sizeOf84
  v70 := Tryz.zeroValue84
  t72 := Tryz.underlying87
  a72 := Tryz.isAgg87
  z72 := Tryz.sizeOf87
  v72 := Tryz.zeroValue87
  t127 := Tryz.underlying133
  a127 := Tryz.isAgg133
  z127 := Tryz.sizeOf133
  v127 := Tryz.zeroValue133 }
theorem bw_extra : Builder.Extra Tryz.prog bw_ren := {
  sizeBuilder := by kernel_rfl
  liesBuilder := by kernel_rfl
  t5 := Tryz.underlying5
  a5 := Tryz.isAgg5
  z5 := Tryz.sizeOf5
  v5 := Tryz.zeroValue5
  infoByte := by kernel_rfl
  cellsByte := by kernel_rfl
  sizeByte := by kernel_rfl
  neB5 := by decide }
def BldW (B b : Nat) (l : List UInt8) (w : World) : Prop := Lib.IsBuilder 87 5 B b (Lib.byteCells l) w ∧ B ≤ w.heap.size
theorem bld_byte (B b : Nat) (l : List UInt8) (c : UInt8) (w : World) (h : BldW B b l w) (hl : l.length + 1 ≤ 1000000) :
    Calls Tryz.prog 75 #[.pointer (some ⟨b, 0, none⟩), .int .u8 (c.toNat : Int)] w fun e w' => e = .returned .nilIface ∧ BldW B b (l ++ [c]) w' ∧ Below B w w' := by
  refine (Any.Builder_WriteByte bw_lays167 bw_extra B b (Lib.byteCells l) (c.toNat : Int) w h.1 (by unfold Lib.byteCells; rw [List.length_map]; omega) h.2).mono ?_
  rintro e w' ⟨rfl, h1, h2⟩
  refine ⟨rfl, ⟨.inr ?_, Nat.le_trans h.2 h2.size⟩, h2⟩
  unfold Lib.byteCells at h1 ⊢
  rw [List.map_append]
  exact h1
theorem bld_string (B b : Nat) (l : List UInt8) (s : ByteArray) (w : World) (h : BldW B b l w) (hl : l.length + s.size ≤ 1000000) :
    Calls Tryz.prog 73 #[.pointer (some ⟨b, 0, none⟩), .string s] w fun e w' => e = .returned (.tuple #[.int .i64 s.size, .nilIface]) ∧ BldW B b (l ++ s.data.toList) w' ∧ Below B w w' := by
  refine (Any.Builder_WriteString bw_lays166 bw_extra B b (Lib.byteCells l) s w h.1 (by unfold Lib.byteCells; rw [List.length_map]; omega) h.2).mono ?_
  rintro e w' ⟨rfl, h1, h2⟩
  refine ⟨rfl, ⟨.inr ?_, Nat.le_trans h.2 h2.size⟩, h2⟩
  unfold Lib.byteCells at h1 ⊢
  rw [List.map_append]
  exact h1
theorem bld_text (B b : Nat) (l : List UInt8) (w : World) (h : BldW B b l w) :
    Calls Tryz.prog 76 #[.pointer (some ⟨b, 0, none⟩)] w fun e w' => e = .returned (.string ⟨l.toArray⟩) ∧ Below B w w' := Any.Builder_String_any bw_lays169 bw_extra B b l w h.1 h.2
theorem bld_zero {w : World} {B b : Nat} (hb : B ≤ b) (h : w.heap[b]? = some (.cells #[.pointer none, .slice none 0 0] 87 (0, 0))) : BldW B b [] w := by
  refine ⟨.inl ⟨hb, _, h, ⟨rfl, .inl ⟨rfl, rfl⟩⟩, by simp [Value.ownBlock]⟩, ?_⟩
  rcases Nat.lt_or_ge b w.heap.size with h1 | h1
  · omega
  · rw [Array.getElem?_eq_none h1] at h
    cases h
end Go.Proofs.YtimmadkbkimonaaGreatDoor
namespace Go.Proofs.YtimmadkbkimonaaGreatDoor
set_option linter.unusedSimpArgs false
set_option linter.unusedVariables false
open Go.RowKit

def signB (k : Int) : UInt8 := if k = 0 then 46 else if k = 1 then 115 else 102
def kindOf (b : UInt8) : Int := if b = 46 then 0 else if b = 115 then 1 else 2
def isSign (b : UInt8) : Bool := b == 46 || (b == 115 || b == 102)
def itoaB (n : Nat) : List UInt8 := if n < 10 then [UInt8.ofNat (48 + n)] else [UInt8.ofNat (48 + n / 10), UInt8.ofNat (48 + n % 10)]
def faceB : List UInt8 := [102, 97, 99, 101]
def headB (f : FaceV) : List UInt8 := faceB ++ 32 :: (itoaB f.eye.toNat ++ 32 :: (itoaB f.rings.toNat ++ 32 :: itoaB f.sectors.toNat))
def cutL : List UInt8 → List UInt8 × List UInt8 × Bool
  | [] => ([], [], false)
  | b :: l => if b = 10 then ([], l, true) else (b :: (cutL l).1, (cutL l).2.1, (cutL l).2.2)
def wordsL : List UInt8 → List (List UInt8)
  | [] => [[]]
  | b :: l => if b = 32 then [] :: wordsL l else match wordsL l with
    | [] => [[b]]
    | w :: ws => (b :: w) :: ws
def numP (w : List UInt8) : Option Nat := (List.range 100).find? fun n => itoaB n == w
def headF (f : FaceV) : Bool := inB f.eye 1 16 && (inB f.rings 1 24 && inB f.sectors 2 96)
def headP (line : List UInt8) : Option FaceV := match wordsL line with
  | [w, a, b, c] => match numP a, numP b, numP c with
    | some x, some y, some z => if (w == faceB && headF ⟨x, y, z, []⟩) = true then some ⟨x, y, z, []⟩ else none
    | _, _, _ => none
  | _ => none
def endP (lines : Nat) (f : FaceV) : FaceV × Int × Int := if lines = 0 ∨ (lines : Int) ≤ f.rings then (zeroF, 11, (lines : Int) + 1) else (f, 0, 0)
def rowB (lines : Nat) (f : FaceV) (line : List UInt8) : Bool := decide ((lines : Int) ≤ f.rings) && (decide ((line.length : Int) = f.sectors) && line.all isSign)
def parseGo : Nat → Nat → FaceV → List UInt8 → FaceV × Int × Int
  | 0, lines, f, rest => (zeroF, 0, 0)
  | n + 1, lines, f, rest =>
    if rest = [] then endP lines f
    else if lines = 0 then match headP (cutL rest).1 with
      | none => (zeroF, 11, 1)
      | some g => if (cutL rest).2.2 = true then parseGo n 1 g (cutL rest).2.1 else (zeroF, 11, 1)
    else if rowB lines f (cutL rest).1 = true ∧ (cutL rest).2.2 = true then parseGo n (lines + 1) { f with kinds := f.kinds ++ (cutL rest).1.map kindOf } (cutL rest).2.1
    else (zeroF, 11, (lines : Int) + 1)
def parseP (s : List UInt8) : FaceV × Int × Int := if 65536 < s.length then (zeroF, 2, 0) else parseGo (s.length + 1) 0 zeroF s
def bodyB (S : Nat) : Nat → List Int → List UInt8
  | _, [] => []
  | i, k :: ks => (if i % S = 0 then [10] else []) ++ signB k :: bodyB S (i + 1) ks
def printF (f : FaceV) : List UInt8 := headB f ++ (bodyB f.S 0 f.kinds ++ [10])
def printP (f : FaceV) : List UInt8 × Int := if f.valid = true then (printF f, 0) else ([], 10)
def restB (S : Nat) : Nat → List Int → List UInt8
  | 0, _ => []
  | r + 1, ks => (ks.take S).map signB ++ 10 :: restB S r (ks.drop S)
theorem body_app (S : Nat) : ∀ (u v : List Int) (i : Nat), bodyB S i (u ++ v) = bodyB S i u ++ bodyB S (i + u.length) v
  | [], v, i => by simp [bodyB]
  | k :: u, v, i => by
    show _ ++ signB k :: bodyB S (i + 1) (u ++ v) = (_ ++ signB k :: bodyB S (i + 1) u) ++ _
    rw [body_app S u v (i + 1), List.append_assoc, List.length_cons, show i + 1 + u.length = i + (u.length + 1) by omega]
    rfl
theorem body_in (S : Nat) : ∀ (u : List Int) (i : Nat), (∀ j, j < u.length → (i + j) % S ≠ 0) → bodyB S i u = u.map signB
  | [], _, _ => rfl
  | k :: u, i, h => by
    show (if i % S = 0 then [10] else []) ++ signB k :: bodyB S (i + 1) u = _
    have h0 := h 0 (by simp)
    rw [Nat.add_zero] at h0
    rw [if_neg h0, body_in S u (i + 1) (fun j hj => by
      have := h (j + 1) (by simp; omega)
      rwa [show i + 1 + j = i + (j + 1) by omega])]
    rfl
theorem body_row {S : Nat} (hS : 0 < S) (m : Nat) (u : List Int) (hu : u.length = S) : bodyB S (m * S) u = 10 :: u.map signB := by
  cases u with
  | nil => rw [List.length_nil] at hu; omega
  | cons k u =>
    show (if m * S % S = 0 then [10] else []) ++ signB k :: bodyB S (m * S + 1) u = _
    rw [if_pos (Nat.mul_mod_left m S), body_in S u (m * S + 1) (fun j hj => by
      rw [List.length_cons] at hu
      rw [Nat.add_assoc, Nat.mul_comm, Nat.mul_add_mod, Nat.mod_eq_of_lt (by omega)]
      omega)]
    rfl
theorem body_rest {S : Nat} (hS : 0 < S) : ∀ (r m : Nat) (ks : List Int), ks.length = r * S → bodyB S (m * S) ks ++ [10] = 10 :: restB S r ks
  | 0, m, ks, h => by
    have : ks = [] := List.length_eq_zero_iff.1 (by omega)
    subst this
    rfl
  | r + 1, m, ks, h => by
    rw [Nat.add_mul] at h
    have hl : (ks.take S).length = S := by rw [List.length_take]; omega
    have e := List.take_append_drop S ks
    conv => lhs; rw [← e]
    rw [body_app, body_row hS m _ hl, hl, show m * S + S = (m + 1) * S by rw [Nat.add_mul, Nat.one_mul], List.append_assoc, body_rest hS r (m + 1) (ks.drop S) (by rw [List.length_drop]; omega)]
    rfl
theorem cut_line : ∀ (u v : List UInt8), (∀ b ∈ u, b ≠ 10) → cutL (u ++ 10 :: v) = (u, v, true)
  | [], v, _ => by simp [cutL]
  | b :: u, v, h => by
    have hb := h b (List.mem_cons_self ..)
    rw [List.cons_append]
    unfold cutL
    rw [if_neg hb, cut_line u v fun x hx => h x (List.mem_cons_of_mem _ hx)]
theorem cut_ended : ∀ (l : List UInt8), (cutL l).2.2 = true → l = (cutL l).1 ++ 10 :: (cutL l).2.1
  | [], h => by cases h
  | b :: l, h => by
    unfold cutL at h ⊢
    by_cases hb : b = 10
    · rw [if_pos hb]; rw [hb]; rfl
    · rw [if_neg hb] at h ⊢
      exact congrArg (List.cons b) (cut_ended l h)
theorem cut_open : ∀ (l : List UInt8), (cutL l).2.2 = false → (cutL l).1 = l ∧ ∀ b ∈ l, b ≠ 10
  | [], h => ⟨rfl, by simp⟩
  | b :: l, h => by
    unfold cutL at h ⊢
    by_cases hb : b = 10
    · rw [if_pos hb] at h; cases h
    · rw [if_neg hb] at h ⊢
      obtain ⟨h1, h2⟩ := cut_open l h
      refine ⟨congrArg (List.cons b) h1, fun x hx => ?_⟩
      rcases List.mem_cons.1 hx with rfl | hx
      · exact hb
      · exact h2 x hx
theorem cut_more (l more : List UInt8) (h : (cutL l).2.2 = true) : cutL (l ++ more) = ((cutL l).1, (cutL l).2.1 ++ more, true) := by
  induction l with
  | nil => cases h
  | cons b l ih =>
    rw [List.cons_append]
    unfold cutL at h ⊢
    by_cases hb : b = 10
    · rw [if_pos hb, if_pos hb]
    · rw [if_neg hb] at h
      rw [if_neg hb, if_neg hb, ih h]
theorem sign_kind (b : UInt8) (h : isSign b = true) : signB (kindOf b) = b ∧ 0 ≤ kindOf b ∧ kindOf b ≤ 2 := by
  unfold isSign at h
  simp only [Bool.or_eq_true, beq_iff_eq] at h
  rcases h with h | h | h <;> subst h <;> decide
theorem kind_sign (k : Int) (h : 0 ≤ k ∧ k ≤ 2) : kindOf (signB k) = k ∧ isSign (signB k) = true ∧ signB k ≠ 10 := by
  have : k = 0 ∨ k = 1 ∨ k = 2 := by omega
  rcases this with h | h | h <;> subst h <;> decide
theorem num_all : (List.range 100).all (fun n => numP (itoaB n) == some n && (itoaB n).all fun b => b != 32 && b != 10) = true := by decide +kernel
theorem num_itoa {n : Nat} (h : n < 100) : numP (itoaB n) = some n ∧ ∀ b ∈ itoaB n, b ≠ 32 ∧ b ≠ 10 := by
  have := List.all_eq_true.1 num_all n (List.mem_range.2 h)
  rw [Bool.and_eq_true, beq_iff_eq, List.all_eq_true] at this
  refine ⟨this.1, fun b hb => ?_⟩
  have := this.2 b hb
  simpa using this
theorem num_some {w : List UInt8} {n : Nat} (h : numP w = some n) : n < 100 ∧ itoaB n = w := by
  unfold numP at h
  have h1 := List.find?_some h
  have h2 := List.mem_of_find?_eq_some h
  exact ⟨List.mem_range.1 h2, by simpa using h1⟩
theorem words_app : ∀ (u v : List UInt8), (∀ b ∈ u, b ≠ 32) → wordsL (u ++ 32 :: v) = u :: wordsL v
  | [], v, _ => by simp [wordsL]
  | b :: u, v, h => by
    show (if b = 32 then [] :: wordsL (u ++ 32 :: v) else match wordsL (u ++ 32 :: v) with
      | [] => [[b]]
      | w :: ws => (b :: w) :: ws) = _
    rw [if_neg (h b (List.mem_cons_self ..)), words_app u v fun x hx => h x (List.mem_cons_of_mem _ hx)]
theorem words_one : ∀ (u : List UInt8), (∀ b ∈ u, b ≠ 32) → wordsL u = [u]
  | [], _ => by simp [wordsL]
  | b :: u, h => by
    unfold wordsL
    rw [if_neg (h b (List.mem_cons_self ..)), words_one u fun x hx => h x (List.mem_cons_of_mem _ hx)]
def joinB : List (List UInt8) → List UInt8
  | [] => []
  | [w] => w
  | w :: ws => w ++ 32 :: joinB ws
theorem words_join : ∀ (l : List UInt8), joinB (wordsL l) = l ∧ wordsL l ≠ []
  | [] => by simp [wordsL, joinB]
  | b :: l => by
    obtain ⟨h1, h2⟩ := words_join l
    unfold wordsL
    by_cases hb : b = 32
    · rw [if_pos hb]
      refine ⟨?_, by simp⟩
      cases hw : wordsL l with
      | nil => exact absurd hw h2
      | cons w ws =>
        rw [hw] at h1
        show [] ++ 32 :: joinB (w :: ws) = _
        rw [h1, hb]
        rfl
    · rw [if_neg hb]
      cases hw : wordsL l with
      | nil => exact absurd hw h2
      | cons w ws =>
        rw [hw] at h1
        refine ⟨?_, by simp⟩
        cases ws with
        | nil => exact congrArg (List.cons b) h1
        | cons x xs => exact congrArg (List.cons b) h1
theorem headF_iff {f : FaceV} : headF f = true ↔ (1 ≤ f.eye ∧ f.eye ≤ 16) ∧ (1 ≤ f.rings ∧ f.rings ≤ 24) ∧ 2 ≤ f.sectors ∧ f.sectors ≤ 96 := by
  unfold headF
  rw [Bool.and_eq_true, Bool.and_eq_true, inB_true, inB_true, inB_true]
theorem headP_some {line : List UInt8} {g : FaceV} (h : headP line = some g) : headF g = true ∧ g.kinds = [] ∧ headB g = line := by
  unfold headP at h
  split at h
  · rename_i w a b c hw
    split at h
    · rename_i x y z hx hy hz
      split at h
      · rename_i hc
        cases h
        rw [Bool.and_eq_true, beq_iff_eq] at hc
        refine ⟨hc.2, rfl, ?_⟩
        have h1 := (words_join line).1
        rw [hw] at h1
        unfold headB
        dsimp only
        rw [Int.toNat_natCast, Int.toNat_natCast, Int.toNat_natCast, (num_some hx).2, (num_some hy).2, (num_some hz).2, ← h1, hc.1]
        rfl
      · cases h
    · cases h
  · cases h
theorem headP_head {f : FaceV} (h : headF f = true) : headP (headB f) = some ⟨f.eye, f.rings, f.sectors, []⟩ := by
  have hh := headF_iff.1 h
  have a := num_itoa (n := f.eye.toNat) (by omega)
  have b := num_itoa (n := f.rings.toNat) (by omega)
  have c := num_itoa (n := f.sectors.toNat) (by omega)
  have hw : wordsL (headB f) = [faceB, itoaB f.eye.toNat, itoaB f.rings.toNat, itoaB f.sectors.toNat] := by
    unfold headB
    rw [words_app faceB _ (by decide), words_app _ _ (fun x hx => (a.2 x hx).1), words_app _ _ (fun x hx => (b.2 x hx).1), words_one _ (fun x hx => (c.2 x hx).1)]
  unfold headP
  rw [hw]
  dsimp only
  rw [a.1, b.1, c.1]
  dsimp only
  rw [Int.toNat_of_nonneg (by omega), Int.toNat_of_nonneg (by omega), Int.toNat_of_nonneg (by omega), if_pos]
  rw [Bool.and_eq_true]
  exact ⟨by decide, h⟩
theorem head_line {f : FaceV} (h : headF f = true) : ∀ b ∈ headB f, b ≠ 10 := by
  have hh := headF_iff.1 h
  have a := num_itoa (n := f.eye.toNat) (by omega)
  have b := num_itoa (n := f.rings.toNat) (by omega)
  have c := num_itoa (n := f.sectors.toNat) (by omega)
  intro x hx
  unfold headB at hx
  simp only [List.mem_append, List.mem_cons] at hx
  rcases hx with hx | hx | hx | hx | hx | hx | hx
  · have : ∀ b ∈ faceB, b ≠ 10 := by decide
    exact this x hx
  · rw [hx]; decide
  · exact (a.2 x hx).2
  · rw [hx]; decide
  · exact (b.2 x hx).2
  · rw [hx]; decide
  · exact (c.2 x hx).2
theorem row_sign {ks : List Int} (h : ∀ k ∈ ks, 0 ≤ k ∧ k ≤ 2) : (ks.map signB).map kindOf = ks ∧ (ks.map signB).all isSign = true ∧ ∀ b ∈ ks.map signB, b ≠ 10 := by
  refine ⟨?_, ?_, ?_⟩
  · rw [List.map_map]
    have : ks.map (kindOf ∘ signB) = ks.map id := List.map_congr_left fun k hk => (kind_sign k (h k hk)).1
    rw [this, List.map_id]
  · rw [List.all_map, List.all_eq_true]
    exact fun k hk => (kind_sign k (h k hk)).2.1
  · intro b hb
    obtain ⟨k, hk, rfl⟩ := List.mem_map.1 hb
    exact (kind_sign k (h k hk)).2.2
theorem parse_rest : ∀ (r n lines : Nat) (f : FaceV) (ks : List Int), 1 ≤ f.S → f.sectors = (f.S : Int) → ks.length = r * f.S → (∀ k ∈ ks, 0 ≤ k ∧ k ≤ 2) → 1 ≤ lines → (lines : Int) + r = f.rings + 1 → (restB f.S r ks).length < n → parseGo n lines f (restB f.S r ks) = ({ f with kinds := f.kinds ++ ks }, 0, 0)
  | 0, n, lines, f, ks, hS, eS, hl, hk, h1, h2, hn => by
    have : ks = [] := List.length_eq_zero_iff.1 (by omega)
    subst this
    cases n with
    | zero => cases hn
    | succ n =>
      unfold parseGo
      rw [if_pos (show restB f.S 0 [] = [] from rfl)]
      unfold endP
      rw [if_neg (by omega), List.append_nil]
  | r + 1, n, lines, f, ks, hS, eS, hl, hk, h1, h2, hn => by
    cases n with
    | zero => cases hn
    | succ n =>
      rw [Nat.add_mul] at hl
      have hk1 : ∀ k ∈ ks.take f.S, 0 ≤ k ∧ k ≤ 2 := fun k h => hk k (List.mem_of_mem_take h)
      have hk2 : ∀ k ∈ ks.drop f.S, 0 ≤ k ∧ k ≤ 2 := fun k h => hk k (List.mem_of_mem_drop h)
      obtain ⟨r1, r2, r3⟩ := row_sign hk1
      have hlen : (ks.take f.S).length = f.S := by rw [List.length_take]; omega
      unfold restB at hn ⊢
      rw [List.length_append, List.length_cons, List.length_map, hlen] at hn
      have hc := cut_line ((ks.take f.S).map signB) (restB f.S r (ks.drop f.S)) r3
      unfold parseGo
      rw [if_neg (by simp), if_neg (by omega), hc]
      dsimp only
      have hrow : rowB lines f ((ks.take f.S).map signB) = true := by
        unfold rowB
        rw [r2, List.length_map, hlen, decide_eq_true (by omega), decide_eq_true eS.symm]
        rfl
      rw [if_pos ⟨hrow, rfl⟩, r1]
      have := parse_rest r n (lines + 1) { f with kinds := f.kinds ++ ks.take f.S } (ks.drop f.S) hS eS (by rw [List.length_drop]; show _ = r * f.S; omega) hk2 (by omega) (by show ((lines + 1 : Nat) : Int) + r = f.rings + 1; omega) (by show (restB f.S r (ks.drop f.S)).length < n; omega)
      refine Eq.trans this ?_
      dsimp only
      rw [List.append_assoc, List.take_append_drop]
theorem parse_print {f : FaceV} (hv : f.valid = true) (hl : (printF f).length ≤ 65536) : parseP (printF f) = (f, 0, 0) := by
  obtain ⟨e1, e2, e3, e4, e5, e6, e7⟩ := FaceV.nat hv
  obtain ⟨v1, v2, v3, v4, v5⟩ := FaceV.valid_iff.1 hv
  have hh : headF f = true := headF_iff.2 ⟨v1, v2, v3⟩
  have hb := body_rest (S := f.S) (by omega) f.R 0 f.kinds e7
  rw [Nat.zero_mul] at hb
  have hp : printF f = headB f ++ 10 :: restB f.S f.R f.kinds := by unfold printF; rw [hb]
  unfold parseP
  rw [if_neg (by omega), hp]
  unfold parseGo
  rw [if_neg (by simp), if_pos rfl, cut_line _ _ (head_line hh)]
  dsimp only
  rw [headP_head hh]
  dsimp only
  rw [if_pos rfl]
  have := parse_rest f.R (headB f ++ 10 :: restB f.S f.R f.kinds).length 1 ⟨f.eye, f.rings, f.sectors, []⟩ f.kinds (by show 1 ≤ f.S; omega) e2 e7 v5 (Nat.le_refl _) (by show ((1 : Nat) : Int) + f.R = f.rings + 1; omega) (by rw [List.length_append, List.length_cons]; show (restB f.S f.R f.kinds).length < _; omega)
  exact this
theorem parse_ok : ∀ (n lines : Nat) (f : FaceV) (rest : List UInt8) (x : FaceV) (at_ : Int), f.sectors = (f.S : Int) → 1 ≤ lines → rest.length < n → parseGo n lines f rest = (x, 0, at_) →
    at_ = 0 ∧ ∃ (r : Nat) (ks : List Int), x = { f with kinds := f.kinds ++ ks } ∧ ks.length = r * f.S ∧ (∀ k ∈ ks, 0 ≤ k ∧ k ≤ 2) ∧ rest = restB f.S r ks ∧ (f.rings < (lines : Int) + r) ∧ (r ≠ 0 → (lines : Int) + r ≤ f.rings + 1)
  | 0, _, _, _, _, _, _, _, h, _ => by cases h
  | n + 1, lines, f, rest, x, at_, eS, h1, hn, h => by
    unfold parseGo at h
    by_cases he : rest = []
    · rw [if_pos he] at h
      unfold endP at h
      by_cases hc : lines = 0 ∨ (lines : Int) ≤ f.rings
      · rw [if_pos hc] at h; cases h
      · rw [if_neg hc] at h
        cases h
        exact ⟨rfl, 0, [], by rw [List.append_nil], by simp, by simp, he, by omega, fun h => absurd rfl h⟩
    · rw [if_neg he, if_neg (by omega)] at h
      by_cases hc : rowB lines f (cutL rest).1 = true ∧ (cutL rest).2.2 = true
      · rw [if_pos hc] at h
        have hrest := cut_ended rest hc.2
        have hrow := hc.1
        unfold rowB at hrow
        rw [Bool.and_eq_true, Bool.and_eq_true, decide_eq_true_eq, decide_eq_true_eq] at hrow
        obtain ⟨q1, q2, q3⟩ := hrow
        have hlb : (cutL rest).2.1.length < n := by
          have := congrArg List.length hrest
          rw [List.length_append, List.length_cons] at this
          omega
        obtain ⟨k0, r, ks, k1, k2, k3, k4, k5, k6⟩ := parse_ok n (lines + 1) _ _ x at_ (by show f.sectors = ((FaceV.S _ : Nat) : Int); exact eS) (by omega) hlb h
        have k2 : ks.length = r * f.S := k2
        have k4 : (cutL rest).2.1 = restB f.S r ks := k4
        have k5 : f.rings < ((lines + 1 : Nat) : Int) + r := k5
        have k6 : r ≠ 0 → ((lines + 1 : Nat) : Int) + r ≤ f.rings + 1 := k6
        have hlen : ((cutL rest).1.map kindOf).length = f.S := by rw [List.length_map]; omega
        have hmap : ((cutL rest).1.map kindOf).map signB = (cutL rest).1 := by
          rw [List.map_map]
          have : (cutL rest).1.map (signB ∘ kindOf) = (cutL rest).1.map id := List.map_congr_left fun b hb => (sign_kind b (List.all_eq_true.1 q3 b hb)).1
          rw [this, List.map_id]
        refine ⟨k0, r + 1, (cutL rest).1.map kindOf ++ ks, ?_, ?_, ?_, ?_, by omega, fun _ => ?_⟩
        · rw [k1]
          dsimp only
          rw [List.append_assoc]
        · rw [List.length_append, hlen, k2, Nat.add_mul]; omega
        · intro k hk
          rcases List.mem_append.1 hk with hk | hk
          · obtain ⟨b, hb, rfl⟩ := List.mem_map.1 hk
            exact (sign_kind b (List.all_eq_true.1 q3 b hb)).2
          · exact k3 k hk
        · unfold restB
          rw [List.take_append_of_le_length (by omega), List.take_of_length_le (by omega), hmap, List.drop_append_of_le_length (by omega), List.drop_of_length_le (by omega), List.nil_append, ← k4]
          exact hrest
        · by_cases h0 : r = 0
          · subst h0; omega
          · have := k6 h0; omega
      · rw [if_neg hc] at h
        cases h
theorem print_parse {s : List UInt8} {x : FaceV} {at_ : Int} (h : parseP s = (x, 0, at_)) : x.valid = true ∧ printF x = s ∧ at_ = 0 := by
  unfold parseP at h
  by_cases hl : 65536 < s.length
  · rw [if_pos hl] at h; cases h
  · rw [if_neg hl] at h
    unfold parseGo at h
    by_cases he : s = []
    · rw [if_pos he] at h
      unfold endP at h
      rw [if_pos (.inl rfl)] at h
      cases h
    · rw [if_neg he, if_pos rfl] at h
      cases hp : headP (cutL s).1 with
      | none => rw [hp] at h; cases h
      | some g =>
        rw [hp] at h
        dsimp only at h
        by_cases hc : (cutL s).2.2 = true
        · rw [if_pos hc] at h
          obtain ⟨g1, g2, g3⟩ := headP_some hp
          have gi := headF_iff.1 g1
          have eS : g.sectors = (g.S : Int) := by unfold FaceV.S; omega
          have eR : g.rings = (g.R : Int) := by unfold FaceV.R; omega
          have hs := cut_ended s hc
          have hlb : (cutL s).2.1.length < s.length := by
            have := congrArg List.length hs
            rw [List.length_append, List.length_cons] at this
            omega
          obtain ⟨k0, r, ks, k1, k2, k3, k4, k5, k6⟩ := parse_ok _ 1 g _ x at_ eS (Nat.le_refl _) hlb h
          have hr : r = g.R := by
            by_cases h0 : r = 0
            · subst h0; omega
            · have := k6 h0; omega
          subst hr
          rw [g2, List.nil_append] at k1
          subst k1
          have hv : (FaceV.valid { g with kinds := ks }) = true := FaceV.valid_iff.2 ⟨gi.1, gi.2.1, gi.2.2, by show (ks.length : Int) = g.rings * g.sectors; rw [eR, eS, k2]; push_cast; rfl, k3⟩
          refine ⟨hv, ?_, k0⟩
          have hb := body_rest (S := g.S) (by omega) g.R 0 ks k2
          rw [Nat.zero_mul] at hb
          have e1 : printF { g with kinds := ks } = headB g ++ (bodyB g.S 0 ks ++ [10]) := rfl
          rw [e1, hb, ← k4, g3]
          exact hs.symm
        · rw [if_neg hc] at h
          cases h
theorem count_line {l : List UInt8} (h : (cutL l).2.2 = true) : l.count 10 = (cutL l).2.1.count 10 + 1 := by
  have h0 := cut_ended l h
  have h1 : (cutL l).1.count 10 = 0 := by
    clear h h0
    induction l with
    | nil => rfl
    | cons b l ih =>
      unfold cutL
      by_cases hb : b = 10
      · rw [if_pos hb]; rfl
      · rw [if_neg hb]
        show (b :: (cutL l).1).count 10 = 0
        rw [List.count_cons, ih, if_neg (by simpa using hb)]
  conv => lhs; rw [h0]
  rw [List.count_append, h1, List.count_cons, if_pos (by decide)]
  omega
theorem parse_more : ∀ (n m lines : Nat) (f x : FaceV) (rest more : List UInt8) (g at_ : Int), rest.length < n → (rest ++ more).length < m → parseGo n lines f rest = (x, g, at_) → g ≠ 0 → at_ ≤ (lines : Int) + (rest.count 10 : Nat) → g = 11 ∧ parseGo m lines f (rest ++ more) = (x, 11, at_)
  | 0, _, _, _, _, _, _, _, _, h, _, _, _, _ => by cases h
  | n + 1, 0, lines, f, x, rest, more, g, at_, hn, hm, h, hg, ha => by cases hm
  | n + 1, m + 1, lines, f, x, rest, more, g, at_, hn, hm, h, hg, ha => by
    unfold parseGo at h ⊢
    by_cases he : rest = []
    · rw [if_pos he] at h
      subst he
      unfold endP at h
      by_cases hc : lines = 0 ∨ (lines : Int) ≤ f.rings
      · rw [if_pos hc] at h
        cases h
        simp at ha
        omega
      · rw [if_neg hc] at h
        cases h
        exact absurd rfl hg
    · rw [if_neg he] at h
      rw [if_neg (by simp [he])]
      by_cases hend : (cutL rest).2.2 = true
      · rw [cut_more rest more hend]
        have hcnt := count_line hend
        have hrest := cut_ended rest hend
        have hlb : (cutL rest).2.1.length + 1 ≤ rest.length := by
          have := congrArg List.length hrest
          rw [List.length_append, List.length_cons] at this
          omega
        have hlm : ((cutL rest).2.1 ++ more).length < m := by
          rw [List.length_append] at hm ⊢
          omega
        dsimp only
        by_cases h0 : lines = 0
        · rw [if_pos h0] at h ⊢
          cases hp : headP (cutL rest).1 with
          | none => rw [hp] at h; cases h; exact ⟨rfl, rfl⟩
          | some gf =>
            rw [hp] at h
            dsimp only at h ⊢
            rw [if_pos hend] at h
            rw [if_pos rfl]
            exact parse_more n m 1 gf x _ more g at_ (by omega) hlm h hg (by omega)
        · rw [if_neg h0] at h ⊢
          by_cases hc : rowB lines f (cutL rest).1 = true
          · rw [if_pos ⟨hc, hend⟩] at h
            rw [if_pos ⟨hc, rfl⟩]
            exact parse_more n m (lines + 1) _ x _ more g at_ (by omega) hlm h hg (by omega)
          · rw [if_neg (fun hh => hc hh.1)] at h
            rw [if_neg (fun hh => hc hh.1)]
            cases h
            exact ⟨rfl, rfl⟩
      · have hopen : (cutL rest).2.2 = false := by simpa using hend
        have hno := (cut_open rest hopen).2
        have hcnt : rest.count 10 = 0 := List.count_eq_zero.2 fun hm => hno 10 hm rfl
        rw [hcnt] at ha
        by_cases h0 : lines = 0
        · rw [if_pos h0] at h
          cases hp : headP (cutL rest).1 with
          | none => rw [hp] at h; cases h; omega
          | some gf =>
            rw [hp] at h
            dsimp only at h
            rw [if_neg hend] at h
            cases h
            omega
        · rw [if_neg h0, if_neg (fun hh => hend hh.2)] at h
          cases h
          omega
end Go.Proofs.YtimmadkbkimonaaGreatDoor
