/- A note: its numbers, its cells. -/
import Derived.Test.YtpdmlklnbjegpaaGreatBase
namespace Go.Proofs.YtpdmlklnbjegpaaGreat
open Go.RowKit

/-- The value of an int. -/
def intV (z : Int) : Value := .int .i64 z
theorem intV_one (l : List Int) : ∀ u ∈ l.map intV, u.oneCell' = true := by
  intro u hu
  obtain ⟨_, _, rfl⟩ := List.mem_map.1 hu
  rfl
/-- A number that an int holds. -/
def I64 (z : Int) : Prop := -9223372036854775808 ≤ z ∧ z ≤ 9223372036854775807
/-- The slice reads as the ints l. -/
def RdI (w : World) (a : Option Addr) (n c : Nat) (l : List Int) : Prop := RdA w 1 a n c (l.map intV)
theorem RdI.len {w : World} {a : Option Addr} {n c : Nat} {l : List Int} (h : RdI w a n c l) : l.length = n := by simpa using h.1
theorem RdI.below {w w' : World} {a : Option Addr} {n c : Nat} {l : List Int} (h : RdI w a n c l) (hb : Below w.heap.size w w') : RdI w' a n c l := RdA.below h hb
theorem RdI.maxn {w : World} {a : Option Addr} {n c : Nat} {l : List Int} (h : RdI w a n c l) : n ≤ 9223372036854775807 := RdA.maxn h
theorem RdI.at {w : World} {a : Option Addr} {n c : Nat} {l : List Int} (h : RdI w a n c l) (hn : 0 < n) :
    ∃ b off, a = some ⟨b, off, none⟩ ∧ ∀ i, i < n → w.cell? ⟨b, off + i, none⟩ = some (.int .i64 (l[i]?.getD 0)) := by
  obtain ⟨b, off, rfl, h4⟩ := RdA.at h hn
  refine ⟨b, off, rfl, fun i hi => h4 i _ ?_⟩
  have := h.len
  simp [intV, List.getElem?_map, List.getElem?_eq_getElem (show i < l.length by omega)]

structure NoteV where
  house : Int
  num : Int
  clock : Int
  day : Int
  kind : Int
  stone : Int
  heap : Int
  turns : Int
  hardLo : Int
  hardHi : Int
  diffLo : Int
  diffHi : Int
  a : Int
  b : Int
  ring : Int
  refH : Int
  refN : Int
  fix : Int
  strokes : List Int
deriving Inhabited

/-- The cells of a note whose strokes lie at sa. -/
def NoteV.cells (n : NoteV) (sa : Option Addr) (sc : Nat) : List Value :=
  [.int .i64 n.house, .int .i64 n.num, .int .i64 n.clock, .int .i64 n.day, .int .i64 n.kind, .int .i64 n.stone, .int .i64 n.heap, .int .i64 n.turns, .int .i64 n.hardLo, .int .i64 n.hardHi, .int .i64 n.diffLo, .int .i64 n.diffHi, .int .i64 n.a, .int .i64 n.b, .int .i64 n.ring, .slice sa n.strokes.length sc, .int .i64 n.refH, .int .i64 n.refN, .int .i64 n.fix]
theorem NoteV.cells_len (n : NoteV) (sa : Option Addr) (sc : Nat) : (n.cells sa sc).length = 19 := rfl
theorem NoteV.cells_one (n : NoteV) (sa : Option Addr) (sc : Nat) : ∀ v ∈ n.cells sa sc, v.oneCell' = true := by
  intro v hv
  simp only [NoteV.cells, List.mem_cons, List.not_mem_nil, or_false] at hv
  rcases hv with rfl | rfl | rfl | rfl | rfl | rfl | rfl | rfl | rfl | rfl | rfl | rfl | rfl | rfl | rfl | rfl | rfl | rfl | rfl <;> rfl
/-- All numbers of a note are ints. -/
structure NoteV.Ok (n : NoteV) : Prop where
  house : I64 n.house
  num : I64 n.num
  clock : I64 n.clock
  day : I64 n.day
  kind : I64 n.kind
  stone : I64 n.stone
  heap : I64 n.heap
  turns : I64 n.turns
  hardLo : I64 n.hardLo
  hardHi : I64 n.hardHi
  diffLo : I64 n.diffLo
  diffHi : I64 n.diffHi
  a : I64 n.a
  b : I64 n.b
  ring : I64 n.ring
  refH : I64 n.refH
  refN : I64 n.refN
  fix : I64 n.fix
  strokes : ∀ z ∈ n.strokes, I64 z
/-- These cells are the note n. -/
def RdNote (w : World) (cs : List Value) (n : NoteV) : Prop := ∃ sa sc, cs = n.cells sa sc ∧ RdI w sa n.strokes.length sc n.strokes ∧ n.Ok
theorem RdNote.below {w w' : World} {cs : List Value} {n : NoteV} (h : RdNote w cs n) (hb : Below w.heap.size w w') : RdNote w' cs n := by
  obtain ⟨sa, sc, h1, h2, h3⟩ := h
  exact ⟨sa, sc, h1, h2.below hb, h3⟩
theorem RdNote.len {w : World} {cs : List Value} {n : NoteV} (h : RdNote w cs n) : cs.length = 19 := by
  obtain ⟨sa, sc, rfl, _⟩ := h
  rfl
theorem RdNote.one {w : World} {cs : List Value} {n : NoteV} (h : RdNote w cs n) : ∀ v ∈ cs, v.oneCell' = true := by
  obtain ⟨sa, sc, rfl, _⟩ := h
  exact n.cells_one sa sc
end Go.Proofs.YtpdmlklnbjegpaaGreat
