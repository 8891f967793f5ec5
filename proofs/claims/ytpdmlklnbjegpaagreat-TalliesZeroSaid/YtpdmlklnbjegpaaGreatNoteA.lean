/- The cells of a note as one array; loads and stores of whole structs. -/
import Derived.Test.YtpdmlklnbjegpaaGreatNote
import Derived.Test.YtpdmlklnbjegpaaGreatStru
namespace Go.Proofs.YtpdmlklnbjegpaaGreat
open Go.RowKit

def noteA (n : NoteV) (sa : Option Addr) (sc : Nat) : Array Value := (n.cells sa sc).toArray
def zeroN : NoteV := ⟨0, 0, 0, 0, 0, 0, 0, 0, 0, 0, 0, 0, 0, 0, 0, 0, 0, 0, []⟩
section
variable (n : NoteV) (sa : Option Addr) (sc : Nat)
theorem noteA_size : (noteA n sa sc).size = 19 := rfl
theorem noteA_list : (noteA n sa sc).toList = n.cells sa sc := rfl
theorem noteA_one : (noteA n sa sc).all (·.oneCell') = true := all_oneCell_toArray (n.cells_one sa sc)
theorem noteA_0 : (noteA n sa sc)[0]? = some (.int .i64 n.house) := rfl
theorem noteA_1 : (noteA n sa sc)[1]? = some (.int .i64 n.num) := rfl
theorem noteA_2 : (noteA n sa sc)[2]? = some (.int .i64 n.clock) := rfl
theorem noteA_3 : (noteA n sa sc)[3]? = some (.int .i64 n.day) := rfl
theorem noteA_4 : (noteA n sa sc)[4]? = some (.int .i64 n.kind) := rfl
theorem noteA_5 : (noteA n sa sc)[5]? = some (.int .i64 n.stone) := rfl
theorem noteA_6 : (noteA n sa sc)[6]? = some (.int .i64 n.heap) := rfl
theorem noteA_7 : (noteA n sa sc)[7]? = some (.int .i64 n.turns) := rfl
theorem noteA_8 : (noteA n sa sc)[8]? = some (.int .i64 n.hardLo) := rfl
theorem noteA_9 : (noteA n sa sc)[9]? = some (.int .i64 n.hardHi) := rfl
theorem noteA_10 : (noteA n sa sc)[10]? = some (.int .i64 n.diffLo) := rfl
theorem noteA_11 : (noteA n sa sc)[11]? = some (.int .i64 n.diffHi) := rfl
theorem noteA_12 : (noteA n sa sc)[12]? = some (.int .i64 n.a) := rfl
theorem noteA_13 : (noteA n sa sc)[13]? = some (.int .i64 n.b) := rfl
theorem noteA_14 : (noteA n sa sc)[14]? = some (.int .i64 n.ring) := rfl
theorem noteA_15 : (noteA n sa sc)[15]? = some (.slice sa n.strokes.length sc) := rfl
theorem noteA_16 : (noteA n sa sc)[16]? = some (.int .i64 n.refH) := rfl
theorem noteA_17 : (noteA n sa sc)[17]? = some (.int .i64 n.refN) := rfl
theorem noteA_18 : (noteA n sa sc)[18]? = some (.int .i64 n.fix) := rfl
theorem noteA_s0 (x : Int) : (noteA n sa sc).setIfInBounds 0 (.int .i64 x) = noteA { n with house := x } sa sc := rfl
theorem noteA_s1 (x : Int) : (noteA n sa sc).setIfInBounds 1 (.int .i64 x) = noteA { n with num := x } sa sc := rfl
theorem noteA_s2 (x : Int) : (noteA n sa sc).setIfInBounds 2 (.int .i64 x) = noteA { n with clock := x } sa sc := rfl
theorem noteA_s3 (x : Int) : (noteA n sa sc).setIfInBounds 3 (.int .i64 x) = noteA { n with day := x } sa sc := rfl
theorem noteA_s4 (x : Int) : (noteA n sa sc).setIfInBounds 4 (.int .i64 x) = noteA { n with kind := x } sa sc := rfl
theorem noteA_s5 (x : Int) : (noteA n sa sc).setIfInBounds 5 (.int .i64 x) = noteA { n with stone := x } sa sc := rfl
theorem noteA_s6 (x : Int) : (noteA n sa sc).setIfInBounds 6 (.int .i64 x) = noteA { n with heap := x } sa sc := rfl
theorem noteA_s7 (x : Int) : (noteA n sa sc).setIfInBounds 7 (.int .i64 x) = noteA { n with turns := x } sa sc := rfl
theorem noteA_s8 (x : Int) : (noteA n sa sc).setIfInBounds 8 (.int .i64 x) = noteA { n with hardLo := x } sa sc := rfl
theorem noteA_s9 (x : Int) : (noteA n sa sc).setIfInBounds 9 (.int .i64 x) = noteA { n with hardHi := x } sa sc := rfl
theorem noteA_s10 (x : Int) : (noteA n sa sc).setIfInBounds 10 (.int .i64 x) = noteA { n with diffLo := x } sa sc := rfl
theorem noteA_s11 (x : Int) : (noteA n sa sc).setIfInBounds 11 (.int .i64 x) = noteA { n with diffHi := x } sa sc := rfl
theorem noteA_s12 (x : Int) : (noteA n sa sc).setIfInBounds 12 (.int .i64 x) = noteA { n with a := x } sa sc := rfl
theorem noteA_s13 (x : Int) : (noteA n sa sc).setIfInBounds 13 (.int .i64 x) = noteA { n with b := x } sa sc := rfl
theorem noteA_s14 (x : Int) : (noteA n sa sc).setIfInBounds 14 (.int .i64 x) = noteA { n with ring := x } sa sc := rfl
theorem noteA_s15 : (noteA n sa sc).setIfInBounds 15 (.slice none 0 0) = noteA { n with strokes := [] } none 0 := rfl
theorem noteA_s16 (x : Int) : (noteA n sa sc).setIfInBounds 16 (.int .i64 x) = noteA { n with refH := x } sa sc := rfl
theorem noteA_s17 (x : Int) : (noteA n sa sc).setIfInBounds 17 (.int .i64 x) = noteA { n with refN := x } sa sc := rfl
theorem noteA_s18 (x : Int) : (noteA n sa sc).setIfInBounds 18 (.int .i64 x) = noteA { n with fix := x } sa sc := rfl
end
theorem noteA_zero : noteA zeroN none 0 = #[.int .i64 0, .int .i64 0, .int .i64 0, .int .i64 0, .int .i64 0, .int .i64 0, .int .i64 0, .int .i64 0, .int .i64 0, .int .i64 0, .int .i64 0, .int .i64 0, .int .i64 0, .int .i64 0, .int .i64 0, .slice none 0 0, .int .i64 0, .int .i64 0, .int .i64 0] := rfl

section
variable {P : Program} {ops : Array Oper} {rest : List Oper} {op : Oper} {a : Act} {Q : Exit → Act → World → Prop}
/-- A load of a whole struct that is a block of its own. -/
theorem wpList_load_at (w : World) (hgd : op.guard = none) (ty : TypeId) (x : Operand) (ho : op.op = .load ty x) (p : Nat) (hx : a.eval x = .pointer (some ⟨p, 0, none⟩)) (A : Array Value) (t : TypeId) (fr : Nat × Nat) (hp : w.heap[p]? = some (.cells A t fr))
    (d : TypeDesc) (hu : P.underlying ty = some d) (hd : d.isRow = true) (hi : (P.info? ty).map (·.size) = some A.size) (h : wpList P ops Q rest (a.put op.dst (.agg A)) w) : wpList P ops Q (op :: rest) a w := by
  have hc : w.rangeAt p 0 A.toList := fun j v hv => by
    simp only [World.cell?, hp]
    simpa using hv
  have := wpList_load_mid (P := P) (Q := Q) (ops := ops) (rest := rest) hgd ty x ho p 0 hx A.toList d hc hu hd (by simpa using hi) (by simpa using h)
  exact this
/-- A store of a whole struct into the block that was made last. -/
theorem wpList_store_newp (w : World) (hgd : op.guard = none) (ty : TypeId) (x y : Operand) (ho : op.op = .store ty x y) (p : Nat) (hp : w.heap.size = p)
    (c c' : Array Value) (hx : a.eval x = .pointer (some ⟨p, 0, none⟩)) (hy : a.eval y = .agg c') (hi : (P.info? ty).map (·.size) = some c'.size) (hc : c.size = c'.size) (h1 : c'.all (·.oneCell') = true)
    (h : wpList P ops Q rest (a.put op.dst undef) (w.alloc (.cells c' ty))) : wpList P ops Q (op :: rest) a (w.alloc (.cells c ty)) := by
  subst hp
  exact wpList_store_new w hgd ty x y ho c c' hx hy hi hc h1 h
theorem heap_at (w : World) (o : Obj) (p : Nat) (h : w.heap.size = p) : (w.alloc o).heap[p]? = some o := by subst h; exact heap_alloc_last w o
theorem heap_last (w : World) (o : Obj) : (w.alloc o).heap[w.heap.size]? = some o := heap_alloc_last w o
theorem heap_before (w : World) (o : Obj) (p : Nat) (x : Obj) (h : w.heap[p]? = some x) : (w.alloc o).heap[p]? = some x := by
  have hp := (Array.getElem?_eq_some_iff.1 h).1
  rw [← h]
  simp only [World.alloc, Array.getElem?_push]
  rw [if_neg (by omega)]
end
end Go.Proofs.YtpdmlklnbjegpaaGreat
