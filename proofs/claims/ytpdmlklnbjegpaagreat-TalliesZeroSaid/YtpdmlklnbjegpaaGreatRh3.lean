/- The reference's bare: a note without its name, times, references, and the content of a kind. -/
import Derived.Test.YtpdmlklnbjegpaaGreatHis6
import Derived.Test.YtpdmlklnbjegpaaGreatRh1
namespace Go.Proofs.YtpdmlklnbjegpaaGreat
open Go.RowKit

def bare0 (n : NoteV) : NoteV := { n with house := 0, num := 0, clock := 0, day := 0, kind := 0, refH := 0, refN := 0, fix := 0 }
def bareR (k : Int) (n : NoteV) : NoteV :=
  if k = 1 then { bare0 n with hardLo := 0, hardHi := 0 } else if k = 2 then { bare0 n with turns := 0 } else if k = 3 then { bare0 n with stone := 0, a := 0, b := 0, diffLo := 0, diffHi := 0 }
  else if k = 4 then { bare0 n with stone := 0, ring := 0, strokes := [] } else bare0 n
/-- Three blocks made one behind the other: the note, the result, what is left (its cells are C). -/
structure Loc2 (w W : World) (p0 p1 p2 : Nat) (C : Array Value) : Prop where
  e1 : W.heap[p1]? = some (.cells (noteA zeroN none 0) 47 (0, 0))
  e2 : W.heap[p2]? = some (.cells C 47 (0, 0))
  b : Below p0 w W
  lt : p0 < p1 ∧ p1 < p2
theorem Loc2.set {w W : World} {p0 p1 p2 : Nat} {C : Array Value} (h : Loc2 w W p0 p1 p2 C) (j : Nat) (v : Value) : Loc2 w (W.setCell ⟨p2, j, none⟩ v) p0 p1 p2 (C.setIfInBounds j v) := by
  have g : ∀ {k : Nat}, k ≠ p2 → (W.setCell ⟨p2, j, none⟩ v).heap[k]? = W.heap[k]? := fun {k} hk => Below.heap_setCell W ⟨p2, j, none⟩ v k hk
  have hl := h.lt
  exact ⟨(g (by omega)).trans h.e1, heap_setCell_same W p2 j C 47 v h.e2, h.b.trans ⟨rfl, rfl, rfl, by simp [World.setCell], fun k hk => g (by omega)⟩, h.lt⟩
theorem Loc2.done {w W : World} {p0 p1 p2 : Nat} {C : Array Value} (h : Loc2 w W p0 p1 p2 C) (C' : Array Value) : (W.setRow p1 C').heap[p1]? = some (.cells C' 47 (0, 0)) ∧ Below p0 w (W.setRow p1 C') := by
  have hl := h.lt
  exact ⟨setRow_heap W p1 _ C' _ _ h.e1, h.b.trans ⟨rfl, rfl, rfl, by simp, fun k hk => setRow_other W p1 k C' (by omega)⟩⟩

section
attribute [local go_sem] noteA_0 noteA_1 noteA_2 noteA_3 noteA_4 noteA_5 noteA_6 noteA_7 noteA_8 noteA_9 noteA_10 noteA_11 noteA_12 noteA_13 noteA_14 noteA_15 noteA_16 noteA_17 noteA_18 noteA_s0 noteA_s1 noteA_s2 noteA_s3 noteA_s4 noteA_s5 noteA_s6 noteA_s7 noteA_s8 noteA_s9 noteA_s10 noteA_s11 noteA_s12 noteA_s13 noteA_s14 noteA_s15 noteA_s16 noteA_s17 noteA_s18
variable (n : NoteV) (sa : Option Addr) (sc : Nat) (w : World)
end
end Go.Proofs.YtpdmlklnbjegpaaGreat
