/- The program's said, for every kind. -/
import Derived.Test.YtpdmlklnbjegpaaGreatHis5
namespace Go.Proofs.YtpdmlklnbjegpaaGreat
open Go.RowKit

/-- A load of a whole struct at a guarded operation that is wanted. -/
theorem wpList_load_rowG {P : Program} {ops : Array Oper} {rest : List Oper} {o : Oper} {a : Act} {w : World} {Q : Exit → Act → World → Prop} (hw : Region.wanted o (yielded ops a.tmps) = true) (ty : TypeId) (x : Operand) (ho : o.op = .load ty x)
    (g : Nat) (hx : a.eval x = .pointer (some ⟨g, 0, none⟩)) (t : TypeId) (cs : Array Value) (fr : Nat × Nat) (d : TypeDesc) (hg : w.heap[g]? = some (.cells cs t fr))
    (hu : P.underlying ty = some d) (hd : (match d with | .struct _ | .array _ _ => true | _ => false) = true) (hi : (P.info? ty).map (·.size) = some cs.size)
    (h : wpList P ops Q rest (a.put o.dst (.agg cs)) w) : wpList P ops Q (o :: rest) a w :=
  wpList_step fun _ hK => by rw [if_pos hw]; exact wp_load_row ty x ho g hx t cs fr d hg hu hd hi (hK _ _ h)

theorem said_any (f : FrV) (n : NoteV) (sa : Option Addr) (sc : Nat) (w : World) (hv : f.valid = true) (hs : RdI w sa n.strokes.length sc n.strokes) (k : Int) :
    Calls Tryz.prog 101 #[f.val, .int .i64 k, .agg (noteA n sa sc)] w fun e w' => ∃ ta tc, e = .returned (.tuple #[.agg (noteA (saidN k n) ta tc), .bool (saidB f k n)]) ∧
      (ta = sa ∧ tc = sc ∧ (saidN k n).strokes = n.strokes ∨ ta = none ∧ tc = 0 ∧ (saidN k n).strokes = []) ∧ Below w.heap.size w w' := by
  by_cases hk : 1 ≤ k ∧ k ≤ 6
  · have hk' : k = 1 ∨ k = 2 ∨ k = 3 ∨ k = 4 ∨ k = 5 ∨ k = 6 := by omega
    rcases hk' with rfl | rfl | rfl | rfl | rfl | rfl
    · refine (said1 f n sa sc w).mono ?_
      rintro e w' ⟨rfl, hb⟩
      exact ⟨sa, sc, rfl, .inl ⟨rfl, rfl, rfl⟩, hb⟩
    · refine (said2 f n sa sc w).mono ?_
      rintro e w' ⟨rfl, hb⟩
      exact ⟨sa, sc, rfl, .inl ⟨rfl, rfl, rfl⟩, hb⟩
    · refine (said3 f n sa sc w hv).mono ?_
      rintro e w' ⟨rfl, hb⟩
      exact ⟨sa, sc, rfl, .inl ⟨rfl, rfl, rfl⟩, hb⟩
    · refine (said4 f n sa sc w hv hs).mono ?_
      rintro e w' ⟨rfl, hb⟩
      exact ⟨none, 0, rfl, .inr ⟨rfl, rfl, rfl⟩, hb⟩
    · refine (said5 f n sa sc w).mono ?_
      rintro e w' ⟨rfl, hb⟩
      exact ⟨sa, sc, rfl, .inl ⟨rfl, rfl, rfl⟩, hb⟩
    · refine (said6 f n sa sc w).mono ?_
      rintro e w' ⟨rfl, hb⟩
      exact ⟨sa, sc, rfl, .inl ⟨rfl, rfl, rfl⟩, hb⟩
  · refine (said0 f n sa sc w k hk).mono ?_
    rintro e w' ⟨rfl, hb⟩
    refine ⟨sa, sc, rfl, .inl ⟨rfl, rfl, ?_⟩, hb⟩
    rw [saidN_other hk]

theorem said_rd {k : Int} {n : NoteV} {sa ta : Option Addr} {sc tc : Nat} (h : ta = sa ∧ tc = sc ∧ (saidN k n).strokes = n.strokes ∨ ta = none ∧ tc = 0 ∧ (saidN k n).strokes = []) {W : World} (hs : RdI W sa n.strokes.length sc n.strokes) :
    RdI W ta (saidN k n).strokes.length tc (saidN k n).strokes := by
  rcases h with ⟨rfl, rfl, h⟩ | ⟨rfl, rfl, h⟩
  · rw [h]; exact hs
  · rw [h]; exact RdA.nil W 1
/-- What is left of a note behind all that is said; whether it is well-formed. -/
def leftN (n : NoteV) : NoteV :=
  if n.kind = 2 then { saidN n.kind n with refH := 0, refN := 0 } else if n.kind = 5 then { saidN n.fix (saidN n.kind n) with fix := 0 } else saidN n.kind n
def bareN (n : NoteV) : NoteV := { leftN n with house := 0, num := 0, clock := 0, day := 0, kind := 0 }
def okB (f : FrV) (n : NoteV) : Bool :=
  if n.kind = 2 then saidB f n.kind n && rightNameB n.refH n.refN else if n.kind = 5 then saidB f n.kind n && (saidB f n.fix (saidN n.kind n) && inB n.fix 1 4) else saidB f n.kind n
def formedB (f : FrV) (n : NoteV) : Bool := okB f n && (rightNameB n.house n.num && (inB n.clock 1 1099511627776 && (inB n.day 0 99999 && sameB (bareN n) zeroN)))

/-- The three blocks of formed: the frame, the note, what is left (its cells are C). -/
structure Loc3 (w W : World) (p0 p1 p2 : Nat) (f : FrV) (n : NoteV) (sa : Option Addr) (sc : Nat) (C : Array Value) : Prop where
  e0 : W.heap[p0]? = some (.cells #[.int .i64 f.rings, .int .i64 f.sectors, .int .i64 f.wide] 131 (0, 0))
  e1 : W.heap[p1]? = some (.cells (noteA n sa sc) 47 (0, 0))
  e2 : W.heap[p2]? = some (.cells C 47 (0, 0))
  b : Below p0 w W
  lt : p0 < p1 ∧ p1 < p2
section
variable {w W W' : World} {p0 p1 p2 : Nat} {f : FrV} {n : NoteV} {sa : Option Addr} {sc : Nat} {C : Array Value}
theorem Loc3.below (h : Loc3 w W p0 p1 p2 f n sa sc C) (hb : Below W.heap.size W W') : Loc3 w W' p0 p1 p2 f n sa sc C := by
  have g : ∀ {k : Nat} {o : Obj}, W.heap[k]? = some o → W'.heap[k]? = some o := fun {k o} hk => (hb.block k (Array.getElem?_eq_some_iff.1 hk).1).trans hk
  have h0 := (Array.getElem?_eq_some_iff.1 h.e0).1
  exact ⟨g h.e0, g h.e1, g h.e2, h.b.trans (hb.mono (by omega)), h.lt⟩
theorem Loc3.alloc (h : Loc3 w W p0 p1 p2 f n sa sc C) (o : Obj) : Loc3 w (W.alloc o) p0 p1 p2 f n sa sc C := h.below ((Below.refl _ _).alloc (Nat.le_refl _) _)
theorem Loc3.set (h : Loc3 w W p0 p1 p2 f n sa sc C) (j : Nat) (v : Value) : Loc3 w (W.setCell ⟨p2, j, none⟩ v) p0 p1 p2 f n sa sc (C.setIfInBounds j v) := by
  have g : ∀ {k : Nat}, k ≠ p2 → (W.setCell ⟨p2, j, none⟩ v).heap[k]? = W.heap[k]? := fun {k} hk => Below.heap_setCell W ⟨p2, j, none⟩ v k hk
  have hl := h.lt
  exact ⟨(g (by omega)).trans h.e0, (g (by omega)).trans h.e1, heap_setCell_same W p2 j C 47 v h.e2, h.b.trans ⟨rfl, rfl, rfl, by simp [World.setCell], fun k hk => g (by omega)⟩, h.lt⟩
theorem Loc3.setRow (h : Loc3 w W p0 p1 p2 f n sa sc C) (C' : Array Value) : Loc3 w (W.setRow p2 C') p0 p1 p2 f n sa sc C' := by
  have hl := h.lt
  exact ⟨(setRow_other W p2 p0 C' (by omega)).trans h.e0, (setRow_other W p2 p1 C' (by omega)).trans h.e1, setRow_heap W p2 _ C' _ _ h.e2, h.b.trans ⟨rfl, rfl, rfl, by simp, fun k hk => setRow_other W p2 k C' (by omega)⟩, h.lt⟩
end
end Go.Proofs.YtpdmlklnbjegpaaGreat
