/- Parts of the proof, in this order: The program's said, for every kind; The reference's small tests of notes; The reference's bare: a note without its name, times, references, and the content of a kind; The reference's right, kind by kind; The plain law of notes and their bytes: both tests of a note agree; what is encoded is read back by both readers, and nothing else; Bytes that grow: only blocks of bytes from a base on turn; Concat of byte slices; both halves of a tally: Notch of the program and of the reference; comparing lists of byte slices; The program's formed: whether a note is well-formed; The program's encoded and Encode; The reference's Numbers; Join of the reference; comparing lists of byte slices; A range over a function whose iterator keeps state of its own in cells: one law, over any program, at the wide fence; Join of the program: a range over the iterator of tallies; The program's reader: number; The program's note; The reference's reader: signed, Number; The reference's reader: Count, Numbers; Sticks: a journal's methods, and a stick's; Sticks: Write, Sync, Tallies, Crash; The examples at the head of the statements about tallies; The reference's SameNote (of millrindref09), for notes that are the same; Orders of names and notes in the program: cmp.Compare, cmp.Or, compareNames; Orders of names and notes in the program: compareNames, known, when, Before; done, judges, copied in the program. -/
import Derived.Deep.Cut
import Derived.StillTailTactics
import Derived.BigRegion
import Derived.RegionTactic
import Derived.Deep.RegionHeld3
import Derived.WalkSmall
import Derived.RangeFuncNested
import Derived.RangeFuncBound
import Derived.RangeFuncCalls
import Derived.RangeFuncLeaves
import Derived.WalkKit
import Derived.OwnWalkIn
import Derived.TacticsInMore
import Derived.LoopNIn
import Derived.LoopIn
import Derived.Shelf.RegionOpen
import Derived.Sort.QuietIn
import Derived.WalkLawsBesides
import Derived.Deep.RegionLaw
import Derived.Deep.QuietTactic
import Derived.BigQuiet
import Derived.Deep.RegionWith
import Derived.Test.YtpjiakgfegnmcaaKPhk1
set_option linter.unusedSimpArgs false
set_option linter.unusedVariables false
namespace Go.Proofs.Ytpjiakgfegnmcaa
open Go.RowKit

/-- A load of a whole struct at a guarded operation that is wanted. -/
theorem wpList_load_rowG {P : Program} {ops : Array Oper} {rest : List Oper} {o : Oper} {a : Act} {w : World} {Q : Exit → Act → World → Prop} (hw : Region.wanted o (yielded ops a.tmps) = true) (ty : TypeId) (x : Operand) (ho : o.op = .load ty x)
    (g : Nat) (hx : a.eval x = .pointer (some ⟨g, 0, none⟩)) (t : TypeId) (cs : Array Value) (fr : Nat × Nat) (d : TypeDesc) (hg : w.heap[g]? = some (.cells cs t fr))
    (hu : P.underlying ty = some d) (hd : (match d with | .struct _ | .array _ _ => true | _ => false) = true) (hi : (P.info? ty).map (·.size) = some cs.size)
    (h : wpList P ops Q rest (a.put o.dst (.agg cs)) w) : wpList P ops Q (o :: rest) a w :=
  wpList_step fun _ hK => by rw [if_pos hw]; exact wp_load_row ty x ho g hx t cs fr d hg hu hd hi (hK _ _ h)

theorem said_any (f : FrV) (n : NoteV) (sa : Option Addr) (sc : Nat) (w : World) (hv : f.valid = true) (hs : RdI w sa n.strokes.length sc n.strokes) (k : Int) :
    Calls Try.prog 108 #[f.val, .int .i64 k, .agg (noteA n sa sc)] w fun e w' => ∃ ta tc, e = .returned (.tuple #[.agg (noteA (saidN k n) ta tc), .bool (saidB f k n)]) ∧
      (ta = sa ∧ tc = sc ∧ (saidN k n).strokes = n.strokes ∨ ta = none ∧ tc = 0 ∧ (saidN k n).strokes = []) ∧ Below w.heap.size w w' := by
  by_cases hk : 1 ≤ k ∧ k ≤ 6
  · have hk' : k = 1 ∨ k = 2 ∨ k = 3 ∨ k = 4 ∨ k = 5 ∨ k = 6 := by omega
    rcases hk' with rfl | rfl | rfl | rfl | rfl | rfl
    · refine (said1 f n sa sc w).mono ?_
      rintro e w' ⟨rfl, hb⟩
      exact ⟨sa, sc, rfl, .inl ⟨rfl, rfl, rfl⟩, hb⟩
    · refine (said2 f n sa sc w).mono ?_
      rintro e w' ⟨rfl, hb⟩
      exact ⟨sa, sc, rfl, .inl ⟨rfl, rfl, rfl⟩, hb⟩
    · refine (said3 f n sa sc w hv).mono ?_
      rintro e w' ⟨rfl, hb⟩
      exact ⟨sa, sc, rfl, .inl ⟨rfl, rfl, rfl⟩, hb⟩
    · refine (said4 f n sa sc w hv hs).mono ?_
      rintro e w' ⟨rfl, hb⟩
      exact ⟨none, 0, rfl, .inr ⟨rfl, rfl, rfl⟩, hb⟩
    · refine (said5 f n sa sc w).mono ?_
      rintro e w' ⟨rfl, hb⟩
      exact ⟨sa, sc, rfl, .inl ⟨rfl, rfl, rfl⟩, hb⟩
    · refine (said6 f n sa sc w).mono ?_
      rintro e w' ⟨rfl, hb⟩
      exact ⟨sa, sc, rfl, .inl ⟨rfl, rfl, rfl⟩, hb⟩
  · refine (said0 f n sa sc w k hk).mono ?_
    rintro e w' ⟨rfl, hb⟩
    refine ⟨sa, sc, rfl, .inl ⟨rfl, rfl, ?_⟩, hb⟩
    rw [saidN_other hk]

theorem said_rd {k : Int} {n : NoteV} {sa ta : Option Addr} {sc tc : Nat} (h : ta = sa ∧ tc = sc ∧ (saidN k n).strokes = n.strokes ∨ ta = none ∧ tc = 0 ∧ (saidN k n).strokes = []) {W : World} (hs : RdI W sa n.strokes.length sc n.strokes) :
    RdI W ta (saidN k n).strokes.length tc (saidN k n).strokes := by
  rcases h with ⟨rfl, rfl, h⟩ | ⟨rfl, rfl, h⟩
  · rw [h]; exact hs
  · rw [h]; exact RdA.nil W 1
/-- What is left of a note behind all that is said; whether it is well-formed. -/
def leftN (n : NoteV) : NoteV :=
  if n.kind = 2 then { saidN n.kind n with refH := 0, refN := 0 } else if n.kind = 5 then { saidN n.fix (saidN n.kind n) with fix := 0 } else saidN n.kind n
def bareN (n : NoteV) : NoteV := { leftN n with house := 0, num := 0, clock := 0, day := 0, kind := 0 }
def okB (f : FrV) (n : NoteV) : Bool :=
  if n.kind = 2 then saidB f n.kind n && rightNameB n.refH n.refN else if n.kind = 5 then saidB f n.kind n && (saidB f n.fix (saidN n.kind n) && inB n.fix 1 4) else saidB f n.kind n
def formedB (f : FrV) (n : NoteV) : Bool := okB f n && (rightNameB n.house n.num && (inB n.clock 1 1099511627776 && (inB n.day 0 99999 && sameB (bareN n) zeroN)))

/-- The three blocks of formed: the frame, the note, what is left (its cells are C). -/
structure Loc3 (w W : World) (p0 p1 p2 : Nat) (f : FrV) (n : NoteV) (sa : Option Addr) (sc : Nat) (C : Array Value) : Prop where
  e0 : W.heap[p0]? = some (.cells #[.int .i64 f.rings, .int .i64 f.sectors, .int .i64 f.wide] 138 (0, 0))
  e1 : W.heap[p1]? = some (.cells (noteA n sa sc) 43 (0, 0))
  e2 : W.heap[p2]? = some (.cells C 43 (0, 0))
  b : Below p0 w W
  lt : p0 < p1 ∧ p1 < p2
section
variable {w W W' : World} {p0 p1 p2 : Nat} {f : FrV} {n : NoteV} {sa : Option Addr} {sc : Nat} {C : Array Value}
theorem Loc3.below (h : Loc3 w W p0 p1 p2 f n sa sc C) (hb : Below W.heap.size W W') : Loc3 w W' p0 p1 p2 f n sa sc C := by
  have g : ∀ {k : Nat} {o : Obj}, W.heap[k]? = some o → W'.heap[k]? = some o := fun {k o} hk => (hb.block k (Array.getElem?_eq_some_iff.1 hk).1).trans hk
  have h0 := (Array.getElem?_eq_some_iff.1 h.e0).1
  exact ⟨g h.e0, g h.e1, g h.e2, h.b.trans (hb.mono (by omega)), h.lt⟩
theorem Loc3.alloc (h : Loc3 w W p0 p1 p2 f n sa sc C) (o : Obj) : Loc3 w (W.alloc o) p0 p1 p2 f n sa sc C := h.below ((Below.refl _ _).alloc (Nat.le_refl _) _)
theorem Loc3.set (h : Loc3 w W p0 p1 p2 f n sa sc C) (j : Nat) (v : Value) : Loc3 w (W.setCell ⟨p2, j, none⟩ v) p0 p1 p2 f n sa sc (C.setIfInBounds j v) := by
  have g : ∀ {k : Nat}, k ≠ p2 → (W.setCell ⟨p2, j, none⟩ v).heap[k]? = W.heap[k]? := fun {k} hk => Below.heap_setCell W ⟨p2, j, none⟩ v k hk
  have hl := h.lt
  exact ⟨(g (by omega)).trans h.e0, (g (by omega)).trans h.e1, heap_setCell_same W p2 j C 43 v h.e2, h.b.trans ⟨rfl, rfl, rfl, by simp [World.setCell], fun k hk => g (by omega)⟩, h.lt⟩
theorem Loc3.setRow (h : Loc3 w W p0 p1 p2 f n sa sc C) (C' : Array Value) : Loc3 w (W.setRow p2 C') p0 p1 p2 f n sa sc C' := by
  have hl := h.lt
  exact ⟨(setRow_other W p2 p0 C' (by omega)).trans h.e0, (setRow_other W p2 p1 C' (by omega)).trans h.e1, setRow_heap W p2 _ C' _ _ h.e2, h.b.trans ⟨rfl, rfl, rfl, by simp, fun k hk => setRow_other W p2 k C' (by omega)⟩, h.lt⟩
end
end Go.Proofs.Ytpjiakgfegnmcaa
namespace Go.Proofs.Ytpjiakgfegnmcaa
open Go.RowKit

section
attribute [local go_sem] noteA_0 noteA_1
theorem rNameOf_any (n : NoteV) (sa : Option Addr) (sc : Nat) (w : World) : Calls Try.prog 113 #[.agg (noteA n sa sc)] w fun e w' => e = .returned (.agg #[.int .i64 n.house, .int .i64 n.num]) ∧ Below w.heap.size w w' := by
  have hb := (Below.refl w.heap.size w).alloc (Nat.le_refl _) (.cells (noteA n sa sc) 43)
  go_enter Try.func113, Try.ntmps113
  go_wp2_with fail
  go_returns
  exact ⟨rfl, hb.alloc hb.size _⟩
end
end Go.Proofs.Ytpjiakgfegnmcaa
namespace Go.Proofs.Ytpjiakgfegnmcaa
open Go.RowKit

def bare0 (n : NoteV) : NoteV := { n with house := 0, num := 0, clock := 0, day := 0, kind := 0, refH := 0, refN := 0, fix := 0 }
def bareR (k : Int) (n : NoteV) : NoteV :=
  if k = 1 then { bare0 n with hardLo := 0, hardHi := 0 } else if k = 2 then { bare0 n with turns := 0 } else if k = 3 then { bare0 n with stone := 0, a := 0, b := 0, diffLo := 0, diffHi := 0 }
  else if k = 4 then { bare0 n with stone := 0, ring := 0, strokes := [] } else bare0 n
/-- Three blocks made one behind the other: the note, the result, what is left (its cells are C). -/
structure Loc2 (w W : World) (p0 p1 p2 : Nat) (C : Array Value) : Prop where
  e1 : W.heap[p1]? = some (.cells (noteA zeroN none 0) 43 (0, 0))
  e2 : W.heap[p2]? = some (.cells C 43 (0, 0))
  b : Below p0 w W
  lt : p0 < p1 ∧ p1 < p2
theorem Loc2.set {w W : World} {p0 p1 p2 : Nat} {C : Array Value} (h : Loc2 w W p0 p1 p2 C) (j : Nat) (v : Value) : Loc2 w (W.setCell ⟨p2, j, none⟩ v) p0 p1 p2 (C.setIfInBounds j v) := by
  have g : ∀ {k : Nat}, k ≠ p2 → (W.setCell ⟨p2, j, none⟩ v).heap[k]? = W.heap[k]? := fun {k} hk => Below.heap_setCell W ⟨p2, j, none⟩ v k hk
  have hl := h.lt
  exact ⟨(g (by omega)).trans h.e1, heap_setCell_same W p2 j C 43 v h.e2, h.b.trans ⟨rfl, rfl, rfl, by simp [World.setCell], fun k hk => g (by omega)⟩, h.lt⟩
theorem Loc2.done {w W : World} {p0 p1 p2 : Nat} {C : Array Value} (h : Loc2 w W p0 p1 p2 C) (C' : Array Value) : (W.setRow p1 C').heap[p1]? = some (.cells C' 43 (0, 0)) ∧ Below p0 w (W.setRow p1 C') := by
  have hl := h.lt
  exact ⟨setRow_heap W p1 _ C' _ _ h.e1, h.b.trans ⟨rfl, rfl, rfl, by simp, fun k hk => setRow_other W p1 k C' (by omega)⟩⟩

section
attribute [local go_sem] noteA_0 noteA_1 noteA_2 noteA_3 noteA_4 noteA_5 noteA_6 noteA_7 noteA_8 noteA_9 noteA_10 noteA_11 noteA_12 noteA_13 noteA_14 noteA_15 noteA_16 noteA_17 noteA_18 noteA_s0 noteA_s1 noteA_s2 noteA_s3 noteA_s4 noteA_s5 noteA_s6 noteA_s7 noteA_s8 noteA_s9 noteA_s10 noteA_s11 noteA_s12 noteA_s13 noteA_s14 noteA_s15 noteA_s16 noteA_s17 noteA_s18
variable (n : NoteV) (sa : Option Addr) (sc : Nat) (w : World)
end
end Go.Proofs.Ytpjiakgfegnmcaa
namespace Go.Proofs.Ytpjiakgfegnmcaa
open Go.RowKit

/-- What right says of the content of a kind. -/
def rightB (f : FrV) (k : Int) (n : NoteV) : Bool :=
  if k = 1 then spansB n.hardLo n.hardHi 1 255 else if k = 2 then inB n.turns 1 10000
  else if k = 3 then inB n.stone 0 1 && (inB n.a 0 (f.rings * f.sectors - 1) && (inB n.b (-1) (f.rings * f.sectors - 1) && (decide (n.a ≠ n.b) && spansB n.diffLo n.diffHi (-1000000000) 1000000000)))
  else if k = 4 then inB n.stone 0 1 && (inB n.ring 0 (f.rings - 1) && strokesB (f.sectors - f.wide) n.strokes)
  else false
section
attribute [local go_sem] noteA_0 noteA_1 noteA_2 noteA_3 noteA_4 noteA_5 noteA_6 noteA_7 noteA_8 noteA_9 noteA_10 noteA_11 noteA_12 noteA_13 noteA_14 noteA_15 noteA_16 noteA_17 noteA_18
variable (f : FrV) (n : NoteV) (sa : Option Addr) (sc : Nat) (w : World)
end
end Go.Proofs.Ytpjiakgfegnmcaa
namespace Go.Proofs.Ytpjiakgfegnmcaa
set_option linter.unusedSimpArgs false

/-- Whether a note refers to another one. -/
def refersB (n : NoteV) : Bool := decide (n.kind = 2) || (decide (n.kind = 5) || decide (n.kind = 6))
def namedB (n : NoteV) : Bool := !decide (n.refH = 0 ∧ n.refN = 0)
/-- What the reference's wellFormed says. -/
def wellB (f : FrV) (n : NoteV) : Bool :=
  rightNameB n.house n.num && (inB n.clock 1 1099511627776 && (inB n.day 0 99999 && (!(refersB n != namedB n) && (!(refersB n && !rightNameB n.refH n.refN) &&
  (if n.kind = 6 then decide (n.fix = 0) && sameB (bareR 0 n) zeroN else if n.kind = 5 then rightB f n.fix n && sameB (bareR n.fix n) zeroN
   else decide (n.fix = 0) && (rightB f n.kind n && sameB (bareR n.kind n) zeroN))))))
theorem cell_or {f : FrV} (hv : f.valid = true) (x : Int) : (decide (x = -1) || cellB f x) = inB x (-1) (f.rings * f.sectors - 1) := by
  have hvf : 1 ≤ f.rings ∧ f.rings ≤ 24 ∧ 2 ≤ f.sectors ∧ f.sectors ≤ 96 ∧ 1 ≤ f.wide ∧ f.wide ≤ f.sectors := by
    simp only [FrV.valid, Bool.and_eq_true, inB_true] at hv
    omega
  have hm1 : 0 < f.rings * f.sectors := Int.mul_pos (by omega) (by omega)
  rw [Bool.eq_iff_iff]
  simp only [Bool.or_eq_true, decide_eq_true_eq, cellB, inB_true]
  omega
theorem zero14 (x : NoteV) : sameB x zeroN = decide (x.house = 0 ∧ x.num = 0 ∧ x.clock = 0 ∧ x.day = 0 ∧ x.kind = 0 ∧ x.stone = 0 ∧ x.heap = 0 ∧ x.turns = 0 ∧ x.hardLo = 0 ∧ x.hardHi = 0 ∧ x.diffLo = 0 ∧ x.diffHi = 0 ∧ x.a = 0 ∧ x.b = 0 ∧ x.ring = 0 ∧ x.refH = 0 ∧ x.refN = 0 ∧ x.fix = 0 ∧ x.strokes = []) := by
  obtain ⟨x0, x1, x2, x3, x4, x5, x6, x7, x8, x9, x10, x11, x12, x13, x14, x15, x16, x17, l⟩ := x
  simp only [sameB, nums14, zeroN]
  grind
theorem rightName_some {h m : Int} (e : rightNameB h m = true) : ¬ (h = 0 ∧ m = 0) := by
  simp only [rightNameB, Bool.and_eq_true, inB_true] at e
  omega
theorem formed_well {f : FrV} (hv : f.valid = true) (n : NoteV) : formedB f n = wellB f n := by
  have hc := cell_or hv
  have ha : cellB f n.a = inB n.a 0 (f.rings * f.sectors - 1) := rfl
  simp only [formedB, wellB, okB, zero14]
  have hn := @rightName_some n.refH n.refN
  by_cases h1 : n.kind = 1
  · simp [h1, bareN, leftN, saidN, bareR, bare0, saidB, rightB, refersB, namedB]
    grind
  by_cases h2 : n.kind = 2
  · simp [h2, bareN, leftN, saidN, bareR, bare0, saidB, rightB, refersB, namedB]
    grind
  by_cases h3 : n.kind = 3
  · simp [h3, bareN, leftN, saidN, bareR, bare0, saidB, rightB, refersB, namedB, ← hc]
    grind
  by_cases h4 : n.kind = 4
  · simp [h4, bareN, leftN, saidN, bareR, bare0, saidB, rightB, refersB, namedB]
    grind
  by_cases h6 : n.kind = 6
  · simp [h6, bareN, leftN, saidN, bareR, bare0, saidB, rightB, refersB, namedB]
    grind
  by_cases h5 : n.kind = 5
  · by_cases g1 : n.fix = 1
    · simp [h5, g1, bareN, leftN, saidN, bareR, bare0, saidB, rightB, refersB, namedB, inB]
      grind
    by_cases g2 : n.fix = 2
    · simp [h5, g2, bareN, leftN, saidN, bareR, bare0, saidB, rightB, refersB, namedB, inB]
      grind
    by_cases g3 : n.fix = 3
    · simp [h5, g3, bareN, leftN, saidN, bareR, bare0, saidB, rightB, refersB, namedB, ← hc, show inB 3 1 4 = true from rfl]
      grind
    by_cases g4 : n.fix = 4
    · simp [h5, g4, bareN, leftN, saidN, bareR, bare0, saidB, rightB, refersB, namedB, inB]
      grind
    have hf : inB n.fix 1 4 = false := by rw [← Bool.not_eq_true, inB_true]; omega
    simp [h5, g1, g2, g3, g4, rightB, hf]
  simp [h1, h2, h3, h4, h5, h6, saidB, rightB]
end Go.Proofs.Ytpjiakgfegnmcaa
namespace Go.Proofs.Ytpjiakgfegnmcaa
open Go.RowKit

/-- A block of bytes, from the base on. -/
def U8 (base : Nat) (w : World) (k : Nat) : Prop := base ≤ k ∧ ∃ cur sp, w.heap[k]? = some (.cells cur 5 sp)
/-- Blocks that were there are as they were, but for blocks of bytes from the base on. -/
structure AppB (base : Nat) (w w' : World) : Prop where
  os : w'.os = w.os
  tape : w'.tape = w.tape
  output : w'.output = w.output
  size : w.heap.size ≤ w'.heap.size
  block : ∀ k, k < w.heap.size → ¬ U8 base w k → w'.heap[k]? = w.heap[k]?
theorem AppB.refl (base : Nat) (w : World) : AppB base w w := ⟨rfl, rfl, rfl, Nat.le_refl _, fun _ _ _ => rfl⟩
theorem AppB.not {base : Nat} {w w' : World} (h : AppB base w w') {k : Nat} (hk : k < w.heap.size) (hn : ¬ U8 base w k) : ¬ U8 base w' k := by
  rintro ⟨h1, cur, sp, h2⟩
  exact hn ⟨h1, cur, sp, by rw [← h.block k hk hn]; exact h2⟩
theorem AppB.trans {base : Nat} {a b c : World} (h : AppB base a b) (k : AppB base b c) : AppB base a c :=
  ⟨k.os.trans h.os, k.tape.trans h.tape, k.output.trans h.output, Nat.le_trans h.size k.size, fun i hi hs => (k.block i (Nat.lt_of_lt_of_le hi h.size) (h.not hi hs)).trans (h.block i hi hs)⟩
theorem AppB.of_below {base : Nat} {w w' : World} (h : Below w.heap.size w w') : AppB base w w' := ⟨h.os, h.tape, h.output, h.size, fun k hk _ => h.block k hk⟩
theorem AppB.mono {base base' : Nat} {w w' : World} (h : AppB base' w w') (hb : base ≤ base') : AppB base w w' :=
  ⟨h.os, h.tape, h.output, h.size, fun k hk hn => h.block k hk (fun ⟨h1, h2⟩ => hn ⟨Nat.le_trans hb h1, h2⟩)⟩
theorem AppB.of_own {base : Nat} {w w' : World} {v : Value} {n : Nat} {xs : List Value} (ho : w.ownsRow base 5 1 v n xs) (hg : w.grownBy w' v.ownBlock) : AppB base w w' := by
  refine ⟨hg.os, hg.tape, hg.output, hg.size, fun k hk hn => hg.block k hk (fun e => hn ?_)⟩
  rcases ho.2 with ⟨rfl, _⟩ | ⟨g, cap, cur, rfl, h1, h2, _⟩
  · cases e
  · simp only [Value.ownBlock, Option.some.injEq] at e
    subst e
    exact ⟨h1, cur, _, h2⟩
theorem AppB.below {base : Nat} {w w' : World} (h : AppB base w w') (hb : base ≤ w.heap.size) : Below base w w' :=
  ⟨h.os, h.tape, h.output, h.size, fun k hk => h.block k (by omega) (fun ⟨h1, _⟩ => by omega)⟩
end Go.Proofs.Ytpjiakgfegnmcaa
namespace Go.Proofs.Ytpjiakgfegnmcaa
open Go.RowKit

/-- The slice of byte slices reads as the lists ls. -/
def RdBB (w : World) (a : Option Addr) (n c : Nat) (ls : List (List UInt8)) : Prop :=
  ∃ vs : List Value, RdA w 1 a n c vs ∧ ls.length = n ∧ ∀ i, i < n → ∃ ai ci, vs[i]? = some (.slice ai (ls[i]?.getD []).length ci) ∧ RdB w ai (ls[i]?.getD []).length ci (ls[i]?.getD [])

theorem RdBB.len {w : World} {a : Option Addr} {n c : Nat} {ls : List (List UInt8)} (h : RdBB w a n c ls) : ls.length = n := by obtain ⟨_, _, h, _⟩ := h; exact h
theorem RdBB.maxn {w : World} {a : Option Addr} {n c : Nat} {ls : List (List UInt8)} (h : RdBB w a n c ls) : n ≤ 9223372036854775807 := by obtain ⟨_, h, _⟩ := h; exact h.maxn
theorem RdBB.below {w w' : World} {a : Option Addr} {n c : Nat} {ls : List (List UInt8)} (h : RdBB w a n c ls) (hb : Below w.heap.size w w') : RdBB w' a n c ls := by
  obtain ⟨vs, h1, h2, h3⟩ := h
  refine ⟨vs, h1.below hb, h2, fun i hi => ?_⟩
  obtain ⟨ai, ci, h4, h5⟩ := h3 i hi
  exact ⟨ai, ci, h4, h5.below hb⟩
theorem RdBB.at {w : World} {a : Option Addr} {n c : Nat} {ls : List (List UInt8)} (h : RdBB w a n c ls) (hn : 0 < n) :
    ∃ b off, a = some ⟨b, off, none⟩ ∧ ∀ i, i < n → ∃ ai ci, w.cell? ⟨b, off + i, none⟩ = some (.slice ai (ls[i]?.getD []).length ci) ∧ RdB w ai (ls[i]?.getD []).length ci (ls[i]?.getD []) := by
  obtain ⟨vs, h1, h2, h3⟩ := h
  obtain ⟨b, off, rfl, h4⟩ := h1.at hn
  refine ⟨b, off, rfl, fun i hi => ?_⟩
  obtain ⟨ai, ci, h5, h6⟩ := h3 i hi
  exact ⟨ai, ci, h4 i _ h5, h6⟩
theorem RdBB.nil (w : World) : RdBB w none 0 0 [] := ⟨[], RdA.nil w 1, rfl, fun i hi => by omega⟩

theorem own_mono {w : World} {B base : Nat} {e : TypeId} {k : Nat} {v : Value} {n : Nat} {xs : List Value} (h : w.ownsRow base e k v n xs) (hB : B ≤ base) : w.ownsRow B e k v n xs := by
  refine ⟨h.1, ?_⟩
  rcases h.2 with h | ⟨g, cap, cur, h, hg, hr⟩
  · exact .inl h
  · exact .inr ⟨g, cap, cur, h, by omega, hr⟩
theorem own_below {w w' : World} {base : Nat} {e : TypeId} {k : Nat} {v : Value} {n : Nat} {xs : List Value} (h : w.ownsRow base e k v n xs) (hb : Below w.heap.size w w') : w'.ownsRow base e k v n xs := by
  refine ⟨h.1, ?_⟩
  rcases h.2 with h | ⟨g, cap, cur, h, hg, hgg, hr⟩
  · exact .inl h
  · exact .inr ⟨g, cap, cur, h, hg, (hb.block g (Array.getElem?_eq_some_iff.1 hgg).1).trans hgg, hr⟩

theorem RdB.of_own {w : World} {base : Nat} {e : TypeId} {a : Option Addr} {n c : Nat} {l : List UInt8} (h : w.ownsRow base e 1 (.slice a n c) n (l.map byteV)) : RdB w a n c l := RdA.of_own h

end Go.Proofs.Ytpjiakgfegnmcaa
namespace Go.Proofs.Ytpjiakgfegnmcaa
open Go.RowKit
section
attribute [local go_sem] noteA_0 noteA_1 noteA_2 noteA_3 noteA_4 noteA_5 noteA_6 noteA_7 noteA_8 noteA_9 noteA_10 noteA_11 noteA_12 noteA_13 noteA_14 noteA_15 noteA_16 noteA_17 noteA_18 noteA_s0 noteA_s1 noteA_s2 noteA_s3 noteA_s4 noteA_s5 noteA_s6 noteA_s7 noteA_s8 noteA_s9 noteA_s10 noteA_s11 noteA_s12 noteA_s13 noteA_s14 noteA_s15 noteA_s16 noteA_s17 noteA_s18
variable (f : FrV) (n : NoteV) (sa : Option Addr) (sc : Nat) (w : World)
set_option maxHeartbeats 20000000 in
set_option maxRecDepth 100000 in
theorem formed_o (hv : f.valid = true) (hs : RdI w sa n.strokes.length sc n.strokes) (k2 : n.kind ≠ 2) (k5 : n.kind ≠ 5) :
    Calls Try.prog 79 #[f.val, .agg (noteA n sa sc)] w fun e w' => e = .returned (.bool (formedB f n)) ∧ Below w.heap.size w w' := by
  have I43 := Lib.hid (show ∀ (m : NoteV) (a : Option Addr) (c : Nat), (Try.prog.info? 43).map (·.size) = some (noteA m a c).size from fun m a c => by kernel_rfl)
  have g1 := heap_at (w.alloc (.cells #[.int .i64 f.rings, .int .i64 f.sectors, .int .i64 f.wide] 138)) (.cells (noteA n sa sc) 43) (w.heap.size + 1) (by simp)
  have g0 := heap_before (w.alloc (.cells #[.int .i64 f.rings, .int .i64 f.sectors, .int .i64 f.wide] 138)) (.cells (noteA n sa sc) 43) _ _ (heap_at w (.cells #[.int .i64 f.rings, .int .i64 f.sectors, .int .i64 f.wide] 138) _ rfl)
  have bb : Below w.heap.size w ((w.alloc (.cells #[.int .i64 f.rings, .int .i64 f.sectors, .int .i64 f.wide] 138)).alloc (.cells (noteA n sa sc) 43)) := ((Below.refl _ _).alloc (Nat.le_refl _) _).alloc (by simp) _
  have G1 := Lib.hid g1; clear g1
  have G0 := Lib.hid g0; clear g0
  have BB := Lib.hid bb; clear bb
  go_enter Try.func79, Try.ntmps79
  unfold FrV.val
  go_wp2_with (refine wpList_load_row rfl 43 _ rfl (w.heap.size + 1) rfl 43 (noteA n sa sc) (0, 0) _ G1.out Try.underlying43 rfl (I43.out _ _ _) ?_)
  refine (said_any f n sa sc _ hv (hs.below BB.out) n.kind).mono ?_
  rintro e w1 ⟨ta, tc, rfl, hrd, b1⟩
  have SR := Lib.hid hrd; clear hrd
  have l1 := (Array.getElem?_eq_some_iff.1 G1.out).1
  have z1 := b1.size
  have L1 : Loc3 w (w1.alloc (.cells (noteA (saidN n.kind n) ta tc) 43)) w.heap.size (w.heap.size + 1) w1.heap.size f n sa sc (noteA (saidN n.kind n) ta tc) :=
    ⟨heap_before _ _ _ _ ((b1.block _ (by omega)).trans G0.out), heap_before _ _ _ _ ((b1.block _ (by omega)).trans G1.out), heap_last _ _, (BB.out.trans (b1.mono BB.out.size)).alloc (by omega) _, by omega⟩
  have LL1 := Lib.hid L1; clear L1 l1 z1 b1
  have one1 := noteA_one (saidN n.kind n) ta tc
  have k4 := note_cells LL1.out.e1 4 _ rfl
  simp only [Nat.zero_add] at k4
  have q2 : (n.kind == 2) = false := by simp [k2]
  have q2' : decide (n.kind = 2) = false := by simp [k2]
  have q5 : (n.kind == 5) = false := by simp [k5]
  have q5' : decide (n.kind = 5) = false := by simp [k5]
  have hkind : n.kind ≠ 2 ∧ n.kind ≠ 5 := ⟨k2, k5⟩
  have HK := Lib.hid hkind; clear hkind k2 k5
  go_upto_region 11 with (refine wpList_store_newp w1 rfl 43 _ _ rfl w1.heap.size rfl _ (noteA (saidN n.kind n) ta tc) rfl rfl (I43.out _ _ _) rfl one1 ?_)
  generalize hW2 : w1.alloc (.cells (noteA (saidN n.kind n) ta tc) 43) = W2 at *
  generalize hp0 : w.heap.size = p0 at *
  generalize hp1 : p0 + 1 = p1 at *
  generalize hp2 : w1.heap.size = p2 at *
  have RDb := Lib.hid (show ∀ W', Below p0 w W' → RdI W' ta (saidN n.kind n).strokes.length tc (saidN n.kind n).strokes from fun W' h => said_rd SR.out (hs.below (by rw [hp0]; exact h)))
  have HP0 := Lib.hid hp0; clear hp0 hp1 hp2 hW2 G0 G1 BB SR k4
  have j0 := note_cells LL1.out.e2 0 _ rfl
  simp only [Nat.zero_add] at j0
  have z0 := note_frozen LL1.out.e2 0
  have j1 := note_cells LL1.out.e2 1 _ rfl
  simp only [Nat.zero_add] at j1
  have z1 := note_frozen LL1.out.e2 1
  have j2 := note_cells LL1.out.e2 2 _ rfl
  simp only [Nat.zero_add] at j2
  have z2 := note_frozen LL1.out.e2 2
  have j3 := note_cells LL1.out.e2 3 _ rfl
  simp only [Nat.zero_add] at j3
  have z3 := note_frozen LL1.out.e2 3
  have j4 := note_cells LL1.out.e2 4 _ rfl
  simp only [Nat.zero_add] at j4
  have z4 := note_frozen LL1.out.e2 4
  obtain ⟨N9, HN9⟩ : ∃ N9 : NoteV, Hid (N9 = { saidN n.kind n with house := 0, num := 0, clock := 0, day := 0, kind := 0 }) := ⟨_, Lib.hid rfl⟩
  go_upto_region 12 with fail
  generalize hW : (((((W2.setCell ⟨p2, 0, none⟩ (.int .i64 0)).setCell ⟨p2, 1, none⟩ (.int .i64 0)).setCell ⟨p2, 2, none⟩ (.int .i64 0)).setCell ⟨p2, 3, none⟩ (.int .i64 0)).setCell ⟨p2, 4, none⟩ (.int .i64 0)) = Wf1 at *
  have Lf2 := Lib.hid (show Loc3 w Wf1 p0 p1 p2 f n sa sc (noteA N9 ta tc) from by rw [HN9.out, ← hW]; exact (((((LL1.out.set 0 (.int .i64 0)).set 1 (.int .i64 0)).set 2 (.int .i64 0)).set 3 (.int .i64 0)).set 4 (.int .i64 0)))
  have RDf3 := Lib.hid (show RdI Wf1 ta N9.strokes.length tc N9.strokes from by rw [HN9.out]; exact RDb.out _ Lf2.out.b)
  clear hW
  clear j0 z0 j1 z1 j2 z2 j3 z3 j4 z4
  cases hok : saidB f n.kind n
  · have hR : formedB f n = false := by simp only [formedB, okB, if_neg HK.out.1, if_neg HK.out.2]; simp [HK.out, hok]
    have HRX := Lib.hid hR; clear hR
    go_wp2_with fail
    go_ret
    rw [HRX.out]
    exact ⟨rfl, by rw [HP0.out]; exact Lf2.out.b⟩
  · go_wp2_with (first
      | (refine wpList_load_row rfl 43 _ rfl p1 rfl 43 (noteA n sa sc) (0, 0) _ Lf2.out.e1 Try.underlying43 rfl (I43.out _ _ _) ?_)
      | (refine wpList_load_rowG ?hw 43 _ rfl p1 rfl 43 (noteA n sa sc) (0, 0) _ Lf2.out.e1 Try.underlying43 rfl (I43.out _ _ _) ?_; case hw => rfl))
    refine (nameOf_any n sa sc _).mono ?_
    rintro e wn4 ⟨rfl, b2⟩
    have LN6 := Lib.hid (Lf2.out.below b2)
    have RD3 := Lib.hid (RDf3.out.below b2)
    clear b2
    go_wp2_with fail
    refine (rightName_any n.house n.num _).mono ?_
    rintro e wr5 ⟨rfl, b2⟩
    have LR7 := Lib.hid (LN6.out.below b2)
    have RD4 := Lib.hid (RD3.out.below b2)
    clear b2 RD3
    cases hrn : rightNameB n.house n.num
    · have hR : formedB f n = false := by simp only [formedB, okB, if_neg HK.out.1, if_neg HK.out.2]; simp [HK.out, hok, hrn]
      have HRX := Lib.hid hR; clear hR
      go_wp2_with fail
      go_ret
      rw [HRX.out]
      exact ⟨rfl, by rw [HP0.out]; exact LR7.out.b⟩
    · have HRN := Lib.hid hrn
      have k2 := note_cells LR7.out.e1 2 _ rfl
      simp only [Nat.zero_add] at k2
      have k3 := note_cells LR7.out.e1 3 _ rfl
      simp only [Nat.zero_add] at k3
      go_wp2_with fail
      refine (hin_any n.clock 1 1099511627776 _).mono ?_
      rintro e w' ⟨rfl, rfl⟩
      cases hcl : inB n.clock 1 1099511627776
      · have hR : formedB f n = false := by simp only [formedB, okB, if_neg HK.out.1, if_neg HK.out.2]; simp [HK.out, hok, hrn, hcl]
        have HRX := Lib.hid hR; clear hR
        go_wp2_with fail
        go_ret
        rw [HRX.out]
        exact ⟨rfl, by rw [HP0.out]; exact LR7.out.b⟩
      · have HCL := Lib.hid hcl
        go_wp2_with fail
        refine (hin_any n.day 0 99999 _).mono ?_
        rintro e w' ⟨rfl, rfl⟩
        cases hda : inB n.day 0 99999
        · have hR : formedB f n = false := by simp only [formedB, okB, if_neg HK.out.1, if_neg HK.out.2]; simp [HK.out, hok, hrn, hcl, hda]
          have HRX := Lib.hid hR; clear hR
          go_wp2_with fail
          go_ret
          rw [HRX.out]
          exact ⟨rfl, by rw [HP0.out]; exact LR7.out.b⟩
        · have HDA := Lib.hid hda
          go_wp2_with (first
            | (refine wpList_load_row rfl 43 _ rfl p2 rfl 43 (noteA N9 ta tc) (0, 0) _ LR7.out.e2 Try.underlying43 rfl (I43.out _ _ _) ?_)
            | (refine wpList_load_rowG ?hw 43 _ rfl p2 rfl 43 (noteA N9 ta tc) (0, 0) _ LR7.out.e2 Try.underlying43 rfl (I43.out _ _ _) ?_; case hw => rfl))
          refine (same_any N9 zeroN ta tc none 0 _ RD4.out (RdA.nil _ 1)).mono ?_
          rintro e ws ⟨rfl, b2⟩
          have hR : formedB f n = sameB (bareN n) zeroN := by simp only [formedB, okB, if_neg HK.out.1, if_neg HK.out.2]; simp [HK.out, hok, hrn, hcl, hda]
          have hN : bareN n = N9 := by rw [HN9.out]; unfold bareN leftN; rw [if_neg HK.out.1, if_neg HK.out.2]
          have HRX := Lib.hid hR; clear hR
          have HNX := Lib.hid hN; clear hN
          go_wp2_with fail
          go_ret
          rw [HRX.out, HNX.out]
          exact ⟨rfl, by rw [HP0.out]; exact (LR7.out.below b2).b⟩
set_option maxHeartbeats 20000000 in
set_option maxRecDepth 100000 in
theorem formed_2 (hv : f.valid = true) (hs : RdI w sa n.strokes.length sc n.strokes) (k2 : n.kind = 2) :
    Calls Try.prog 79 #[f.val, .agg (noteA n sa sc)] w fun e w' => e = .returned (.bool (formedB f n)) ∧ Below w.heap.size w w' := by
  have HK := Lib.hid k2; clear k2
  have I43 := Lib.hid (show ∀ (m : NoteV) (a : Option Addr) (c : Nat), (Try.prog.info? 43).map (·.size) = some (noteA m a c).size from fun m a c => by kernel_rfl)
  have g1 := heap_at (w.alloc (.cells #[.int .i64 f.rings, .int .i64 f.sectors, .int .i64 f.wide] 138)) (.cells (noteA n sa sc) 43) (w.heap.size + 1) (by simp)
  have g0 := heap_before (w.alloc (.cells #[.int .i64 f.rings, .int .i64 f.sectors, .int .i64 f.wide] 138)) (.cells (noteA n sa sc) 43) _ _ (heap_at w (.cells #[.int .i64 f.rings, .int .i64 f.sectors, .int .i64 f.wide] 138) _ rfl)
  have bb : Below w.heap.size w ((w.alloc (.cells #[.int .i64 f.rings, .int .i64 f.sectors, .int .i64 f.wide] 138)).alloc (.cells (noteA n sa sc) 43)) := ((Below.refl _ _).alloc (Nat.le_refl _) _).alloc (by simp) _
  have G1 := Lib.hid g1; clear g1
  have G0 := Lib.hid g0; clear g0
  have BB := Lib.hid bb; clear bb
  go_enter Try.func79, Try.ntmps79
  unfold FrV.val
  go_wp2_with (refine wpList_load_row rfl 43 _ rfl (w.heap.size + 1) rfl 43 (noteA n sa sc) (0, 0) _ G1.out Try.underlying43 rfl (I43.out _ _ _) ?_)
  refine (said_any f n sa sc _ hv (hs.below BB.out) n.kind).mono ?_
  rintro e w1 ⟨ta, tc, rfl, hrd, b1⟩
  have SR := Lib.hid hrd; clear hrd
  have l1 := (Array.getElem?_eq_some_iff.1 G1.out).1
  have z1 := b1.size
  have L1 : Loc3 w (w1.alloc (.cells (noteA (saidN n.kind n) ta tc) 43)) w.heap.size (w.heap.size + 1) w1.heap.size f n sa sc (noteA (saidN n.kind n) ta tc) :=
    ⟨heap_before _ _ _ _ ((b1.block _ (by omega)).trans G0.out), heap_before _ _ _ _ ((b1.block _ (by omega)).trans G1.out), heap_last _ _, (BB.out.trans (b1.mono BB.out.size)).alloc (by omega) _, by omega⟩
  have LL1 := Lib.hid L1; clear L1 l1 z1 b1
  have one1 := noteA_one (saidN n.kind n) ta tc
  have k4 : (w1.alloc (.cells (noteA (saidN n.kind n) ta tc) 43)).cell? ⟨w.heap.size + 1, 4, none⟩ = some (.int .i64 2) := by
    have h := note_cells LL1.out.e1 4 _ rfl
    simp only [Nat.zero_add] at h
    rw [h]
    exact congrArg (fun z => some (Value.int .i64 z)) HK.out
  go_upto_region 4 with (refine wpList_store_newp w1 rfl 43 _ _ rfl w1.heap.size rfl _ (noteA (saidN n.kind n) ta tc) rfl rfl (I43.out _ _ _) rfl one1 ?_)
  generalize hW2 : w1.alloc (.cells (noteA (saidN n.kind n) ta tc) 43) = W2 at *
  generalize hp0 : w.heap.size = p0 at *
  generalize hp1 : p0 + 1 = p1 at *
  generalize hp2 : w1.heap.size = p2 at *
  have RDb := Lib.hid (show ∀ W', Below p0 w W' → RdI W' ta (saidN n.kind n).strokes.length tc (saidN n.kind n).strokes from fun W' h => said_rd SR.out (hs.below (by rw [hp0]; exact h)))
  have HP0 := Lib.hid hp0; clear hp0 hp1 hp2 hW2 G0 G1 BB SR k4
  generalize hm : saidN n.kind n = m at *
  have HM := Lib.hid hm; clear hm
  have j16 := note_cells LL1.out.e2 16 _ rfl
  simp only [Nat.zero_add] at j16
  have z16 := note_frozen LL1.out.e2 16
  have j17 := note_cells LL1.out.e2 17 _ rfl
  simp only [Nat.zero_add] at j17
  have z17 := note_frozen LL1.out.e2 17
  go_upto_region 5 with fail
  generalize hW : ((W2.setCell ⟨p2, 16, none⟩ (.int .i64 0)).setCell ⟨p2, 17, none⟩ (.int .i64 0)) = W3 at *
  have L3 := Lib.hid (show Loc3 w W3 p0 p1 p2 f n sa sc (noteA { m with refH := 0, refN := 0 } ta tc) from by rw [← hW]; exact ((LL1.out.set 16 (.int .i64 0)).set 17 (.int .i64 0)))
  clear hW j16 z16 j17 z17
  cases hok0 : saidB f n.kind n
  · go_upto_region 11 with fail
    have j0 := note_cells L3.out.e2 0 _ rfl
    simp only [Nat.zero_add] at j0
    have z0 := note_frozen L3.out.e2 0
    have j1 := note_cells L3.out.e2 1 _ rfl
    simp only [Nat.zero_add] at j1
    have z1 := note_frozen L3.out.e2 1
    have j2 := note_cells L3.out.e2 2 _ rfl
    simp only [Nat.zero_add] at j2
    have z2 := note_frozen L3.out.e2 2
    have j3 := note_cells L3.out.e2 3 _ rfl
    simp only [Nat.zero_add] at j3
    have z3 := note_frozen L3.out.e2 3
    have j4 := note_cells L3.out.e2 4 _ rfl
    simp only [Nat.zero_add] at j4
    have z4 := note_frozen L3.out.e2 4
    obtain ⟨N9, HN9⟩ : ∃ N9 : NoteV, Hid (N9 = { { m with refH := 0, refN := 0 } with house := 0, num := 0, clock := 0, day := 0, kind := 0 }) := ⟨_, Lib.hid rfl⟩
    go_upto_region 12 with fail
    generalize hW : (((((W3.setCell ⟨p2, 0, none⟩ (.int .i64 0)).setCell ⟨p2, 1, none⟩ (.int .i64 0)).setCell ⟨p2, 2, none⟩ (.int .i64 0)).setCell ⟨p2, 3, none⟩ (.int .i64 0)).setCell ⟨p2, 4, none⟩ (.int .i64 0)) = Wf8 at *
    have Lf9 := Lib.hid (show Loc3 w Wf8 p0 p1 p2 f n sa sc (noteA N9 ta tc) from by rw [HN9.out, ← hW]; exact (((((L3.out.set 0 (.int .i64 0)).set 1 (.int .i64 0)).set 2 (.int .i64 0)).set 3 (.int .i64 0)).set 4 (.int .i64 0)))
    have RDf10 := Lib.hid (show RdI Wf8 ta N9.strokes.length tc N9.strokes from by rw [HN9.out]; exact RDb.out _ Lf9.out.b)
    clear hW
    clear j0 z0 j1 z1 j2 z2 j3 z3 j4 z4
    have hR : formedB f n = false := by simp only [formedB, okB, if_pos HK.out]; simp [hok0]
    have HRX := Lib.hid hR; clear hR
    go_wp2_with fail
    go_ret
    rw [HRX.out]
    exact ⟨rfl, by rw [HP0.out]; exact Lf9.out.b⟩
  · have HO0 := Lib.hid hok0
    have k16 := note_cells L3.out.e1 16 _ rfl
    simp only [Nat.zero_add] at k16
    have k17 := note_cells L3.out.e1 17 _ rfl
    simp only [Nat.zero_add] at k17
    go_wp2_with fail
    refine (rightName_any n.refH n.refN _).mono ?_
    rintro e W4 ⟨rfl, b2⟩
    have L4 := Lib.hid (L3.out.below b2)
    clear b2 k16 k17
    go_upto_region 11 with fail
    have j0 := note_cells L4.out.e2 0 _ rfl
    simp only [Nat.zero_add] at j0
    have z0 := note_frozen L4.out.e2 0
    have j1 := note_cells L4.out.e2 1 _ rfl
    simp only [Nat.zero_add] at j1
    have z1 := note_frozen L4.out.e2 1
    have j2 := note_cells L4.out.e2 2 _ rfl
    simp only [Nat.zero_add] at j2
    have z2 := note_frozen L4.out.e2 2
    have j3 := note_cells L4.out.e2 3 _ rfl
    simp only [Nat.zero_add] at j3
    have z3 := note_frozen L4.out.e2 3
    have j4 := note_cells L4.out.e2 4 _ rfl
    simp only [Nat.zero_add] at j4
    have z4 := note_frozen L4.out.e2 4
    obtain ⟨N9, HN9⟩ : ∃ N9 : NoteV, Hid (N9 = { { m with refH := 0, refN := 0 } with house := 0, num := 0, clock := 0, day := 0, kind := 0 }) := ⟨_, Lib.hid rfl⟩
    go_upto_region 12 with fail
    generalize hW : (((((W4.setCell ⟨p2, 0, none⟩ (.int .i64 0)).setCell ⟨p2, 1, none⟩ (.int .i64 0)).setCell ⟨p2, 2, none⟩ (.int .i64 0)).setCell ⟨p2, 3, none⟩ (.int .i64 0)).setCell ⟨p2, 4, none⟩ (.int .i64 0)) = Wf11 at *
    have Lf12 := Lib.hid (show Loc3 w Wf11 p0 p1 p2 f n sa sc (noteA N9 ta tc) from by rw [HN9.out, ← hW]; exact (((((L4.out.set 0 (.int .i64 0)).set 1 (.int .i64 0)).set 2 (.int .i64 0)).set 3 (.int .i64 0)).set 4 (.int .i64 0)))
    have RDf13 := Lib.hid (show RdI Wf11 ta N9.strokes.length tc N9.strokes from by rw [HN9.out]; exact RDb.out _ Lf12.out.b)
    clear hW
    clear j0 z0 j1 z1 j2 z2 j3 z3 j4 z4
    cases hok : rightNameB n.refH n.refN
    · have hR : formedB f n = false := by simp only [formedB, okB, if_pos HK.out]; simp [hok0, hok]
      have HRX := Lib.hid hR; clear hR
      go_wp2_with fail
      go_ret
      rw [HRX.out]
      exact ⟨rfl, by rw [HP0.out]; exact Lf12.out.b⟩
    · go_wp2_with (first
        | (refine wpList_load_row rfl 43 _ rfl p1 rfl 43 (noteA n sa sc) (0, 0) _ Lf12.out.e1 Try.underlying43 rfl (I43.out _ _ _) ?_)
        | (refine wpList_load_rowG ?hw 43 _ rfl p1 rfl 43 (noteA n sa sc) (0, 0) _ Lf12.out.e1 Try.underlying43 rfl (I43.out _ _ _) ?_; case hw => rfl))
      refine (nameOf_any n sa sc _).mono ?_
      rintro e wn14 ⟨rfl, b2⟩
      have LN16 := Lib.hid (Lf12.out.below b2)
      have RD3 := Lib.hid (RDf13.out.below b2)
      clear b2
      go_wp2_with fail
      refine (rightName_any n.house n.num _).mono ?_
      rintro e wr15 ⟨rfl, b2⟩
      have LR17 := Lib.hid (LN16.out.below b2)
      have RD4 := Lib.hid (RD3.out.below b2)
      clear b2 RD3
      cases hrn : rightNameB n.house n.num
      · have hR : formedB f n = false := by simp only [formedB, okB, if_pos HK.out]; simp [hok0, hok, hrn]
        have HRX := Lib.hid hR; clear hR
        go_wp2_with fail
        go_ret
        rw [HRX.out]
        exact ⟨rfl, by rw [HP0.out]; exact LR17.out.b⟩
      · have HRN := Lib.hid hrn
        have k2 := note_cells LR17.out.e1 2 _ rfl
        simp only [Nat.zero_add] at k2
        have k3 := note_cells LR17.out.e1 3 _ rfl
        simp only [Nat.zero_add] at k3
        go_wp2_with fail
        refine (hin_any n.clock 1 1099511627776 _).mono ?_
        rintro e w' ⟨rfl, rfl⟩
        cases hcl : inB n.clock 1 1099511627776
        · have hR : formedB f n = false := by simp only [formedB, okB, if_pos HK.out]; simp [hok0, hok, hrn, hcl]
          have HRX := Lib.hid hR; clear hR
          go_wp2_with fail
          go_ret
          rw [HRX.out]
          exact ⟨rfl, by rw [HP0.out]; exact LR17.out.b⟩
        · have HCL := Lib.hid hcl
          go_wp2_with fail
          refine (hin_any n.day 0 99999 _).mono ?_
          rintro e w' ⟨rfl, rfl⟩
          cases hda : inB n.day 0 99999
          · have hR : formedB f n = false := by simp only [formedB, okB, if_pos HK.out]; simp [hok0, hok, hrn, hcl, hda]
            have HRX := Lib.hid hR; clear hR
            go_wp2_with fail
            go_ret
            rw [HRX.out]
            exact ⟨rfl, by rw [HP0.out]; exact LR17.out.b⟩
          · have HDA := Lib.hid hda
            go_wp2_with (first
              | (refine wpList_load_row rfl 43 _ rfl p2 rfl 43 (noteA N9 ta tc) (0, 0) _ LR17.out.e2 Try.underlying43 rfl (I43.out _ _ _) ?_)
              | (refine wpList_load_rowG ?hw 43 _ rfl p2 rfl 43 (noteA N9 ta tc) (0, 0) _ LR17.out.e2 Try.underlying43 rfl (I43.out _ _ _) ?_; case hw => rfl))
            refine (same_any N9 zeroN ta tc none 0 _ RD4.out (RdA.nil _ 1)).mono ?_
            rintro e ws ⟨rfl, b2⟩
            have hR : formedB f n = sameB (bareN n) zeroN := by simp only [formedB, okB, if_pos HK.out]; simp [hok0, hok, hrn, hcl, hda]
            have hN : bareN n = N9 := by rw [HN9.out]; unfold bareN leftN; rw [if_pos HK.out, HM.out]
            have HRX := Lib.hid hR; clear hR
            have HNX := Lib.hid hN; clear hN
            go_wp2_with fail
            go_ret
            rw [HRX.out, HNX.out]
            exact ⟨rfl, by rw [HP0.out]; exact (LR17.out.below b2).b⟩
set_option maxHeartbeats 20000000 in
set_option maxRecDepth 100000 in
theorem formed_5 (hv : f.valid = true) (hs : RdI w sa n.strokes.length sc n.strokes) (k2 : n.kind = 5) :
    Calls Try.prog 79 #[f.val, .agg (noteA n sa sc)] w fun e w' => e = .returned (.bool (formedB f n)) ∧ Below w.heap.size w w' := by
  have HK := Lib.hid k2; clear k2
  have I43 := Lib.hid (show ∀ (m : NoteV) (a : Option Addr) (c : Nat), (Try.prog.info? 43).map (·.size) = some (noteA m a c).size from fun m a c => by kernel_rfl)
  have g1 := heap_at (w.alloc (.cells #[.int .i64 f.rings, .int .i64 f.sectors, .int .i64 f.wide] 138)) (.cells (noteA n sa sc) 43) (w.heap.size + 1) (by simp)
  have g0 := heap_before (w.alloc (.cells #[.int .i64 f.rings, .int .i64 f.sectors, .int .i64 f.wide] 138)) (.cells (noteA n sa sc) 43) _ _ (heap_at w (.cells #[.int .i64 f.rings, .int .i64 f.sectors, .int .i64 f.wide] 138) _ rfl)
  have bb : Below w.heap.size w ((w.alloc (.cells #[.int .i64 f.rings, .int .i64 f.sectors, .int .i64 f.wide] 138)).alloc (.cells (noteA n sa sc) 43)) := ((Below.refl _ _).alloc (Nat.le_refl _) _).alloc (by simp) _
  have G1 := Lib.hid g1; clear g1
  have G0 := Lib.hid g0; clear g0
  have BB := Lib.hid bb; clear bb
  go_enter Try.func79, Try.ntmps79
  unfold FrV.val
  go_wp2_with (refine wpList_load_row rfl 43 _ rfl (w.heap.size + 1) rfl 43 (noteA n sa sc) (0, 0) _ G1.out Try.underlying43 rfl (I43.out _ _ _) ?_)
  refine (said_any f n sa sc _ hv (hs.below BB.out) n.kind).mono ?_
  rintro e w1 ⟨ta, tc, rfl, hrd, b1⟩
  have SR := Lib.hid hrd; clear hrd
  have l1 := (Array.getElem?_eq_some_iff.1 G1.out).1
  have z1 := b1.size
  have L1 : Loc3 w (w1.alloc (.cells (noteA (saidN n.kind n) ta tc) 43)) w.heap.size (w.heap.size + 1) w1.heap.size f n sa sc (noteA (saidN n.kind n) ta tc) :=
    ⟨heap_before _ _ _ _ ((b1.block _ (by omega)).trans G0.out), heap_before _ _ _ _ ((b1.block _ (by omega)).trans G1.out), heap_last _ _, (BB.out.trans (b1.mono BB.out.size)).alloc (by omega) _, by omega⟩
  have LL1 := Lib.hid L1; clear L1 l1 z1 b1
  have one1 := noteA_one (saidN n.kind n) ta tc
  have k4 : (w1.alloc (.cells (noteA (saidN n.kind n) ta tc) 43)).cell? ⟨w.heap.size + 1, 4, none⟩ = some (.int .i64 5) := by
    have h := note_cells LL1.out.e1 4 _ rfl
    simp only [Nat.zero_add] at h
    rw [h]
    exact congrArg (fun z => some (Value.int .i64 z)) HK.out
  go_upto_region 7 with (refine wpList_store_newp w1 rfl 43 _ _ rfl w1.heap.size rfl _ (noteA (saidN n.kind n) ta tc) rfl rfl (I43.out _ _ _) rfl one1 ?_)
  generalize hW2 : w1.alloc (.cells (noteA (saidN n.kind n) ta tc) 43) = W2 at *
  generalize hp0 : w.heap.size = p0 at *
  generalize hp1 : p0 + 1 = p1 at *
  generalize hp2 : w1.heap.size = p2 at *
  have RDb := Lib.hid (show ∀ W', Below p0 w W' → RdI W' ta (saidN n.kind n).strokes.length tc (saidN n.kind n).strokes from fun W' h => said_rd SR.out (hs.below (by rw [hp0]; exact h)))
  have HP0 := Lib.hid hp0; clear hp0 hp1 hp2 hW2 G0 G1 BB SR k4
  generalize hm : saidN n.kind n = m at *
  have HM := Lib.hid hm; clear hm
  have k18 := note_cells LL1.out.e1 18 _ rfl
  simp only [Nat.zero_add] at k18
  have c0 : W2.cell? ⟨p0, 0, none⟩ = some (.int .i64 f.rings) := by simp [World.cell?, LL1.out.e0]
  have c1 : W2.cell? ⟨p0, 1, none⟩ = some (.int .i64 f.sectors) := by simp [World.cell?, LL1.out.e0]
  have c2 : W2.cell? ⟨p0, 2, none⟩ = some (.int .i64 f.wide) := by simp [World.cell?, LL1.out.e0]
  go_wp2_with (refine wpList_load_row rfl 43 _ rfl p2 rfl 43 (noteA m ta tc) (0, 0) _ LL1.out.e2 Try.underlying43 rfl (I43.out _ _ _) ?_)
  refine (said_any f m ta tc _ hv (RDb.out _ LL1.out.b) n.fix).mono ?_
  rintro e w3 ⟨ua, uc, rfl, hrd, b3⟩
  have RDc := Lib.hid (show ∀ W', Below p0 w W' → RdI W' ua (saidN n.fix m).strokes.length uc (saidN n.fix m).strokes from fun W' h => said_rd hrd (RDb.out W' h))
  clear hrd k18 c0 c1 c2
  generalize hm2 : saidN n.fix m = m2 at *
  have HM2 := Lib.hid hm2; clear hm2
  have L3 := Lib.hid (LL1.out.below b3)
  clear b3
  have one2 := noteA_one m2 ua uc
  have g2 := heap_before w3 (.cells (noteA m2 ua uc) 43) _ _ L3.out.e2
  have G2 := Lib.hid g2; clear g2
  go_upto_region 9 with (first
    | (refine wpList_store_newp w3 rfl 43 _ _ rfl w3.heap.size rfl _ (noteA m2 ua uc) rfl rfl (I43.out _ _ _) rfl one2 ?_)
    | (refine wpList_load_row rfl 43 _ rfl w3.heap.size rfl 43 (noteA m2 ua uc) (0, 0) _ (heap_last _ _) Try.underlying43 rfl (I43.out _ _ _) ?_)
    | (refine wpList_store_rowN rfl 43 _ _ rfl p2 (noteA m ta tc) (noteA m2 ua uc) 43 rfl rfl G2.out (I43.out _ _ _) rfl one2 ?_))
  have L4 := Lib.hid ((L3.out.alloc (.cells (noteA m2 ua uc) 43)).setRow (noteA m2 ua uc))
  generalize (w3.alloc (.cells (noteA m2 ua uc) 43)).setRow p2 (noteA m2 ua uc) = W4 at *
  clear G2
  cases hok0 : saidB f n.kind n
  · go_upto_region 10 with fail
    have j18 := note_cells L4.out.e2 18 _ rfl
    simp only [Nat.zero_add] at j18
    have z18 := note_frozen L4.out.e2 18
    go_upto_region 11 with fail
    generalize hW : (W4.setCell ⟨p2, 18, none⟩ (.int .i64 0)) = W5 at *
    have L5 := Lib.hid (show Loc3 w W5 p0 p1 p2 f n sa sc (noteA { m2 with fix := 0 } ua uc) from by rw [← hW]; exact (L4.out.set 18 (.int .i64 0)))
    clear hW j18 z18
    have j0 := note_cells L5.out.e2 0 _ rfl
    simp only [Nat.zero_add] at j0
    have z0 := note_frozen L5.out.e2 0
    have j1 := note_cells L5.out.e2 1 _ rfl
    simp only [Nat.zero_add] at j1
    have z1 := note_frozen L5.out.e2 1
    have j2 := note_cells L5.out.e2 2 _ rfl
    simp only [Nat.zero_add] at j2
    have z2 := note_frozen L5.out.e2 2
    have j3 := note_cells L5.out.e2 3 _ rfl
    simp only [Nat.zero_add] at j3
    have z3 := note_frozen L5.out.e2 3
    have j4 := note_cells L5.out.e2 4 _ rfl
    simp only [Nat.zero_add] at j4
    have z4 := note_frozen L5.out.e2 4
    obtain ⟨N9, HN9⟩ : ∃ N9 : NoteV, Hid (N9 = { { m2 with fix := 0 } with house := 0, num := 0, clock := 0, day := 0, kind := 0 }) := ⟨_, Lib.hid rfl⟩
    go_upto_region 12 with fail
    generalize hW : (((((W5.setCell ⟨p2, 0, none⟩ (.int .i64 0)).setCell ⟨p2, 1, none⟩ (.int .i64 0)).setCell ⟨p2, 2, none⟩ (.int .i64 0)).setCell ⟨p2, 3, none⟩ (.int .i64 0)).setCell ⟨p2, 4, none⟩ (.int .i64 0)) = Wf18 at *
    have Lf19 := Lib.hid (show Loc3 w Wf18 p0 p1 p2 f n sa sc (noteA N9 ua uc) from by rw [HN9.out, ← hW]; exact (((((L5.out.set 0 (.int .i64 0)).set 1 (.int .i64 0)).set 2 (.int .i64 0)).set 3 (.int .i64 0)).set 4 (.int .i64 0)))
    have RDf20 := Lib.hid (show RdI Wf18 ua N9.strokes.length uc N9.strokes from by rw [HN9.out]; exact RDc.out _ Lf19.out.b)
    clear hW
    clear j0 z0 j1 z1 j2 z2 j3 z3 j4 z4
    have hR : formedB f n = false := by simp only [formedB, okB, if_neg (show ¬ n.kind = 2 by rw [HK.out]; decide), if_pos HK.out]; simp [hok0]
    have HRX := Lib.hid hR; clear hR
    go_wp2_with fail
    go_ret
    rw [HRX.out]
    exact ⟨rfl, by rw [HP0.out]; exact Lf19.out.b⟩
  · have HO0 := Lib.hid hok0
    cases hfi : saidB f n.fix m
    · go_upto_region 10 with fail
      have j18 := note_cells L4.out.e2 18 _ rfl
      simp only [Nat.zero_add] at j18
      have z18 := note_frozen L4.out.e2 18
      go_upto_region 11 with fail
      generalize hW : (W4.setCell ⟨p2, 18, none⟩ (.int .i64 0)) = W5 at *
      have L5 := Lib.hid (show Loc3 w W5 p0 p1 p2 f n sa sc (noteA { m2 with fix := 0 } ua uc) from by rw [← hW]; exact (L4.out.set 18 (.int .i64 0)))
      clear hW j18 z18
      have j0 := note_cells L5.out.e2 0 _ rfl
      simp only [Nat.zero_add] at j0
      have z0 := note_frozen L5.out.e2 0
      have j1 := note_cells L5.out.e2 1 _ rfl
      simp only [Nat.zero_add] at j1
      have z1 := note_frozen L5.out.e2 1
      have j2 := note_cells L5.out.e2 2 _ rfl
      simp only [Nat.zero_add] at j2
      have z2 := note_frozen L5.out.e2 2
      have j3 := note_cells L5.out.e2 3 _ rfl
      simp only [Nat.zero_add] at j3
      have z3 := note_frozen L5.out.e2 3
      have j4 := note_cells L5.out.e2 4 _ rfl
      simp only [Nat.zero_add] at j4
      have z4 := note_frozen L5.out.e2 4
      obtain ⟨N9, HN9⟩ : ∃ N9 : NoteV, Hid (N9 = { { m2 with fix := 0 } with house := 0, num := 0, clock := 0, day := 0, kind := 0 }) := ⟨_, Lib.hid rfl⟩
      go_upto_region 12 with fail
      generalize hW : (((((W5.setCell ⟨p2, 0, none⟩ (.int .i64 0)).setCell ⟨p2, 1, none⟩ (.int .i64 0)).setCell ⟨p2, 2, none⟩ (.int .i64 0)).setCell ⟨p2, 3, none⟩ (.int .i64 0)).setCell ⟨p2, 4, none⟩ (.int .i64 0)) = Wf21 at *
      have Lf22 := Lib.hid (show Loc3 w Wf21 p0 p1 p2 f n sa sc (noteA N9 ua uc) from by rw [HN9.out, ← hW]; exact (((((L5.out.set 0 (.int .i64 0)).set 1 (.int .i64 0)).set 2 (.int .i64 0)).set 3 (.int .i64 0)).set 4 (.int .i64 0)))
      have RDf23 := Lib.hid (show RdI Wf21 ua N9.strokes.length uc N9.strokes from by rw [HN9.out]; exact RDc.out _ Lf22.out.b)
      clear hW
      clear j0 z0 j1 z1 j2 z2 j3 z3 j4 z4
      have hR : formedB f n = false := by simp only [formedB, okB, if_neg (show ¬ n.kind = 2 by rw [HK.out]; decide), if_pos HK.out]; simp [hok0, HM.out, hfi]
      have HRX := Lib.hid hR; clear hR
      go_wp2_with fail
      go_ret
      rw [HRX.out]
      exact ⟨rfl, by rw [HP0.out]; exact Lf22.out.b⟩
    · have HFI := Lib.hid hfi
      have k18 := note_cells L4.out.e1 18 _ rfl
      simp only [Nat.zero_add] at k18
      go_wp2_with fail
      refine (hin_any n.fix 1 4 _).mono ?_
      rintro e W6 ⟨rfl, rfl⟩
      clear k18
      go_upto_region 10 with fail
      have j18 := note_cells L4.out.e2 18 _ rfl
      simp only [Nat.zero_add] at j18
      have z18 := note_frozen L4.out.e2 18
      go_upto_region 11 with fail
      generalize hW : (W4.setCell ⟨p2, 18, none⟩ (.int .i64 0)) = W5 at *
      have L5 := Lib.hid (show Loc3 w W5 p0 p1 p2 f n sa sc (noteA { m2 with fix := 0 } ua uc) from by rw [← hW]; exact (L4.out.set 18 (.int .i64 0)))
      clear hW j18 z18
      have j0 := note_cells L5.out.e2 0 _ rfl
      simp only [Nat.zero_add] at j0
      have z0 := note_frozen L5.out.e2 0
      have j1 := note_cells L5.out.e2 1 _ rfl
      simp only [Nat.zero_add] at j1
      have z1 := note_frozen L5.out.e2 1
      have j2 := note_cells L5.out.e2 2 _ rfl
      simp only [Nat.zero_add] at j2
      have z2 := note_frozen L5.out.e2 2
      have j3 := note_cells L5.out.e2 3 _ rfl
      simp only [Nat.zero_add] at j3
      have z3 := note_frozen L5.out.e2 3
      have j4 := note_cells L5.out.e2 4 _ rfl
      simp only [Nat.zero_add] at j4
      have z4 := note_frozen L5.out.e2 4
      obtain ⟨N9, HN9⟩ : ∃ N9 : NoteV, Hid (N9 = { { m2 with fix := 0 } with house := 0, num := 0, clock := 0, day := 0, kind := 0 }) := ⟨_, Lib.hid rfl⟩
      go_upto_region 12 with fail
      generalize hW : (((((W5.setCell ⟨p2, 0, none⟩ (.int .i64 0)).setCell ⟨p2, 1, none⟩ (.int .i64 0)).setCell ⟨p2, 2, none⟩ (.int .i64 0)).setCell ⟨p2, 3, none⟩ (.int .i64 0)).setCell ⟨p2, 4, none⟩ (.int .i64 0)) = Wf24 at *
      have Lf25 := Lib.hid (show Loc3 w Wf24 p0 p1 p2 f n sa sc (noteA N9 ua uc) from by rw [HN9.out, ← hW]; exact (((((L5.out.set 0 (.int .i64 0)).set 1 (.int .i64 0)).set 2 (.int .i64 0)).set 3 (.int .i64 0)).set 4 (.int .i64 0)))
      have RDf26 := Lib.hid (show RdI Wf24 ua N9.strokes.length uc N9.strokes from by rw [HN9.out]; exact RDc.out _ Lf25.out.b)
      clear hW
      clear j0 z0 j1 z1 j2 z2 j3 z3 j4 z4
      cases hok : inB n.fix 1 4
      · have hR : formedB f n = false := by simp only [formedB, okB, if_neg (show ¬ n.kind = 2 by rw [HK.out]; decide), if_pos HK.out]; simp [hok0, HM.out, hfi, hok]
        have HRX := Lib.hid hR; clear hR
        go_wp2_with fail
        go_ret
        rw [HRX.out]
        exact ⟨rfl, by rw [HP0.out]; exact Lf25.out.b⟩
      · go_wp2_with (first
          | (refine wpList_load_row rfl 43 _ rfl p1 rfl 43 (noteA n sa sc) (0, 0) _ Lf25.out.e1 Try.underlying43 rfl (I43.out _ _ _) ?_)
          | (refine wpList_load_rowG ?hw 43 _ rfl p1 rfl 43 (noteA n sa sc) (0, 0) _ Lf25.out.e1 Try.underlying43 rfl (I43.out _ _ _) ?_; case hw => rfl))
        refine (nameOf_any n sa sc _).mono ?_
        rintro e wn27 ⟨rfl, b2⟩
        have LN29 := Lib.hid (Lf25.out.below b2)
        have RD3 := Lib.hid (RDf26.out.below b2)
        clear b2
        go_wp2_with fail
        refine (rightName_any n.house n.num _).mono ?_
        rintro e wr28 ⟨rfl, b2⟩
        have LR30 := Lib.hid (LN29.out.below b2)
        have RD4 := Lib.hid (RD3.out.below b2)
        clear b2 RD3
        cases hrn : rightNameB n.house n.num
        · have hR : formedB f n = false := by simp only [formedB, okB, if_neg (show ¬ n.kind = 2 by rw [HK.out]; decide), if_pos HK.out]; simp [hok0, HM.out, hfi, hok, hrn]
          have HRX := Lib.hid hR; clear hR
          go_wp2_with fail
          go_ret
          rw [HRX.out]
          exact ⟨rfl, by rw [HP0.out]; exact LR30.out.b⟩
        · have HRN := Lib.hid hrn
          have k2 := note_cells LR30.out.e1 2 _ rfl
          simp only [Nat.zero_add] at k2
          have k3 := note_cells LR30.out.e1 3 _ rfl
          simp only [Nat.zero_add] at k3
          go_wp2_with fail
          refine (hin_any n.clock 1 1099511627776 _).mono ?_
          rintro e w' ⟨rfl, rfl⟩
          cases hcl : inB n.clock 1 1099511627776
          · have hR : formedB f n = false := by simp only [formedB, okB, if_neg (show ¬ n.kind = 2 by rw [HK.out]; decide), if_pos HK.out]; simp [hok0, HM.out, hfi, hok, hrn, hcl]
            have HRX := Lib.hid hR; clear hR
            go_wp2_with fail
            go_ret
            rw [HRX.out]
            exact ⟨rfl, by rw [HP0.out]; exact LR30.out.b⟩
          · have HCL := Lib.hid hcl
            go_wp2_with fail
            refine (hin_any n.day 0 99999 _).mono ?_
            rintro e w' ⟨rfl, rfl⟩
            cases hda : inB n.day 0 99999
            · have hR : formedB f n = false := by simp only [formedB, okB, if_neg (show ¬ n.kind = 2 by rw [HK.out]; decide), if_pos HK.out]; simp [hok0, HM.out, hfi, hok, hrn, hcl, hda]
              have HRX := Lib.hid hR; clear hR
              go_wp2_with fail
              go_ret
              rw [HRX.out]
              exact ⟨rfl, by rw [HP0.out]; exact LR30.out.b⟩
            · have HDA := Lib.hid hda
              go_wp2_with (first
                | (refine wpList_load_row rfl 43 _ rfl p2 rfl 43 (noteA N9 ua uc) (0, 0) _ LR30.out.e2 Try.underlying43 rfl (I43.out _ _ _) ?_)
                | (refine wpList_load_rowG ?hw 43 _ rfl p2 rfl 43 (noteA N9 ua uc) (0, 0) _ LR30.out.e2 Try.underlying43 rfl (I43.out _ _ _) ?_; case hw => rfl))
              refine (same_any N9 zeroN ua uc none 0 _ RD4.out (RdA.nil _ 1)).mono ?_
              rintro e ws ⟨rfl, b2⟩
              have hR : formedB f n = sameB (bareN n) zeroN := by simp only [formedB, okB, if_neg (show ¬ n.kind = 2 by rw [HK.out]; decide), if_pos HK.out]; simp [hok0, HM.out, hfi, hok, hrn, hcl, hda]
              have hN : bareN n = N9 := by rw [HN9.out]; unfold bareN leftN; rw [if_neg (show ¬ n.kind = 2 by rw [HK.out]; decide), if_pos HK.out, HM.out, HM2.out]
              have HRX := Lib.hid hR; clear hR
              have HNX := Lib.hid hN; clear hN
              go_wp2_with fail
              go_ret
              rw [HRX.out, HNX.out]
              exact ⟨rfl, by rw [HP0.out]; exact (LR30.out.below b2).b⟩
end
theorem formed_any (f : FrV) (n : NoteV) (sa : Option Addr) (sc : Nat) (w : World) (hv : f.valid = true) (hs : RdI w sa n.strokes.length sc n.strokes) :
    Calls Try.prog 79 #[f.val, .agg (noteA n sa sc)] w fun e w' => e = .returned (.bool (formedB f n)) ∧ Below w.heap.size w w' := by
  by_cases k2 : n.kind = 2
  · exact formed_2 f n sa sc w hv hs k2
  · by_cases k5 : n.kind = 5
    · exact formed_5 f n sa sc w hv hs k5
    · exact formed_o f n sa sc w hv hs k2 k5
end Go.Proofs.Ytpjiakgfegnmcaa
namespace Go.Proofs.Ytpjiakgfegnmcaa
open Go.RowKit

theorem cell_of {W : World} {p : Nat} {A : Array Value} {t : TypeId} {sp : Nat × Nat} (h : W.heap[p]? = some (.cells A t sp)) (j : Nat) (v : Value) (hv : A[j]? = some v) : W.cell? ⟨p, j, none⟩ = some v := by
  simp [World.cell?, h, hv]
section
variable (n : NoteV) (sa : Option Addr) (sc : Nat) (w : World)
end
end Go.Proofs.Ytpjiakgfegnmcaa
namespace Go.Proofs.Ytpjiakgfegnmcaa
open Go.RowKit

end Go.Proofs.Ytpjiakgfegnmcaa
namespace Go.Proofs.Ytpjiakgfegnmcaa
open Go.RowKit

theorem rd_lt {w : World} {k : Nat} {a : Option Addr} {n c : Nat} {xs : List Value} (hr : RdA w k a n c xs) (h0 : 0 < n) (hk : 0 < k) : ∀ b off, a = some ⟨b, off, none⟩ → b < w.heap.size := by
  intro b off e
  obtain ⟨b', off', e', hc⟩ := hr.at h0
  rw [e] at e'
  cases e'
  have hl : 0 < xs.length := by rw [hr.len]; exact Nat.mul_pos h0 hk
  exact World.block_lt_of_cell? w _ (hc 0 _ (List.getElem?_eq_getElem hl))
end Go.Proofs.Ytpjiakgfegnmcaa
namespace Go.Proofs.Ytpjiakgfegnmcaa
open Go.RowKit

def sOf (ls : List (List UInt8)) : Nat := (ls.map fun b => b.length + 2).sum

/-- A slice of byte slices of the call's own, each of whose elements is a row of its own. -/
def OwnBB (w : World) (base : Nat) (a : Option Addr) (n c : Nat) (ls : List (List UInt8)) : Prop :=
  ∃ vs : List Value, w.ownsRow base 22 1 (.slice a n c) n vs ∧ ls.length = n ∧ ∀ i, i < n → ∃ ai ci, vs[i]? = some (.slice ai (ls[i]?.getD []).length ci) ∧ w.ownsRow 0 5 1 (.slice ai (ls[i]?.getD []).length ci) (ls[i]?.getD []).length ((ls[i]?.getD []).map byteV)

theorem OwnBB.nil (w : World) (base : Nat) : OwnBB w base none 0 0 [] := ⟨[], World.ownsRow_nil _ _ _ _, rfl, fun i hi => by omega⟩
theorem OwnBB.below {w w' : World} {base : Nat} {a : Option Addr} {n c : Nat} {ls : List (List UInt8)} (h : OwnBB w base a n c ls) (hb : Below w.heap.size w w') : OwnBB w' base a n c ls := by
  obtain ⟨vs, h1, h2, h3⟩ := h
  refine ⟨vs, own_below h1 hb, h2, fun i hi => ?_⟩
  obtain ⟨ai, ci, h4, h5⟩ := h3 i hi
  exact ⟨ai, ci, h4, own_below h5 hb⟩
theorem OwnBB.lt {w : World} {base : Nat} {a : Option Addr} {n c : Nat} {ls : List (List UInt8)} (h : OwnBB w base a n c ls) : ∀ k, Value.ownBlock (.slice a n c) = some k → base ≤ k ∧ k < w.heap.size := by
  obtain ⟨vs, h1, _⟩ := h
  exact h1.lt

end Go.Proofs.Ytpjiakgfegnmcaa
namespace Go.Proofs.Ytpjiakgfegnmcaa
open Go.RowKit

/-- The loop's own two blocks lie as they must between two rounds: the record says state st and pending jump pe. -/
def LoopAt (rec : LoopState → Option Code → Loop) (D : Nat) (st : LoopState) (pe : Option Code) (W : World) : Prop :=
  W.heap[D + 1]? = some (.loop (rec st pe)) ∧ W.heap[D]? = some (.deferred (some []))

theorem LoopAt.kept {rec : LoopState → Option Code → Loop} {D : Nat} {st : LoopState} {pe : Option Code} {W W' : World} (h : LoopAt rec D st pe W) (hk : KeepsFrom D W W') : LoopAt rec D st pe W' :=
  ⟨hk.same _ _ (by omega) h.1 rfl, hk.same _ _ (Nat.le_refl _) h.2 rfl⟩

/-- How a round may be left: where it goes on, B; by a jump c, X c. -/
def roundEnd (D : Nat) (B : World → Prop) (X : Code → World → Prop) (W : World) : Exit → Act → World → Prop
  | .normal, _, W' => KeepsFrom D W W' ∧ B W'
  | .ret, _, W' => KeepsFrom D W W' ∧ X .ret W'
  | .exit id, _, W' => KeepsFrom D W W' ∧ X (.exit id) W'
  | .goto t, _, W' => KeepsFrom D W W' ∧ X (.goto t) W'
  | .panic _, _, _ => False
  | .outgrown, _, _ => False

end Go.Proofs.Ytpjiakgfegnmcaa
namespace Go.Proofs.Ytpjiakgfegnmcaa
open Go.RowKit
attribute [local go_sem] Oper.semAt_some

/-- Blocks that were there are as they were, but for those of S. -/
structure Same (S : Nat → Prop) (W W' : World) : Prop where
  os : W'.os = W.os
  tape : W'.tape = W.tape
  output : W'.output = W.output
  size : W.heap.size ≤ W'.heap.size
  block : ∀ k, k < W.heap.size → ¬ S k → W'.heap[k]? = W.heap[k]?

theorem Same.of_below {S : Nat → Prop} {W W' : World} (h : Below W.heap.size W W') : Same S W W' := ⟨h.os, h.tape, h.output, h.size, fun k hk _ => h.block k hk⟩
theorem Same.of_grown {S : Nat → Prop} {W W' : World} {row : Option Nat} (h : W.grownBy W' row) (hr : ∀ k, row = some k → S k) : Same S W W' :=
  ⟨h.os, h.tape, h.output, h.size, fun k hk hs => h.block k hk (fun e => hs (hr k e.symm))⟩
theorem Same.trans {S : Nat → Prop} {A B C : World} (h : Same S A B) (k : Same S B C) : Same S A C :=
  ⟨k.os.trans h.os, k.tape.trans h.tape, k.output.trans h.output, Nat.le_trans h.size k.size, fun i hi hs => (k.block i (Nat.lt_of_lt_of_le hi h.size) hs).trans (h.block i hi hs)⟩
theorem Same.below {S : Nat → Prop} {B : Nat} {A W W' : World} (h : Same S W W') (hb : Below B A W) (hB : B ≤ W.heap.size) (hs : ∀ k, S k → B ≤ k) : Below B A W' :=
  hb.trans ⟨h.os, h.tape, h.output, h.size, fun k hk => h.block k (by omega) (fun e => by have := hs k e; omega)⟩

theorem own_same {S : Nat → Prop} {W W' : World} {base : Nat} {e : TypeId} {k : Nat} {v : Value} {n : Nat} {xs : List Value} (h : W.ownsRow base e k v n xs) (hs : Same S W W')
    (hd : ∀ b cur fr, S b → W.heap[b]? ≠ some (.cells cur e fr) ∨ b < base) : W'.ownsRow base e k v n xs := by
  refine ⟨h.1, ?_⟩
  rcases h.2 with h | ⟨g, cap, cur, h, hg, hgg, hr⟩
  · exact .inl h
  · refine .inr ⟨g, cap, cur, h, hg, (hs.block g (Array.getElem?_eq_some_iff.1 hgg).1 (fun hsg => ?_)).trans hgg, hr⟩
    rcases hd g cur (0, 0) hsg with h' | h'
    · exact h' hgg
    · omega
theorem OwnBB.same {S : Nat → Prop} {W W' : World} {base : Nat} {a : Option Addr} {n c : Nat} {ls : List (List UInt8)} (h : OwnBB W base a n c ls) (hs : Same S W W')
    (h1 : ∀ b cur fr, S b → W.heap[b]? ≠ some (.cells cur 22 fr) ∨ b < base) (h2 : ∀ b cur fr, S b → W.heap[b]? ≠ some (.cells cur 5 fr)) : OwnBB W' base a n c ls := by
  obtain ⟨vs, k1, k2, k3⟩ := h
  refine ⟨vs, own_same k1 hs h1, k2, fun i hi => ?_⟩
  obtain ⟨ai, ci, k4, k5⟩ := k3 i hi
  exact ⟨ai, ci, k4, own_same k5 hs (fun b cur fr hb => .inl (h2 b cur fr hb))⟩

/-- A block of one cell. -/
def Box (W : World) (b : Nat) (t : TypeId) (v : Value) : Prop := W.heap[b]? = some (.cells #[v] t (0, 0))
theorem Box.cell {W : World} {b : Nat} {t : TypeId} {v : Value} (h : Box W b t v) : W.cell? ⟨b, 0, none⟩ = some v := cell_of_one h
theorem Box.free {W : World} {b : Nat} {t : TypeId} {v : Value} (h : Box W b t v) : W.frozen? ⟨b, 0, none⟩ = false := free_of_one h
theorem Box.same {S : Nat → Prop} {W W' : World} {b : Nat} {t : TypeId} {v : Value} (h : Box W b t v) (hs : Same S W W') (hn : ¬ S b) : Box W' b t v :=
  (hs.block b (Array.getElem?_eq_some_iff.1 h).1 hn).trans h

theorem Box.new (W : World) (t : TypeId) (v : Value) {b : Nat} (hb : b = W.heap.size) : Box (W.alloc (.cells #[v] t)) b t v := by subst hb; exact heap_alloc_new W _
theorem Box.alloc {W : World} {b : Nat} {t : TypeId} {v : Value} (h : Box W b t v) (o : Obj) : Box (W.alloc o) b t v := h.same (Same.of_below (S := fun _ => False) ((Below.refl _ _).alloc (Nat.le_refl _) o)) id
theorem Box.set {W : World} {b : Nat} {t : TypeId} {v : Value} (h : Box W b t v) (u : Value) : Box (W.setCell ⟨b, 0, none⟩ u) b t u := one_setCell h
theorem Same.setCell {S : Nat → Prop} {W : World} {b : Nat} (u : Value) (h : S b) : Same S W (W.setCell ⟨b, 0, none⟩ u) := Same.of_grown (grownBy_setCell' W b u) (fun k e => by cases e; exact h)

/-- What Join knows between two rounds: its three variables; what was told so far. -/
def Told (w : World) (W : World) (d : List (List UInt8)) : Prop :=
  ∃ oa oc, Box W w.heap.size 27 (.slice oa d.length oc) ∧ OwnBB W (w.heap.size + 5) oa d.length oc d ∧ Box W (w.heap.size + 1) 3 (.int .i64 (sOf d)) ∧ Box W (w.heap.size + 2) 3 (.int .i64 (4 * (d.length : Int))) ∧ Below w.heap.size w W ∧ w.heap.size + 5 ≤ W.heap.size
/-- What the iterator knows: what is left of both journals. -/
def Left (w : World) (W : World) (l1 l2 : List UInt8) : Prop :=
  ∃ sa sc fa fc, Box W (w.heap.size + 3) 22 (.slice sa l1.length sc) ∧ RdB w sa l1.length sc l1 ∧ Box W (w.heap.size + 4) 22 (.slice fa l2.length fc) ∧ RdB w fa l2.length fc l2

/-- The iterator's own steps, and turns of the loop's record, leave what Join knows. -/
theorem Told.same {w W W' : World} {d : List (List UInt8)} (h : Told w W d) {S : Nat → Prop} (hs : Same S W W') (hS : ∀ k, S k → w.heap.size + 3 ≤ k)
    (hd : ∀ b cur fr, S b → (W.heap[b]? ≠ some (.cells cur 22 fr) ∨ b < w.heap.size + 5) ∧ W.heap[b]? ≠ some (.cells cur 5 fr)) : Told w W' d := by
  obtain ⟨oa, oc, h1, h2, h3, h4, h5, h6⟩ := h
  exact ⟨oa, oc, h1.same hs (fun e => by have := hS _ e; omega), h2.same hs (fun b cur fr hb => (hd b cur fr hb).1) (fun b cur fr hb => (hd b cur fr hb).2),
    h3.same hs (fun e => by have := hS _ e; omega), h4.same hs (fun e => by have := hS _ e; omega), hs.below h5 h5.size (fun k e => by have := hS k e; omega), Nat.le_trans h6 hs.size⟩
theorem Left.same {w W W' : World} {l1 l2 : List UInt8} (h : Left w W l1 l2) {S : Nat → Prop} (hs : Same S W W') (h3 : ¬ S (w.heap.size + 3)) (h4 : ¬ S (w.heap.size + 4)) : Left w W' l1 l2 := by
  obtain ⟨sa, sc, fa, fc, k1, k2, k3, k4⟩ := h
  exact ⟨sa, sc, fa, fc, k1.same hs h3, k2, k3.same hs h4, k4⟩

theorem Told.putObj {w W : World} {d : List (List UInt8)} (h : Told w W d) (o : Loop) (hl : ∃ r, W.heap[w.heap.size + 5 + 1]? = some (.loop r)) : Told w (W.putObj (w.heap.size + 5 + 1) (.loop o)) d := by
  obtain ⟨r, hl⟩ := hl
  refine h.same (S := fun k => k = w.heap.size + 5 + 1) (Same.of_grown (grownBy_putObj' W _ _) (fun k e => by cases e; rfl)) (fun k e => by omega) (fun b cur fr hb => ?_)
  subst hb
  rw [hl]
  exact ⟨.inl (by simp), by simp⟩
theorem Left.putObj {w W : World} {l1 l2 : List UInt8} (h : Left w W l1 l2) (o : Loop) : Left w (W.putObj (w.heap.size + 5 + 1) (.loop o)) l1 l2 :=
  h.same (S := fun k => k = w.heap.size + 5 + 1) (Same.of_grown (grownBy_putObj' W _ _) (fun k e => by cases e; rfl)) (by omega) (by omega)
theorem Told.below {w W W' : World} {d : List (List UInt8)} (h : Told w W d) (hb : Below W.heap.size W W') : Told w W' d :=
  h.same (S := fun _ => False) (Same.of_below hb) (fun _ e => e.elim) (fun _ _ _ e => e.elim)
theorem Left.below {w W W' : World} {l1 l2 : List UInt8} (h : Left w W l1 l2) (hb : Below W.heap.size W W') : Left w W' l1 l2 :=
  h.same (S := fun _ => False) (Same.of_below hb) id id

theorem OwnBB.cells {W : World} {base : Nat} {a : Option Addr} {n c : Nat} {ls : List (List UInt8)} (h : OwnBB W base a n c ls) : ∀ (j : Nat) (o : Obj), Value.ownBlock (.slice a n c) = some j → W.heap[j]? = some o → o.isCells = true := by
  obtain ⟨vs, h1, _⟩ := h
  intro j o hj ho
  rcases h1.2 with ⟨h2, _⟩ | ⟨g, cap, cur, h2, _, hg, _⟩
  · rw [h2] at hj; simp [Value.ownBlock] at hj
  · rw [h2] at hj
    simp only [Value.ownBlock, Option.some.injEq] at hj
    subst hj
    rw [hg] at ho
    cases ho
    rfl
theorem OwnBB.mono {W : World} {base B : Nat} {a : Option Addr} {n c : Nat} {ls : List (List UInt8)} (h : OwnBB W base a n c ls) (hB : B ≤ base) : OwnBB W B a n c ls := by
  obtain ⟨vs, h1, h2, h3⟩ := h
  exact ⟨vs, own_mono h1 hB, h2, h3⟩
theorem LoopAt.below {rec : LoopState → Option Code → Loop} {D : Nat} {st : LoopState} {pe : Option Code} {W W' : World} (h : LoopAt rec D st pe W) (hb : Below W.heap.size W W') : LoopAt rec D st pe W' :=
  ⟨(hb.block _ (Array.getElem?_eq_some_iff.1 h.1).1).trans h.1, (hb.block _ (Array.getElem?_eq_some_iff.1 h.2).1).trans h.2⟩

end Go.Proofs.Ytpjiakgfegnmcaa
namespace Go.Proofs.Ytpjiakgfegnmcaa
open Go.RowKit

theorem frozen_of {W : World} {p : Nat} {A : Array Value} {t : TypeId} (h : W.heap[p]? = some (.cells A t (0, 0))) (j : Nat) : W.frozen? ⟨p, j, none⟩ = false := by
  simp [World.frozen?, h]
theorem same_at (w : World) (p o : Nat) (v : Value) : Same (fun k => k = p) w (w.setCell ⟨p, o, none⟩ v) :=
  Same.of_grown (row := some p) ⟨rfl, rfl, rfl, by simp [World.setCell], fun k _ hk => Below.heap_setCell w ⟨p, o, none⟩ _ k (fun e => hk (by rw [e]))⟩ (fun k e => by cases e; rfl)
/-- The reader at rp holds the bytes l, in the slice a n c. -/
structure RdP (W : World) (rp : Nat) (l : List UInt8) (a : Option Addr) (n c : Nat) : Prop where
  e : W.heap[rp]? = some (.cells #[.slice a n c] 154 (0, 0))
  r : RdB W a n c l
theorem rd_not {W : World} {rp : Nat} {A : Array Value} {t : TypeId} {sp : Nat × Nat} {a : Option Addr} {n c : Nat} {l : List UInt8} (e : W.heap[rp]? = some (.cells A t sp)) (hA : ∀ v ∈ A, ∀ x, v ≠ byteV x) (hr : RdB W a n c l) (h0 : 0 < n) :
    ∀ b off, a = some ⟨b, off, none⟩ → b ≠ rp := by
  intro b off ha hb
  subst hb
  obtain ⟨b', off', e', hc⟩ := RdA.at hr h0
  rw [ha] at e'
  cases e'
  have hl := hr.1
  have h1 : (l.map byteV)[0]? = some ((l.map byteV)[0]'(by rw [hl]; omega)) := List.getElem?_eq_getElem _
  have h2 := hc 0 _ h1
  simp only [World.cell?, e] at h2
  have h3 := Array.mem_of_getElem? h2
  rw [List.getElem_map] at h3
  exact hA _ h3 _ rfl
theorem rd_same {W W' : World} {a : Option Addr} {n c : Nat} {l : List UInt8} {S : Nat → Prop} (hr : RdB W a n c l) (hs : Same S W W') (hn : 0 < n → ∀ b off, a = some ⟨b, off, none⟩ → ¬ S b) : RdB W' a n c l := by
  by_cases h0 : 0 < n
  · exact RdA.of_cells hr fun b ⟨off, hb⟩ hlt => hs.block b hlt (hn h0 b off hb)
  · have hz : n = 0 := by omega
    subst hz
    obtain ⟨h1, h2, h3, h4⟩ := hr
    have hl : l.map byteV = [] := List.eq_nil_of_length_eq_zero (by omega)
    refine ⟨h1, h2, h3, ?_⟩
    rcases h4 with h | ⟨b, off, h, _⟩
    · exact .inl h
    · exact .inr ⟨b, off, h, fun i x hx => by rw [hl] at hx; simp at hx⟩
theorem RdP.not {W : World} {rp : Nat} {l : List UInt8} {a : Option Addr} {n c : Nat} (h : RdP W rp l a n c) (h0 : 0 < n) : ∀ b off, a = some ⟨b, off, none⟩ → b ≠ rp :=
  rd_not h.e (by intro v hv x; simp at hv; subst hv; intro hh; cases hh) h.r h0
theorem RdP.same {W W' : World} {rp : Nat} {l : List UInt8} {a : Option Addr} {n c : Nat} {S : Nat → Prop} (h : RdP W rp l a n c) (hs : Same S W W') (h1 : ¬ S rp) (h2 : 0 < n → ∀ b off, a = some ⟨b, off, none⟩ → ¬ S b) : RdP W' rp l a n c :=
  ⟨(hs.block _ (Array.getElem?_eq_some_iff.1 h.e).1 h1).trans h.e, rd_same h.r hs h2⟩
end Go.Proofs.Ytpjiakgfegnmcaa
namespace Go.Proofs.Ytpjiakgfegnmcaa
open Go.RowKit

end Go.Proofs.Ytpjiakgfegnmcaa
namespace Go.Proofs.Ytpjiakgfegnmcaa
open Go.RowKit
theorem same_imp {W W' : World} {S S' : Nat → Prop} (h : Same S W W') (hi : ∀ k, S k → S' k) : Same S' W W' :=
  ⟨h.os, h.tape, h.output, h.size, fun k hk hs => h.block k hk (fun e => hs (hi k e))⟩
theorem noteA_noByte (m : NoteV) (sa : Option Addr) (sc : Nat) : ∀ v ∈ noteA m sa sc, ∀ x, v ≠ byteV x := by
  intro v hv x
  simp only [noteA, NoteV.cells, List.mem_toArray, List.mem_cons, List.not_mem_nil, or_false] at hv
  rcases hv with rfl | rfl | rfl | rfl | rfl | rfl | rfl | rfl | rfl | rfl | rfl | rfl | rfl | rfl | rfl | rfl | rfl | rfl | rfl <;> (intro h; cases h)
/-- While a note is read: the block of the note, the reader, and what has turned since wf. -/
structure NInv (wf W : World) (rp nb B : Nat) (m : NoteV) (sa : Option Addr) (sc : Nat) (t : List UInt8) (a : Option Addr) (n c : Nat) : Prop where
  e : W.heap[nb]? = some (.cells (noteA m sa sc) 43 (0, 0))
  r : RdP W rp t a n c
  s : Same (fun k => k = rp ∨ k = nb ∨ B ≤ k) wf W
  o : RdB wf a n c t
section
variable {wf W W' : World} {rp nb B : Nat} {m : NoteV} {sa : Option Addr} {sc : Nat} {t : List UInt8} {a : Option Addr} {n c : Nat}
theorem NInv.set (h : NInv wf W rp nb B m sa sc t a n c) (j : Nat) (v : Value) {m' : NoteV} {sa' : Option Addr} {sc' : Nat} (hv : (noteA m sa sc).setIfInBounds j v = noteA m' sa' sc') (hne : ¬ rp = nb) : NInv wf (W.setCell ⟨nb, j, none⟩ v) rp nb B m' sa' sc' t a n c :=
  ⟨by rw [← hv]; exact heap_setCell_same W nb j _ _ v h.e, h.r.same (same_at W nb j v) hne (fun h0 b off e => rd_not h.e (noteA_noByte m sa sc) h.r.r h0 b off e), h.s.trans (same_imp (same_at W nb j v) fun k e => .inr (.inl e)), h.o⟩
theorem NInv.below (h : NInv wf W rp nb B m sa sc t a n c) (hb : Below W.heap.size W W') : NInv wf W' rp nb B m sa sc t a n c :=
  ⟨(hb.block _ (Array.getElem?_eq_some_iff.1 h.e).1).trans h.e, h.r.same (S := fun _ => False) (Same.of_below hb) id (fun _ _ _ _ => id), h.s.trans (Same.of_below hb), h.o⟩
theorem NInv.grown (h : NInv wf W rp nb B m sa sc t a n c) {v : Value} {q k : Nat} {xs : List Value} {e : TypeId} (hg : W.grownBy W' v.ownBlock) (ho : W.ownsRow B e k v q xs) (hB : wf.heap.size = B) (hnb : nb < B) (hrp : rp < B) : NInv wf W' rp nb B m sa sc t a n c := by
  have hlt := fun b hb => (ho.lt b hb).1
  have hs : Same (fun k => v.ownBlock = some k) W W' := Same.of_grown hg (fun k e => e)
  have h1 : ¬ v.ownBlock = some nb := fun e => by have := hlt _ e; omega
  have h2 : ¬ v.ownBlock = some rp := fun e => by have := hlt _ e; omega
  refine ⟨(hs.block _ (Array.getElem?_eq_some_iff.1 h.e).1 h1).trans h.e, h.r.same hs h2 (fun h0 b off e hb => ?_), h.s.trans (same_imp hs fun k e => .inr (.inr (hlt k e))), h.o⟩
  have h3 := rd_lt h.o h0 (by omega) b off e
  have h4 := hlt b hb
  omega
end
theorem infoInt : (Try.prog.info? 3).map (fun i => (i.zero, i.size, i.bytes)) = some (some (.int .i64 0), 1, 8) := by kernel_rfl
section
attribute [local go_sem] noteA_0 noteA_1 noteA_2 noteA_3 noteA_4 noteA_5 noteA_6 noteA_7 noteA_8 noteA_9 noteA_10 noteA_11 noteA_12 noteA_13 noteA_14 noteA_15 noteA_16 noteA_17 noteA_18
end
end Go.Proofs.Ytpjiakgfegnmcaa
namespace Go.Proofs.Ytpjiakgfegnmcaa
open Go.RowKit

/-- The reference's reader at rp: the bytes l in the slice a n c, how far it has read, and whether something was wrong. -/
structure RdQ (W : World) (rp : Nat) (l : List UInt8) (a : Option Addr) (n c : Nat) (at_ : Nat) (bad : Bool) : Prop where
  e : W.heap[rp]? = some (.cells #[.slice a n c, .int .i64 at_, .bool bad] 112 (0, 0))
  r : RdB W a n c l
  le : at_ ≤ l.length
section
variable {W W' : World} {rp : Nat} {l : List UInt8} {a : Option Addr} {n c at_ : Nat} {bad : Bool}
theorem RdQ.not (h : RdQ W rp l a n c at_ bad) (h0 : 0 < n) : ∀ b off, a = some ⟨b, off, none⟩ → b ≠ rp :=
  rd_not h.e (by intro v hv x; simp at hv; rcases hv with rfl | rfl | rfl <;> (intro hh; cases hh)) h.r h0
theorem RdQ.same {S : Nat → Prop} (h : RdQ W rp l a n c at_ bad) (hs : Same S W W') (h1 : ¬ S rp) (h2 : 0 < n → ∀ b off, a = some ⟨b, off, none⟩ → ¬ S b) : RdQ W' rp l a n c at_ bad :=
  ⟨(hs.block _ (Array.getElem?_eq_some_iff.1 h.e).1 h1).trans h.e, rd_same h.r hs h2, h.le⟩
theorem RdQ.setAt (h : RdQ W rp l a n c at_ bad) (k : Nat) (hk : k ≤ l.length) : RdQ (W.setCell ⟨rp, 1, none⟩ (.int .i64 k)) rp l a n c k bad :=
  ⟨heap_setCell_same W rp 1 _ _ (.int .i64 k) h.e, rd_same h.r (same_at W rp 1 _) (fun h0 b off e => h.not h0 b off e), hk⟩
theorem RdQ.c0 (h : RdQ W rp l a n c at_ bad) : W.cell? ⟨rp, 0, none⟩ = some (.slice a n c) := cell_of h.e 0 _ rfl
theorem RdQ.c1 (h : RdQ W rp l a n c at_ bad) : W.cell? ⟨rp, 1, none⟩ = some (.int .i64 at_) := cell_of h.e 1 _ rfl
theorem RdQ.c2 (h : RdQ W rp l a n c at_ bad) : W.cell? ⟨rp, 2, none⟩ = some (.bool bad) := cell_of h.e 2 _ rfl
theorem RdQ.f (h : RdQ W rp l a n c at_ bad) (j : Nat) : W.frozen? ⟨rp, j, none⟩ = false := frozen_of h.e j
theorem RdQ.len (h : RdQ W rp l a n c at_ bad) : l.length = n := by have := h.r.1; simpa using this
theorem Same.refl (S : Nat → Prop) (W : World) : Same S W W := ⟨rfl, rfl, rfl, Nat.le_refl _, fun _ _ _ => rfl⟩
end
end Go.Proofs.Ytpjiakgfegnmcaa
namespace Go.Proofs.Ytpjiakgfegnmcaa
open Go.RowKit

/-- append of ints to ints of the call's own. -/
theorem app_ints (w : World) {ops : Array Oper} {rest : List Oper} {o : Oper} {a : Act} {Q : Exit → Act → World → Prop} (hgd : o.guard = none) (s x : Operand)
    (ho : o.op = .call { callee := .builtin .append, args := #[s, x], argTypes := #[33, 33] }) (base : Nat)
    (sa : Option Addr) (sn sc : Nat) (xs : List Int) (hs : a.eval s = .slice sa sn sc) (hown : w.ownsRow base 3 1 (.slice sa sn sc) sn (xs.map intV))
    (xa : Option Addr) (m xc : Nat) (ys : List Int) (hx : a.eval x = .slice xa m xc) (hrd : RdI w xa m xc ys) (hbytes : (sn + m) * 8 ≤ 140737488355328) (hbase : base ≤ w.heap.size)
    (h : ∀ a' c' w', w'.ownsRow base 3 1 (.slice a' (sn + m) c') (sn + m) ((xs ++ ys).map intV) → w.grownBy w' (Value.ownBlock (.slice sa sn sc)) → wpList Try.prog ops Q rest (a.put o.dst (.slice a' (sn + m) c')) w') :
    wpList Try.prog ops Q (o :: rest) a w := by
  obtain ⟨i, hi, hz0, hz1, hz2⟩ := info_parts infoInt
  exact wpList_append_rd w hgd s x 33 ho base 3 i (.int .i64 0) 1 8 Try.underlying33 hi hz0 hz1 hz2 rfl (by decide) sa sn sc _ hs hown xa m xc _ hx hrd (intV_one _) (by unfold maxLen; omega) hbytes hbase
    (fun a' c' w' h1 h2 => h a' c' w' (by rw [List.map_append]; exact h1) h2)
end Go.Proofs.Ytpjiakgfegnmcaa
namespace Go.Proofs.Ytpjiakgfegnmcaa
open Go.RowKit

/-- Where the slice lies behind an append: where it lay, or at the heap's end. -/
theorem run_append_loc {P : Program} (w : World) (base : Nat) (t ty e : TypeId) (i : TypeInfo) (z : Value) (size bytes : Nat) (ht : P.underlying t = some (.slice e)) (hi : P.info? e = some i) (hz : i.zero = some z)
    (hsize : i.size = size) (hby : i.bytes = bytes)
    (sa : Option Addr) (sn sc : Nat) (xs : List Value) (hown : w.ownsRow base e size (.slice sa sn sc) sn xs)
    (xa : Option Addr) (m xc : Nat) (ys : List Value) (hrd : RdA w size xa m xc ys) (h1 : ∀ u ∈ ys, u.oneCell' = true)
    (h63 : sn + m ≤ maxLen) (hbytes : (sn + m) * bytes ≤ 140737488355328) (v : Value) (w' : World) (hr : (Builtin.append_ #[t, t] ty #[.slice sa sn sc, .slice xa m xc]).run P w = .ok v w') :
    (∃ n' c', v = .slice sa n' c') ∨ ∃ n' c', v = .slice (some ⟨w.heap.size, 0, none⟩) n' c' := by
  subst hsize
  subst hby
  have hsmall : ((sn + m : Nat) : Int) ≤ 9223372036854775807 := by simp only [maxLen] at h63; omega
  have hkind : (xa = none ∧ m = 0 ∧ xc = 0) ∨ ∃ ad, xa = some ad ∧ ∀ j u, ys[j]? = some u → w.cell? (ad.add j) = some u := by
    rcases hrd.2.2.2 with rfl | ⟨b, off, rfl, h4⟩
    · have hm : m = 0 := by have := hrd.2.1; omega
      subst hm
      have hy : ys = [] := List.eq_nil_of_length_eq_zero (by simpa using hrd.1)
      cases xa with
      | none => exact .inl ⟨rfl, rfl, rfl⟩
      | some ad => exact .inr ⟨ad, rfl, fun j u hu => by rw [hy] at hu; simp at hu⟩
    · exact .inr ⟨_, rfl, fun j u hu => by rw [Addr.add_lit]; exact h4 j u hu⟩
  rcases hkind with ⟨rfl, rfl, rfl⟩ | ⟨ad, rfl, hnews⟩
  · rw [run_append_owned_none (P := P) (w := w) base t ty e i i.size ht hi _ sn xs hown] at hr
    cases hr
    exact .inl ⟨_, _, rfl⟩
  · rcases hown.2 with ⟨h2, rfl⟩ | ⟨g, cap, cur, h2, hbg, hg, hnc, hcm, hcs, htake⟩
    · simp only [Value.slice.injEq] at h2
      obtain ⟨rfl, _, rfl⟩ := h2
      by_cases hm : m = 0
      · subst hm
        have hy : ys = [] := List.eq_nil_of_length_eq_zero (by simpa using hrd.1)
        have hr' : (Builtin.append_ #[t, t] ty #[.slice none 0 0, .slice (some ad) 0 xc]).run P w = .ok (.slice none 0 0) w := by
          simp [Builtin.append_, run_underlying ht, sizeOf, typeInfo, hi, Builtin.lenOf, Builtin.firstCells, loadCells, loadCellsFrom]
        rw [hr'] at hr
        cases hr
        exact .inl ⟨_, _, rfl⟩
      · rw [run_append_nil (P := P) w t ty e i z ht hi hz ad m xc ys hrd.1 hnews (by omega) (by omega) (by have hb := hbytes; simp only [Nat.zero_add] at hb; omega)] at hr
        cases hr
        exact .inr ⟨_, _, rfl⟩
    · simp only [Value.slice.injEq] at h2
      obtain ⟨rfl, _, rfl⟩ := h2
      by_cases hroom : sn + m ≤ sc
      · have hfit : sn * i.size + ys.length ≤ cur.size := by rw [hrd.1, hcs, ← Nat.add_mul]; exact Nat.mul_le_mul_right _ hroom
        rw [run_append_room (P := P) w t ty e i ht hi g sn sc cur hg ad m xc ys hrd.1 hnews h1 hroom hfit] at hr
        cases hr
        exact .inl ⟨_, _, rfl⟩
      · have holds : ∀ j u, xs[j]? = some u → w.cell? ((⟨g, 0, none⟩ : Addr).add j) = some u := hown.cells (g := g) rfl
        rw [run_append_grow (P := P) w t ty e i z ht hi hz ⟨g, 0, none⟩ sn sc xs hown.1 holds ad m xc ys hrd.1 hnews (by omega) hsmall (growslice_fits (by omega) hbytes)] at hr
        cases hr
        exact .inr ⟨_, _, rfl⟩

/-- The journal at p, o: its bytes' slice, and how many are durable. -/
structure JAt (w : World) (p o : Nat) (a : Option Addr) (n c : Nat) (d : Nat) : Prop where
  c0 : w.cell? ⟨p, o, none⟩ = some (.slice a n c)
  c1 : w.cell? ⟨p, o + 1, none⟩ = some (.int .i64 d)
  f0 : w.frozen? ⟨p, o, none⟩ = false
  f1 : w.frozen? ⟨p, o + 1, none⟩ = false

/-- The stick at p: its journals' bytes, and how many are durable; F: the blocks that it may write. -/
def Stk (w : World) (p : Nat) (F : Nat → Prop) (sb fb : List UInt8) (sd fd : Nat) : Prop :=
  ∃ sa sc fa fc, w.heap[p]? = some (.cells #[.slice sa sb.length sc, .int .i64 sd, .slice fa fb.length fc, .int .i64 fd] 95 (0, 0)) ∧
    w.ownsRow 0 5 1 (.slice sa sb.length sc) sb.length (sb.map byteV) ∧ w.ownsRow 0 5 1 (.slice fa fb.length fc) fb.length (fb.map byteV) ∧
    (∀ k, Value.ownBlock (.slice sa sb.length sc) = some k → Value.ownBlock (.slice fa fb.length fc) ≠ some k) ∧
    (∀ k, F k ↔ (k = p ∨ Value.ownBlock (.slice sa sb.length sc) = some k ∨ Value.ownBlock (.slice fa fb.length fc) = some k)) ∧
    sd ≤ sb.length ∧ fd ≤ fb.length ∧ sb.length ≤ 16777216 ∧ fb.length ≤ 16777216

theorem Stk.lt {w : World} {p : Nat} {F : Nat → Prop} {sb fb : List UInt8} {sd fd : Nat} (h : Stk w p F sb fb sd fd) : ∀ k, F k → k < w.heap.size := by
  obtain ⟨sa, sc, fa, fc, h1, h2, h3, h4, h5, h6⟩ := h
  intro k hk
  rcases (h5 k).1 hk with rfl | h | h
  · exact (Array.getElem?_eq_some_iff.1 h1).1
  · exact (h2.lt k h).2
  · exact (h3.lt k h).2

theorem own_keep {S : Nat → Prop} {W W' : World} {base : Nat} {e : TypeId} {k : Nat} {v : Value} {n : Nat} {xs : List Value} (h : W.ownsRow base e k v n xs) (hs : Same S W W')
    (hd : ∀ b, v.ownBlock = some b → ¬ S b) : W'.ownsRow base e k v n xs := by
  refine ⟨h.1, ?_⟩
  rcases h.2 with h | ⟨g, cap, cur, rfl, hg, hgg, hr⟩
  · exact .inl h
  · exact .inr ⟨g, cap, cur, rfl, hg, (hs.block g (Array.getElem?_eq_some_iff.1 hgg).1 (hd g rfl)).trans hgg, hr⟩

theorem Stk.same {w w' : World} {p : Nat} {F S : Nat → Prop} {sb fb : List UInt8} {sd fd : Nat} (h : Stk w p F sb fb sd fd) (hs : Same S w w') (hd : ∀ k, S k → ¬ F k) : Stk w' p F sb fb sd fd := by
  obtain ⟨sa, sc, fa, fc, h1, h2, h3, h4, h5, h6⟩ := h
  refine ⟨sa, sc, fa, fc, ?_, own_keep h2 hs (fun b hb hS => hd b hS ((h5 b).2 (.inr (.inl hb)))), own_keep h3 hs (fun b hb hS => hd b hS ((h5 b).2 (.inr (.inr hb)))), h4, h5, h6⟩
  exact (hs.block p (Array.getElem?_eq_some_iff.1 h1).1 (fun hS => hd p hS ((h5 p).2 (.inl rfl)))).trans h1

end Go.Proofs.Ytpjiakgfegnmcaa
namespace Go.Proofs.Ytpjiakgfegnmcaa
open Go.RowKit

theorem Stk.j0 {w : World} {p : Nat} {F : Nat → Prop} {sb fb : List UInt8} {sd fd : Nat} (h : Stk w p F sb fb sd fd) : ∃ a c, JAt w p 0 a sb.length c sd ∧ w.ownsRow 0 5 1 (.slice a sb.length c) sb.length (sb.map byteV) := by
  obtain ⟨sa, sc, fa, fc, g1, g2, g3, g4, g5, g6, g7, g8, g9⟩ := h
  exact ⟨sa, sc, ⟨by simp [World.cell?, g1], by simp [World.cell?, g1], by simp [World.frozen?, g1], by simp [World.frozen?, g1]⟩, g2⟩
theorem Stk.j2 {w : World} {p : Nat} {F : Nat → Prop} {sb fb : List UInt8} {sd fd : Nat} (h : Stk w p F sb fb sd fd) : ∃ a c, JAt w p 2 a fb.length c fd ∧ w.ownsRow 0 5 1 (.slice a fb.length c) fb.length (fb.map byteV) := by
  obtain ⟨sa, sc, fa, fc, g1, g2, g3, g4, g5, g6, g7, g8, g9⟩ := h
  exact ⟨fa, fc, ⟨by simp [World.cell?, g1], by simp [World.cell?, g1], by simp [World.frozen?, g1], by simp [World.frozen?, g1]⟩, g3⟩
end Go.Proofs.Ytpjiakgfegnmcaa
namespace Go.Proofs.Ytpjiakgfegnmcaa
open Go.RowKit

theorem RdB.lit (w : World) (l : List UInt8) (hl : l.length ≤ 1000000) : RdB (w.alloc (.cells (l.map byteV).toArray 5)) (some ⟨w.heap.size, 0, none⟩) l.length l.length l := by
  have h := World.ownsRow_lit (base := w.heap.size) (e := 5) (size := 1) w (l.map byteV).toArray l.length (Nat.le_refl _) (by unfold maxLen; omega) (by simp)
  exact RdA.of_own h

end Go.Proofs.Ytpjiakgfegnmcaa
namespace Go.Proofs.Ytpjiakgfegnmcaa
open Go.RowKit
section
attribute [local go_sem] noteA_0
end
end Go.Proofs.Ytpjiakgfegnmcaa
namespace Go.Proofs.Ytpjiakgfegnmcaa
set_option linter.unusedSimpArgs false
open Go.RowKit
/-- Both notes lie in their blocks, and nothing below has turned. -/
structure TwoN (w W : World) (p q : Nat) (x : NoteV) (sa : Option Addr) (sc : Nat) (ta : Option Addr) (tc : Nat) : Prop where
  e1 : W.heap[p]? = some (.cells (noteA x sa sc) 43 (0, 0))
  e2 : W.heap[q]? = some (.cells (noteA x ta tc) 43 (0, 0))
  b : Below p w W
  lt : p < q
theorem TwoN.below {w W W' : World} {p q : Nat} {x : NoteV} {sa ta : Option Addr} {sc tc : Nat} (h : TwoN w W p q x sa sc ta tc) (hb : Below W.heap.size W W') : TwoN w W' p q x sa sc ta tc := by
  have g : ∀ {k : Nat} {o : Obj}, W.heap[k]? = some o → W'.heap[k]? = some o := fun {k o} hk => (hb.block k (Array.getElem?_eq_some_iff.1 hk).1).trans hk
  have h0 := (Array.getElem?_eq_some_iff.1 h.e1).1
  exact ⟨g h.e1, g h.e2, h.b.trans (hb.mono (by omega)), h.lt⟩
theorem yields_row {P : Program} {ops : Array Oper} {S : World → Prop} {op : Oper} {a : Act} (hw : Region.wanted op (yielded ops a.tmps) = true) (ty : TypeId) (x : Operand) (ho : op.op = .load ty x)
    (b : Nat) (hx : a.eval x = .pointer (some ⟨b, 0, none⟩)) (cs : Array Value) (t : TypeId) (fr : Nat × Nat) (d : TypeDesc) (hS : ∀ w, S w → w.heap[b]? = some (.cells cs t fr))
    (hu : P.underlying ty = some d) (hd : (match d with | .struct _ | .array _ _ => true | _ => false) = true) (hi : (P.info? ty).map (·.size) = some cs.size) : YieldsIf P ops S op (.agg cs) a :=
  .inl ⟨hw, fun w hw' => by
    unfold execOp
    simp only [ho, hx, Instr.loadAt, Instr.sureAddr, Sem.run_bind, Sem.run_pure, Result.andThen_ok, run_loadVar_row w b t ty cs fr d (hS w hw') hu hd hi]⟩
section
attribute [local go_sem] noteA_0
end
end Go.Proofs.Ytpjiakgfegnmcaa
namespace Go.Proofs.Ytpjiakgfegnmcaa
set_option linter.unusedSimpArgs false
open Go.RowKit

/-- As cmp.Compare. -/
def cmpI (x y : Int) : Int := if x < y then -1 else if y < x then 1 else 0
def orI (x y : Int) : Int := if x = 0 then y else x
def namesC (h m h' m' : Int) : Int := orI (cmpI h h') (cmpI m m')
def knownC (x y : NoteV) : Int := orI (cmpI x.clock y.clock) (namesC x.house x.num y.house y.num)
def whenC (x y : NoteV) : Int := orI (cmpI x.day y.day) (knownC x y)
def doneB (n : NoteV) : Bool := inB n.kind 1 4
def judgesB (x r : NoteV) : Bool := decide (x.kind = 6) || (decide (x.kind = 5) && (!decide (x.fix = 2) || decide (r.kind = 2)))
theorem isNaN_any (x : Int) (w : World) : Calls Try.prog 144 #[.int .i64 x] w fun e w' => e = .returned (.bool false) ∧ w' = w := by
  have h : (x != x) = false := by simp
  go_enter Try.func144, Try.ntmps144
  go_wp2_with fail
  go_ret
  exact ⟨rfl, rfl⟩
theorem compare_any (x y : Int) (w : World) : Calls Try.prog 124 #[.int .i64 x, .int .i64 y] w fun e w' => e = .returned (.int .i64 (cmpI x y)) ∧ w' = w := by
  have K : ∀ {v : Int}, cmpI x y = v → Hid (cmpI x y = v) := fun h => Lib.hid h
  by_cases h1 : x < y
  · have HK := K (if_pos h1)
    have t1 : decide (x < y) = true := by simp [h1]
    go_enter Try.func124, Try.ntmps124
    go_wp2_with fail
    refine (isNaN_any x w).mono ?_
    rintro e w1 ⟨rfl, rfl⟩
    go_wp2_with fail
    refine (isNaN_any y _).mono ?_
    rintro e w1 ⟨rfl, rfl⟩
    go_wp2_with fail
    go_ret
    rw [HK.out]
    exact ⟨rfl, rfl⟩
  · have t1 : decide (x < y) = false := by simp; omega
    by_cases h2 : y < x
    · have HK := K ((if_neg h1).trans (if_pos h2))
      have t2 : decide (y < x) = true := by simp [h2]
      go_enter Try.func124, Try.ntmps124
      go_wp2_with fail
      refine (isNaN_any x w).mono ?_
      rintro e w1 ⟨rfl, rfl⟩
      go_wp2_with fail
      refine (isNaN_any y _).mono ?_
      rintro e w1 ⟨rfl, rfl⟩
      go_wp2_with fail
      go_ret
      rw [HK.out]
      exact ⟨rfl, rfl⟩
    · have HK := K ((if_neg h1).trans (if_neg h2))
      have t2 : decide (y < x) = false := by simp; omega
      go_enter Try.func124, Try.ntmps124
      go_wp2_with fail
      refine (isNaN_any x w).mono ?_
      rintro e w1 ⟨rfl, rfl⟩
      go_wp2_with fail
      refine (isNaN_any y _).mono ?_
      rintro e w1 ⟨rfl, rfl⟩
      go_wp2_with fail
      go_ret
      rw [HK.out]
      exact ⟨rfl, rfl⟩
set_option maxHeartbeats 2000000 in
theorem or_two (b : Nat) (x y : Int) (w : World) (h : w.heap[b]? = some (.cells #[.int .i64 x, .int .i64 y] 3 (0, 0))) : Calls Try.prog 123 #[.slice (some ⟨b, 0, none⟩) 2 2] w fun e w' => e = .returned (.int .i64 (orI x y)) ∧ w' = w := by
  have c0 : w.cell? ⟨b, 0, none⟩ = some (.int .i64 x) := cell_of h 0 _ rfl
  have c1 : w.cell? ⟨b, 1, none⟩ = some (.int .i64 y) := cell_of h 1 _ rfl
  go_enter Try.func123, Try.ntmps123
  go_wp2_with fail
  go_loopw [5, 8] (fun _ i wr => ((i = .int .i64 0) ∨ (i = .int .i64 1 ∧ Hid (x = 0)) ∨ (i = .int .i64 2 ∧ Hid (x = 0 ∧ y = 0))) ∧ Hid (w = wr)) (fun _ i _ => 2 - (intOf i).toNat)
  case atStart => exact ⟨.inl rfl, Lib.hid rfl⟩
  case round =>
    obtain ⟨hr, HE⟩ := hrel
    have := HE.out
    subst this
    rcases hr with rfl | ⟨rfl, hx⟩ | ⟨rfl, hx⟩
    · by_cases h0 : x = 0
      · have t0 : (x != 0) = false := by simp [h0]
        have H0 := Lib.hid h0; clear h0
        go_wp2_with fail
        go_roundw
        case rel => exact ⟨.inr (.inl ⟨rfl, H0⟩), Lib.hid (by trivial)⟩
        case measure => simp [intOf]
      · have t0 : (x != 0) = true := by simp [h0]
        have H0 := Lib.hid (show orI x y = x from if_neg h0); clear h0
        go_wp2_with fail
        go_ret
        rw [H0.out]
        exact ⟨rfl, rfl⟩
    · by_cases h0 : y = 0
      · have t0 : (y != 0) = false := by simp [h0]
        have H0 := Lib.hid (show x = 0 ∧ y = 0 from ⟨hx.out, h0⟩); clear h0
        go_wp2_with fail
        go_roundw
        case rel => exact ⟨.inr (.inr ⟨rfl, H0⟩), Lib.hid (by trivial)⟩
        case measure => simp [intOf]
      · have t0 : (y != 0) = true := by simp [h0]
        have H0 := Lib.hid (show orI x y = y from if_pos hx.out); clear h0
        go_wp2_with fail
        go_ret
        rw [H0.out]
        exact ⟨rfl, rfl⟩
    · have H0 := Lib.hid (show orI x y = 0 by rw [orI, if_pos hx.out.1]; exact hx.out.2)
      go_wp2_with fail
      go_ret
      rw [H0.out]
      exact ⟨rfl, rfl⟩
end Go.Proofs.Ytpjiakgfegnmcaa
namespace Go.Proofs.Ytpjiakgfegnmcaa
set_option linter.unusedSimpArgs false
open Go.RowKit

/-- Two boxes, and nothing below has turned. -/
structure TwoC (w W : World) (p q : Nat) (A B : Array Value) (t : TypeId) : Prop where
  e1 : W.heap[p]? = some (.cells A t (0, 0))
  e2 : W.heap[q]? = some (.cells B t (0, 0))
  b : Below p w W
  lt : p < q
theorem TwoC.below {w W W' : World} {p q : Nat} {A B : Array Value} {t : TypeId} (h : TwoC w W p q A B t) (hb : Below W.heap.size W W') : TwoC w W' p q A B t := by
  have g : ∀ {k : Nat} {o : Obj}, W.heap[k]? = some o → W'.heap[k]? = some o := fun {k o} hk => (hb.block k (Array.getElem?_eq_some_iff.1 hk).1).trans hk
  have h0 := (Array.getElem?_eq_some_iff.1 h.e1).1
  exact ⟨g h.e1, g h.e2, h.b.trans (hb.mono (by omega)), h.lt⟩
set_option maxHeartbeats 4000000 in
set_option maxRecDepth 100000 in
theorem compareNames_any (x m y k : Int) (w : World) : Calls Try.prog 105 #[.agg #[.int .i64 x, .int .i64 m], .agg #[.int .i64 y, .int .i64 k]] w fun e w' => e = .returned (.int .i64 (namesC x m y k)) ∧ Below w.heap.size w w' := by
  have g1 := heap_before _ (.cells (#[.int .i64 y, .int .i64 k]) 41) _ _ (heap_last w (.cells (#[.int .i64 x, .int .i64 m]) 41))
  have g2 := heap_at (w.alloc (.cells (#[.int .i64 x, .int .i64 m]) 41)) (.cells (#[.int .i64 y, .int .i64 k]) 41) (w.heap.size + 1) (by simp)
  have bb : Below w.heap.size w ((w.alloc (.cells (#[.int .i64 x, .int .i64 m]) 41)).alloc (.cells (#[.int .i64 y, .int .i64 k]) 41)) := ((Below.refl _ _).alloc (Nat.le_refl _) _).alloc (by simp) _
  have T0 : Hid (TwoC w ((w.alloc (.cells (#[.int .i64 x, .int .i64 m]) 41)).alloc (.cells (#[.int .i64 y, .int .i64 k]) 41)) w.heap.size (w.heap.size + 1) (#[.int .i64 x, .int .i64 m]) (#[.int .i64 y, .int .i64 k]) 41) := Lib.hid ⟨g1, g2, bb, by omega⟩
  clear g1 g2 bb
  go_enter Try.func105, Try.ntmps105
  go_upto_region 1 with fail
  generalize (w.alloc (.cells (#[.int .i64 x, .int .i64 m]) 41)).alloc (.cells (#[.int .i64 y, .int .i64 k]) 41) = W0 at *
  obtain ⟨p, hp⟩ : ∃ p, Hid (w.heap.size = p) := ⟨_, Lib.hid rfl⟩
  obtain ⟨q, hq⟩ : ∃ q, Hid (w.heap.size + 1 = q) := ⟨_, Lib.hid rfl⟩
  rw [hq.out, hp.out] at T0
  rw [hq.out, hp.out]
  have T1 := Lib.hid (T0.out.below (Below.refl W0.heap.size W0).drew)
  refine wp_region_noPanic ?_
  refine wp_region_held_drew (S := fun w' => TwoC w w' p q (#[.int .i64 x, .int .i64 m]) (#[.int .i64 y, .int .i64 k]) 41) (by kernel_rfl) T1.out (fun hHeld => ?_)
  refine wpAnyH_take (i := 0) (v := .pointer (some ⟨p, 0, none⟩)) rfl (by kernel_rfl) (by kernel_rfl) (by kernel_rfl) (fun _ _ _ h => h) (Or.inl ⟨by rfl, by intro W _; go_simp⟩) (by assumption) ?_
  try simp only [Act.put, List.setIfInBounds_toArray, List.set_cons_zero, List.set_cons_succ]
  refine wpAnyH_take (i := 1) (v := .int .i64 x) rfl (by kernel_rfl) (by kernel_rfl) (by kernel_rfl) (fun _ _ _ h => h) (Or.inl ⟨by rfl, by intro W h; have hc := cell_of h.e1 0 (.int .i64 x) rfl; go_simp⟩) (by assumption) ?_
  try simp only [Act.put, List.setIfInBounds_toArray, List.set_cons_zero, List.set_cons_succ]
  refine wpAnyH_take (i := 2) (v := .pointer (some ⟨q, 0, none⟩)) rfl (by kernel_rfl) (by kernel_rfl) (by kernel_rfl) (fun _ _ _ h => h) (Or.inl ⟨by rfl, by intro W _; go_simp⟩) (by assumption) ?_
  try simp only [Act.put, List.setIfInBounds_toArray, List.set_cons_zero, List.set_cons_succ]
  refine wpAnyH_take (i := 3) (v := .int .i64 y) rfl (by kernel_rfl) (by kernel_rfl) (by kernel_rfl) (fun _ _ _ h => h) (Or.inl ⟨by rfl, by intro W h; have hc := cell_of h.e2 0 (.int .i64 y) rfl; go_simp⟩) (by assumption) ?_
  try simp only [Act.put, List.setIfInBounds_toArray, List.set_cons_zero, List.set_cons_succ]
  refine wpAnyH_take (i := 5) (v := .pointer (some ⟨p, 1, none⟩)) rfl (by kernel_rfl) (by kernel_rfl) (by kernel_rfl) (fun _ _ _ h => h) (Or.inl ⟨by rfl, by intro W _; go_simp⟩) (by assumption) ?_
  try simp only [Act.put, List.setIfInBounds_toArray, List.set_cons_zero, List.set_cons_succ]
  refine wpAnyH_take (i := 6) (v := .int .i64 m) rfl (by kernel_rfl) (by kernel_rfl) (by kernel_rfl) (fun _ _ _ h => h) (Or.inl ⟨by rfl, by intro W h; have hc := cell_of h.e1 1 (.int .i64 m) rfl; go_simp⟩) (by assumption) ?_
  try simp only [Act.put, List.setIfInBounds_toArray, List.set_cons_zero, List.set_cons_succ]
  refine wpAnyH_take (i := 7) (v := .pointer (some ⟨q, 1, none⟩)) rfl (by kernel_rfl) (by kernel_rfl) (by kernel_rfl) (fun _ _ _ h => h) (Or.inl ⟨by rfl, by intro W _; go_simp⟩) (by assumption) ?_
  try simp only [Act.put, List.setIfInBounds_toArray, List.set_cons_zero, List.set_cons_succ]
  refine wpAnyH_take (i := 8) (v := .int .i64 k) rfl (by kernel_rfl) (by kernel_rfl) (by kernel_rfl) (fun _ _ _ h => h) (Or.inl ⟨by rfl, by intro W h; have hc := cell_of h.e2 1 (.int .i64 k) rfl; go_simp⟩) (by assumption) ?_
  try simp only [Act.put, List.setIfInBounds_toArray, List.set_cons_zero, List.set_cons_succ]
  refine wpAnyH_ready (rs := [4]) (by kernel_rfl) (by simp) ?_
  refine AllReadyH.cons rfl (fun K hK => ?_) AllReadyH.nil
  go_simp
  go_at_call 124
  refine (compare_any x y _).mono ?_
  rintro e w1 ⟨rfl, rfl⟩
  dsimp only
  refine hK.out _ _ T1.out (fun hHeld => ?_)
  clear hK K
  try simp only [Act.put, List.setIfInBounds_toArray, List.set_cons_zero, List.set_cons_succ]
  refine wpAnyH_ready (rs := [9]) (by kernel_rfl) (by simp) ?_
  refine AllReadyH.cons rfl (fun K hK => ?_) AllReadyH.nil
  go_simp
  go_at_call 124
  refine (compare_any m k _).mono ?_
  rintro e w1 ⟨rfl, rfl⟩
  dsimp only
  refine hK.out _ _ T1.out (fun hHeld => ?_)
  clear hK K
  try simp only [Act.put, List.setIfInBounds_toArray, List.set_cons_zero, List.set_cons_succ]
  refine wpAnyH_ready (rs := [10]) (by kernel_rfl) (by simp) ?_
  refine AllReadyH.cons rfl (fun K hK => ?_) AllReadyH.nil
  go_simp
  have TB := Lib.hid (T1.out.below ((Below.refl W0.drew.heap.size W0.drew).alloc (Nat.le_refl _) (.cells #[.int .i64 (cmpI x y), .int .i64 (cmpI m k)] 3)))
  refine hK.out _ _ TB.out (fun hHeld => ?_)
  clear hK K
  try simp only [Act.put, List.setIfInBounds_toArray, List.set_cons_zero, List.set_cons_succ]
  refine wpAnyH_ready (rs := [11]) (by kernel_rfl) (by simp) ?_
  refine AllReadyH.cons rfl (fun K hK => ?_) AllReadyH.nil
  go_simp
  go_at_call 123
  refine (or_two W0.drew.heap.size (cmpI x y) (cmpI m k) _ (heap_last W0.drew _)).mono ?_
  rintro e w1 ⟨rfl, rfl⟩
  dsimp only
  refine hK.out _ _ TB.out (fun hHeld => ?_)
  clear hK K
  try simp only [Act.put, List.setIfInBounds_toArray, List.set_cons_zero, List.set_cons_succ]
  refine wpAnyH_take (i := 12) (v := .int .i64 (orI (cmpI x y) (cmpI m k))) rfl (by kernel_rfl) (by kernel_rfl) (by kernel_rfl) (fun _ _ _ h => h) (Or.inl ⟨by rfl, by intro W _; go_simp⟩) (by assumption) ?_
  try simp only [Act.put, List.setIfInBounds_toArray, List.set_cons_zero, List.set_cons_succ]
  have TE := TB
  refine wpAnyH_done (by kernel_rfl) ?_ _
  refine NoPanic.normal ?_
  change Exit.then _ _ Exit.normal { tmps := #[.agg #[.int .i64 x, .int .i64 m], .agg #[.int .i64 y, .int .i64 k], .pointer (some ⟨p, 0, none⟩), .pointer (some ⟨q, 0, none⟩), .int .i64 (orI (cmpI x y) (cmpI m k)), .pointer (some ⟨p, 0, none⟩), .int .i64 x, .pointer (some ⟨q, 0, none⟩), .int .i64 y, .int .i64 (cmpI x y), .pointer (some ⟨p, 1, none⟩), .int .i64 m, .pointer (some ⟨q, 1, none⟩), .int .i64 k, .int .i64 (cmpI m k), .slice (some ⟨W0.drew.heap.size, 0, none⟩) 2 2, .int .i64 (orI (cmpI x y) (cmpI m k))], defers := [] } _
  go_wp2_with fail
  go_ret
  exact ⟨rfl, by rw [hp.out]; exact TE.out.b⟩
section
attribute [local go_sem] noteA_0
set_option maxHeartbeats 4000000 in
set_option maxRecDepth 100000 in
theorem known_any (n r : NoteV) (sa : Option Addr) (sc : Nat) (ta : Option Addr) (tc : Nat) (w : World) : Calls Try.prog 101 #[.agg (noteA n sa sc), .agg (noteA r ta tc)] w fun e w' => e = .returned (.int .i64 (knownC n r)) ∧ Below w.heap.size w w' := by
  have I43 := Lib.hid (show ∀ (m : NoteV) (a : Option Addr) (c : Nat), (Try.prog.info? 43).map (·.size) = some (noteA m a c).size from fun m a c => by kernel_rfl)
  have g1 := heap_before _ (.cells (noteA r ta tc) 43) _ _ (heap_last w (.cells (noteA n sa sc) 43))
  have g2 := heap_at (w.alloc (.cells (noteA n sa sc) 43)) (.cells (noteA r ta tc) 43) (w.heap.size + 1) (by simp)
  have bb : Below w.heap.size w ((w.alloc (.cells (noteA n sa sc) 43)).alloc (.cells (noteA r ta tc) 43)) := ((Below.refl _ _).alloc (Nat.le_refl _) _).alloc (by simp) _
  have T0 : Hid (TwoC w ((w.alloc (.cells (noteA n sa sc) 43)).alloc (.cells (noteA r ta tc) 43)) w.heap.size (w.heap.size + 1) (noteA n sa sc) (noteA r ta tc) 43) := Lib.hid ⟨g1, g2, bb, by omega⟩
  clear g1 g2 bb
  go_enter Try.func101, Try.ntmps101
  go_upto_region 1 with fail
  generalize (w.alloc (.cells (noteA n sa sc) 43)).alloc (.cells (noteA r ta tc) 43) = W0 at *
  obtain ⟨p, hp⟩ : ∃ p, Hid (w.heap.size = p) := ⟨_, Lib.hid rfl⟩
  obtain ⟨q, hq⟩ : ∃ q, Hid (w.heap.size + 1 = q) := ⟨_, Lib.hid rfl⟩
  rw [hq.out, hp.out] at T0
  rw [hq.out, hp.out]
  have T1 := Lib.hid (T0.out.below (Below.refl W0.heap.size W0).drew)
  refine wp_region_noPanic ?_
  refine wp_region_held_drew (S := fun w' => TwoC w w' p q (noteA n sa sc) (noteA r ta tc) 43) (by kernel_rfl) T1.out (fun hHeld => ?_)
  refine wpAnyH_take (i := 0) (v := .pointer (some ⟨p, 2, none⟩)) rfl (by kernel_rfl) (by kernel_rfl) (by kernel_rfl) (fun _ _ _ h => h) (Or.inl ⟨by rfl, by intro W _; go_simp⟩) (by assumption) ?_
  try simp only [Act.put, List.setIfInBounds_toArray, List.set_cons_zero, List.set_cons_succ]
  refine wpAnyH_take (i := 1) (v := .int .i64 n.clock) rfl (by kernel_rfl) (by kernel_rfl) (by kernel_rfl) (fun _ _ _ h => h) (Or.inl ⟨by rfl, by intro W h; have hc := cell_of h.e1 2 (.int .i64 n.clock) rfl; go_simp⟩) (by assumption) ?_
  try simp only [Act.put, List.setIfInBounds_toArray, List.set_cons_zero, List.set_cons_succ]
  refine wpAnyH_take (i := 2) (v := .pointer (some ⟨q, 2, none⟩)) rfl (by kernel_rfl) (by kernel_rfl) (by kernel_rfl) (fun _ _ _ h => h) (Or.inl ⟨by rfl, by intro W _; go_simp⟩) (by assumption) ?_
  try simp only [Act.put, List.setIfInBounds_toArray, List.set_cons_zero, List.set_cons_succ]
  refine wpAnyH_take (i := 3) (v := .int .i64 r.clock) rfl (by kernel_rfl) (by kernel_rfl) (by kernel_rfl) (fun _ _ _ h => h) (Or.inl ⟨by rfl, by intro W h; have hc := cell_of h.e2 2 (.int .i64 r.clock) rfl; go_simp⟩) (by assumption) ?_
  try simp only [Act.put, List.setIfInBounds_toArray, List.set_cons_zero, List.set_cons_succ]
  refine wpAnyH_take (i := 5) (v := .agg (noteA n sa sc)) rfl (by kernel_rfl) (by kernel_rfl) (by kernel_rfl) (fun _ _ _ h => h) (yields_row (by rfl) 43 _ rfl p rfl _ 43 (0, 0) _ (fun W h => h.e1) Try.underlying43 rfl (I43.out _ _ _)) (by assumption) ?_
  try simp only [Act.put, List.setIfInBounds_toArray, List.set_cons_zero, List.set_cons_succ]
  refine wpAnyH_take (i := 7) (v := .agg (noteA r ta tc)) rfl (by kernel_rfl) (by kernel_rfl) (by kernel_rfl) (fun _ _ _ h => h) (yields_row (by rfl) 43 _ rfl q rfl _ 43 (0, 0) _ (fun W h => h.e2) Try.underlying43 rfl (I43.out _ _ _)) (by assumption) ?_
  try simp only [Act.put, List.setIfInBounds_toArray, List.set_cons_zero, List.set_cons_succ]
  refine wpAnyH_ready (rs := [4]) (by kernel_rfl) (by simp) ?_
  refine AllReadyH.cons rfl (fun K hK => ?_) AllReadyH.nil
  go_simp
  go_at_call 124
  refine (compare_any n.clock r.clock _).mono ?_
  rintro e w1 ⟨rfl, rfl⟩
  dsimp only
  refine hK.out _ _ T1.out (fun hHeld => ?_)
  clear hK K
  try simp only [Act.put, List.setIfInBounds_toArray, List.set_cons_zero, List.set_cons_succ]
  refine wpAnyH_ready (rs := [6]) (by kernel_rfl) (by simp) ?_
  refine AllReadyH.cons rfl (fun K hK => ?_) AllReadyH.nil
  go_simp
  go_at_call 98
  refine (nameOf_any n sa sc _).mono ?_
  rintro e w1 ⟨rfl, b1⟩
  have T2 := Lib.hid (T1.out.below b1); clear b1
  dsimp only
  refine hK.out _ _ T2.out (fun hHeld => ?_)
  clear hK K
  try simp only [Act.put, List.setIfInBounds_toArray, List.set_cons_zero, List.set_cons_succ]
  refine wpAnyH_ready (rs := [8]) (by kernel_rfl) (by simp) ?_
  refine AllReadyH.cons rfl (fun K hK => ?_) AllReadyH.nil
  go_simp
  go_at_call 98
  refine (nameOf_any r ta tc _).mono ?_
  rintro e w2 ⟨rfl, b1⟩
  have T3 := Lib.hid (T2.out.below b1); clear b1
  dsimp only
  refine hK.out _ _ T3.out (fun hHeld => ?_)
  clear hK K
  try simp only [Act.put, List.setIfInBounds_toArray, List.set_cons_zero, List.set_cons_succ]
  refine wpAnyH_ready (rs := [9]) (by kernel_rfl) (by simp) ?_
  refine AllReadyH.cons rfl (fun K hK => ?_) AllReadyH.nil
  go_simp
  go_at_call 105
  refine (compareNames_any n.house n.num r.house r.num _).mono ?_
  rintro e w3 ⟨rfl, b1⟩
  have T4 := Lib.hid (T3.out.below b1); clear b1
  dsimp only
  refine hK.out _ _ T4.out (fun hHeld => ?_)
  clear hK K
  try simp only [Act.put, List.setIfInBounds_toArray, List.set_cons_zero, List.set_cons_succ]
  refine wpAnyH_ready (rs := [10]) (by kernel_rfl) (by simp) ?_
  refine AllReadyH.cons rfl (fun K hK => ?_) AllReadyH.nil
  go_simp
  have TB := Lib.hid (T4.out.below ((Below.refl w3.heap.size w3).alloc (Nat.le_refl _) (.cells #[.int .i64 (cmpI n.clock r.clock), .int .i64 (namesC n.house n.num r.house r.num)] 3)))
  refine hK.out _ _ TB.out (fun hHeld => ?_)
  clear hK K
  try simp only [Act.put, List.setIfInBounds_toArray, List.set_cons_zero, List.set_cons_succ]
  refine wpAnyH_ready (rs := [11]) (by kernel_rfl) (by simp) ?_
  refine AllReadyH.cons rfl (fun K hK => ?_) AllReadyH.nil
  go_simp
  go_at_call 123
  refine (or_two w3.heap.size (cmpI n.clock r.clock) (namesC n.house n.num r.house r.num) _ (heap_last w3 _)).mono ?_
  rintro e w4 ⟨rfl, rfl⟩
  dsimp only
  refine hK.out _ _ TB.out (fun hHeld => ?_)
  clear hK K
  try simp only [Act.put, List.setIfInBounds_toArray, List.set_cons_zero, List.set_cons_succ]
  refine wpAnyH_take (i := 12) (v := .int .i64 (orI (cmpI n.clock r.clock) (namesC n.house n.num r.house r.num))) rfl (by kernel_rfl) (by kernel_rfl) (by kernel_rfl) (fun _ _ _ h => h) (Or.inl ⟨by rfl, by intro W _; go_simp⟩) (by assumption) ?_
  try simp only [Act.put, List.setIfInBounds_toArray, List.set_cons_zero, List.set_cons_succ]
  have TE := TB
  refine wpAnyH_done (by kernel_rfl) ?_ _
  refine NoPanic.normal ?_
  change Exit.then _ _ Exit.normal { tmps := #[.agg (noteA n sa sc), .agg (noteA r ta tc), .pointer (some ⟨p, 0, none⟩), .pointer (some ⟨q, 0, none⟩), .int .i64 (orI (cmpI n.clock r.clock) (namesC n.house n.num r.house r.num)), .pointer (some ⟨p, 2, none⟩), .int .i64 n.clock, .pointer (some ⟨q, 2, none⟩), .int .i64 r.clock, .int .i64 (cmpI n.clock r.clock), .agg (noteA n sa sc), .agg #[.int .i64 n.house, .int .i64 n.num], .agg (noteA r ta tc), .agg #[.int .i64 r.house, .int .i64 r.num], .int .i64 (namesC n.house n.num r.house r.num), .slice (some ⟨w3.heap.size, 0, none⟩) 2 2, .int .i64 (orI (cmpI n.clock r.clock) (namesC n.house n.num r.house r.num))], defers := [] } _
  go_wp2_with fail
  go_ret
  exact ⟨rfl, by rw [hp.out]; exact TE.out.b⟩
end
end Go.Proofs.Ytpjiakgfegnmcaa
namespace Go.Proofs.Ytpjiakgfegnmcaa
set_option linter.unusedSimpArgs false
open Go.RowKit

/-- Clone of ints: memory of the call's own. -/
theorem cloneI_any (a : Option Addr) (n c : Nat) (l : List Int) (w : World) (hn : n ≤ 1000000000) (hr : RdI w a n c l) :
    Calls Try.prog 145 #[.slice a n c] w fun e w' => ∃ a' c', e = .returned (.slice a' n c') ∧ w'.ownsRow w.heap.size 3 1 (.slice a' n c') n (l.map intV) ∧ Below w.heap.size w w' := by
  have hnc := hr.2.1
  by_cases ha : a = none
  · subst ha
    have hc : n = 0 ∧ c = 0 := by
      rcases hr.2.2.2 with h | ⟨b, off, h, _⟩
      · omega
      · cases h
    obtain ⟨rfl, rfl⟩ := hc
    have hl : l = [] := List.eq_nil_of_length_eq_zero hr.len
    subst hl
    clear hr hnc
    have heq : ∀ w, (binOp .eql 33 (.slice none 0 0) (.slice none 0 0)).run Try.prog w = .ok (.bool true) w := fun w => Lib.run_eql_slice_nil (P := Try.prog) w 33 3 none 0 0 0 0 Try.underlying33
    go_enter Try.func145, Try.ntmps145
    go_wp2
    go_ret
    exact ⟨_, _, rfl, World.ownsRow_nil _ _ _ _, Below.refl _ _⟩
  · obtain ⟨ad, rfl⟩ := Option.ne_none_iff_exists'.1 ha
    clear ha
    have heq : ∀ w, (binOp .eql 33 (.slice (some ad) n c) (.slice none 0 0)).run Try.prog w = .ok (.bool false) w := fun w => Lib.run_eql_slice_nil (P := Try.prog) w 33 3 (some ad) n c 0 0 Try.underlying33
    have hown := World.ownsRow_lit (base := w.heap.size) (e := 3) (size := 1) w #[] 0 (Nat.le_refl _) (by unfold maxLen; omega) rfl
    have hr1 := hr.below ((Below.refl w.heap.size w).alloc (Nat.le_refl _) (Obj.cells #[] 3))
    go_enter Try.func145, Try.ntmps145
    go_wp2_with (at_builtin; refine app_ints _ rfl _ _ rfl w.heap.size _ _ _ [] rfl hown _ _ _ l rfl hr1 (by omega) (by simp) ?_)
    intro a' c' w' h1 h2
    have hb := ((Below.refl w.heap.size w).alloc (Nat.le_refl _) (Obj.cells #[] 3)).grown h2 (by simp) (fun q hq => (hown.lt q hq).1)
    have H1 := Lib.hid (show w'.ownsRow w.heap.size 3 1 (.slice a' n c') n (l.map intV) by simpa using h1); clear h1 h2
    try simp only [Nat.zero_add]
    go_wp2_with fail
    go_ret
    exact ⟨_, _, rfl, H1.out, hb⟩
section
attribute [local go_sem] noteA_0 noteA_1 noteA_2 noteA_3 noteA_4 noteA_5 noteA_6 noteA_7 noteA_8 noteA_9 noteA_10 noteA_11 noteA_12 noteA_13 noteA_14 noteA_15 noteA_16 noteA_17 noteA_18
variable (n : NoteV) (sa : Option Addr) (sc : Nat) (w : World)
theorem done_any : Calls Try.prog 99 #[.agg (noteA n sa sc)] w fun e w' => e = .returned (.bool (doneB n)) ∧ Below w.heap.size w w' := by
  have hb := (Below.refl w.heap.size w).alloc (Nat.le_refl _) (.cells (noteA n sa sc) 43)
  go_enter Try.func99, Try.ntmps99
  go_wp2_with fail
  refine (hin_any n.kind 1 4 _).mono ?_
  rintro e w' ⟨rfl, rfl⟩
  go_wp2_with fail
  go_ret
  exact ⟨rfl, hb⟩
set_option maxHeartbeats 2000000 in
theorem judges_any (r : NoteV) (ta : Option Addr) (tc : Nat) : Calls Try.prog 100 #[.agg (noteA n sa sc), .agg (noteA r ta tc)] w fun e w' => e = .returned (.bool (judgesB n r)) ∧ Below w.heap.size w w' := by
  have hb := ((Below.refl w.heap.size w).alloc (Nat.le_refl _) (.cells (noteA n sa sc) 43)).alloc (by simp) (.cells (noteA r ta tc) 43)
  have hl := heap_before _ (.cells (noteA r ta tc) 43) _ _ (heap_last w (.cells (noteA n sa sc) 43))
  have hl2 := heap_at (w.alloc (.cells (noteA n sa sc) 43)) (.cells (noteA r ta tc) 43) (w.heap.size + 1) (by simp)
  have c4 := cell_of hl 4 (.int .i64 n.kind) rfl
  have c18 := cell_of hl 18 (.int .i64 n.fix) rfl
  have d4 := cell_of hl2 4 (.int .i64 r.kind) rfl
  have HB := Lib.hid hb; clear hb hl hl2
  by_cases h6 : n.kind = 6
  · have q6 : (n.kind == 6) = true := by simp [h6]
    have HR := Lib.hid (show judgesB n r = true by simp [judgesB, h6])
    clear h6
    go_enter Try.func100, Try.ntmps100
    go_wp2_with fail
    go_ret
    rw [HR.out]
    exact ⟨rfl, HB.out⟩
  · have q6 : (n.kind == 6) = false := by simp [h6]
    by_cases h5 : n.kind = 5
    · have q5 : (n.kind == 5) = true := by simp [h5]
      by_cases h2 : n.fix = 2
      · have q2 : (n.fix != 2) = false := by simp [h2]
        have HR := Lib.hid (show judgesB n r = (r.kind == 2) by simp [judgesB, h5, h2]; by_cases h : r.kind = 2 <;> simp [h])
        clear h6 h5 h2
        go_enter Try.func100, Try.ntmps100
        go_wp2_with fail
        go_ret
        rw [HR.out]
        exact ⟨rfl, HB.out⟩
      · have q2 : (n.fix != 2) = true := by simp [h2]
        have HR := Lib.hid (show judgesB n r = true by simp [judgesB, h5, h2])
        clear h6 h5 h2
        go_enter Try.func100, Try.ntmps100
        go_wp2_with fail
        go_ret
        rw [HR.out]
        exact ⟨rfl, HB.out⟩
    · have q5 : (n.kind == 5) = false := by simp [h5]
      have HR := Lib.hid (show judgesB n r = false by simp [judgesB, h5, h6])
      clear h6 h5
      go_enter Try.func100, Try.ntmps100
      go_wp2_with fail
      go_ret
      rw [HR.out]
      exact ⟨rfl, HB.out⟩
end
end Go.Proofs.Ytpjiakgfegnmcaa
