/- Parts of the proof, in this order: The program's said, for every kind; The reference's small tests of notes; The reference's bare: a note without its name, times, references, and the content of a kind; The reference's right, kind by kind; The plain law of notes and their bytes: both tests of a note agree; what is encoded is read back by both readers, and nothing else; Bytes that grow: only blocks of bytes from a base on turn; Concat of byte slices; both halves of a tally: Notch of the program and of the reference; comparing lists of byte slices; The program's formed: whether a note is well-formed; The program's encoded and Encode; A range over a function whose iterator keeps state of its own in cells: one law, over any program, at the wide fence; Join of the program: a range over the iterator of tallies; The program's reader: number; The program's note; The reference's reader: signed, Number; The reference's reader: Count, Numbers; Sticks: a journal's methods, and a stick's; The examples at the head of the statements about tallies; The reference's SameNote (of millrindref09), for notes that are the same; Orders of names and notes in the program: cmp.Compare, cmp.Or, compareNames; Orders of names and notes in the program: compareNames, known, when, Before; done, judges, copied in the program; Maps keyed by names: what such a map in memory reads as, and its operations in these words. -/
import Derived.Deep.Cut
import Derived.StillTailTactics
import Derived.BigRegion
import Derived.RegionTactic
import Derived.Deep.RegionHeld3
import Derived.WalkSmall
import Derived.RangeFuncNested
import Derived.RangeFuncBound
import Derived.RangeFuncCalls
import Derived.RangeFuncLeaves
import Derived.WalkKit
import Derived.OwnWalkIn
import Derived.TacticsInMore
import Derived.LoopNIn
import Derived.LoopIn
import Derived.Shelf.RegionOpen
import Derived.Sort.QuietIn
import Derived.WalkLawsBesides
import Derived.Deep.RegionLaw
import Derived.Deep.QuietTactic
import Derived.BigQuiet
import Derived.Deep.RegionWith
import Derived.Maps.RangeWalk
import Derived.Maps.OwnSet
import Derived.DeepKeys4
import Derived.Test.YtpjiakgfegnmcaaGreatKPhc1
set_option linter.unusedSimpArgs false
set_option linter.unusedVariables false
namespace Go.Proofs.YtpjiakgfegnmcaaGreat
open Go.RowKit

/-- A load of a whole struct at a guarded operation that is wanted. -/
theorem wpList_load_rowG {P : Program} {ops : Array Oper} {rest : List Oper} {o : Oper} {a : Act} {w : World} {Q : Exit → Act → World → Prop} (hw : Region.wanted o (yielded ops a.tmps) = true) (ty : TypeId) (x : Operand) (ho : o.op = .load ty x)
    (g : Nat) (hx : a.eval x = .pointer (some ⟨g, 0, none⟩)) (t : TypeId) (cs : Array Value) (fr : Nat × Nat) (d : TypeDesc) (hg : w.heap[g]? = some (.cells cs t fr))
    (hu : P.underlying ty = some d) (hd : (match d with | .struct _ | .array _ _ => true | _ => false) = true) (hi : (P.info? ty).map (·.size) = some cs.size)
    (h : wpList P ops Q rest (a.put o.dst (.agg cs)) w) : wpList P ops Q (o :: rest) a w :=
  wpList_step fun _ hK => by rw [if_pos hw]; exact wp_load_row ty x ho g hx t cs fr d hg hu hd hi (hK _ _ h)

theorem said_any (f : FrV) (n : NoteV) (sa : Option Addr) (sc : Nat) (w : World) (hv : f.valid = true) (hs : RdI w sa n.strokes.length sc n.strokes) (k : Int) :
    Calls Tryz.prog 96 #[f.val, .int .i64 k, .agg (noteA n sa sc)] w fun e w' => ∃ ta tc, e = .returned (.tuple #[.agg (noteA (saidN k n) ta tc), .bool (saidB f k n)]) ∧
      (ta = sa ∧ tc = sc ∧ (saidN k n).strokes = n.strokes ∨ ta = none ∧ tc = 0 ∧ (saidN k n).strokes = []) ∧ Below w.heap.size w w' := by
  by_cases hk : 1 ≤ k ∧ k ≤ 6
  · have hk' : k = 1 ∨ k = 2 ∨ k = 3 ∨ k = 4 ∨ k = 5 ∨ k = 6 := by omega
    rcases hk' with rfl | rfl | rfl | rfl | rfl | rfl
    · refine (said1 f n sa sc w).mono ?_
      rintro e w' ⟨rfl, hb⟩
      exact ⟨sa, sc, rfl, .inl ⟨rfl, rfl, rfl⟩, hb⟩
    · refine (said2 f n sa sc w).mono ?_
      rintro e w' ⟨rfl, hb⟩
      exact ⟨sa, sc, rfl, .inl ⟨rfl, rfl, rfl⟩, hb⟩
    · refine (said3 f n sa sc w hv).mono ?_
      rintro e w' ⟨rfl, hb⟩
      exact ⟨sa, sc, rfl, .inl ⟨rfl, rfl, rfl⟩, hb⟩
    · refine (said4 f n sa sc w hv hs).mono ?_
      rintro e w' ⟨rfl, hb⟩
      exact ⟨none, 0, rfl, .inr ⟨rfl, rfl, rfl⟩, hb⟩
    · refine (said5 f n sa sc w).mono ?_
      rintro e w' ⟨rfl, hb⟩
      exact ⟨sa, sc, rfl, .inl ⟨rfl, rfl, rfl⟩, hb⟩
    · refine (said6 f n sa sc w).mono ?_
      rintro e w' ⟨rfl, hb⟩
      exact ⟨sa, sc, rfl, .inl ⟨rfl, rfl, rfl⟩, hb⟩
  · refine (said0 f n sa sc w k hk).mono ?_
    rintro e w' ⟨rfl, hb⟩
    refine ⟨sa, sc, rfl, .inl ⟨rfl, rfl, ?_⟩, hb⟩
    rw [saidN_other hk]

theorem said_rd {k : Int} {n : NoteV} {sa ta : Option Addr} {sc tc : Nat} (h : ta = sa ∧ tc = sc ∧ (saidN k n).strokes = n.strokes ∨ ta = none ∧ tc = 0 ∧ (saidN k n).strokes = []) {W : World} (hs : RdI W sa n.strokes.length sc n.strokes) :
    RdI W ta (saidN k n).strokes.length tc (saidN k n).strokes := by
  rcases h with ⟨rfl, rfl, h⟩ | ⟨rfl, rfl, h⟩
  · rw [h]; exact hs
  · rw [h]; exact RdA.nil W 1
/-- What is left of a note behind all that is said; whether it is well-formed. -/
def leftN (n : NoteV) : NoteV :=
  if n.kind = 2 then { saidN n.kind n with refH := 0, refN := 0 } else if n.kind = 5 then { saidN n.fix (saidN n.kind n) with fix := 0 } else saidN n.kind n
def bareN (n : NoteV) : NoteV := { leftN n with house := 0, num := 0, clock := 0, day := 0, kind := 0 }
def okB (f : FrV) (n : NoteV) : Bool :=
  if n.kind = 2 then saidB f n.kind n && rightNameB n.refH n.refN else if n.kind = 5 then saidB f n.kind n && (saidB f n.fix (saidN n.kind n) && inB n.fix 1 4) else saidB f n.kind n
def formedB (f : FrV) (n : NoteV) : Bool := okB f n && (rightNameB n.house n.num && (inB n.clock 1 1099511627776 && (inB n.day 0 99999 && sameB (bareN n) zeroN)))

/-- The three blocks of formed: the frame, the note, what is left (its cells are C). -/
structure Loc3 (w W : World) (p0 p1 p2 : Nat) (f : FrV) (n : NoteV) (sa : Option Addr) (sc : Nat) (C : Array Value) : Prop where
  e0 : W.heap[p0]? = some (.cells #[.int .i64 f.rings, .int .i64 f.sectors, .int .i64 f.wide] 85 (0, 0))
  e1 : W.heap[p1]? = some (.cells (noteA n sa sc) 51 (0, 0))
  e2 : W.heap[p2]? = some (.cells C 51 (0, 0))
  b : Below p0 w W
  lt : p0 < p1 ∧ p1 < p2
section
variable {w W W' : World} {p0 p1 p2 : Nat} {f : FrV} {n : NoteV} {sa : Option Addr} {sc : Nat} {C : Array Value}
theorem Loc3.below (h : Loc3 w W p0 p1 p2 f n sa sc C) (hb : Below W.heap.size W W') : Loc3 w W' p0 p1 p2 f n sa sc C := by
  have g : ∀ {k : Nat} {o : Obj}, W.heap[k]? = some o → W'.heap[k]? = some o := fun {k o} hk => (hb.block k (Array.getElem?_eq_some_iff.1 hk).1).trans hk
  have h0 := (Array.getElem?_eq_some_iff.1 h.e0).1
  exact ⟨g h.e0, g h.e1, g h.e2, h.b.trans (hb.mono (by omega)), h.lt⟩
theorem Loc3.alloc (h : Loc3 w W p0 p1 p2 f n sa sc C) (o : Obj) : Loc3 w (W.alloc o) p0 p1 p2 f n sa sc C := h.below ((Below.refl _ _).alloc (Nat.le_refl _) _)
theorem Loc3.set (h : Loc3 w W p0 p1 p2 f n sa sc C) (j : Nat) (v : Value) : Loc3 w (W.setCell ⟨p2, j, none⟩ v) p0 p1 p2 f n sa sc (C.setIfInBounds j v) := by
  have g : ∀ {k : Nat}, k ≠ p2 → (W.setCell ⟨p2, j, none⟩ v).heap[k]? = W.heap[k]? := fun {k} hk => Below.heap_setCell W ⟨p2, j, none⟩ v k hk
  have hl := h.lt
  exact ⟨(g (by omega)).trans h.e0, (g (by omega)).trans h.e1, heap_setCell_same W p2 j C 51 v h.e2, h.b.trans ⟨rfl, rfl, rfl, by simp [World.setCell], fun k hk => g (by omega)⟩, h.lt⟩
theorem Loc3.setRow (h : Loc3 w W p0 p1 p2 f n sa sc C) (C' : Array Value) : Loc3 w (W.setRow p2 C') p0 p1 p2 f n sa sc C' := by
  have hl := h.lt
  exact ⟨(setRow_other W p2 p0 C' (by omega)).trans h.e0, (setRow_other W p2 p1 C' (by omega)).trans h.e1, setRow_heap W p2 _ C' _ _ h.e2, h.b.trans ⟨rfl, rfl, rfl, by simp, fun k hk => setRow_other W p2 k C' (by omega)⟩, h.lt⟩
end
end Go.Proofs.YtpjiakgfegnmcaaGreat
namespace Go.Proofs.YtpjiakgfegnmcaaGreat
open Go.RowKit

section
attribute [local go_sem] noteA_0 noteA_1
theorem rNameOf_any (n : NoteV) (sa : Option Addr) (sc : Nat) (w : World) : Calls Tryz.prog 67 #[.agg (noteA n sa sc)] w fun e w' => e = .returned (.agg #[.int .i64 n.house, .int .i64 n.num]) ∧ Below w.heap.size w w' := by
  have hb := (Below.refl w.heap.size w).alloc (Nat.le_refl _) (.cells (noteA n sa sc) 51)
  go_enter Tryz.func67, Tryz.ntmps67
  go_wp2_with fail
  go_returns
  exact ⟨rfl, hb.alloc hb.size _⟩
end
end Go.Proofs.YtpjiakgfegnmcaaGreat
namespace Go.Proofs.YtpjiakgfegnmcaaGreat
open Go.RowKit

def bare0 (n : NoteV) : NoteV := { n with house := 0, num := 0, clock := 0, day := 0, kind := 0, refH := 0, refN := 0, fix := 0 }
def bareR (k : Int) (n : NoteV) : NoteV :=
  if k = 1 then { bare0 n with hardLo := 0, hardHi := 0 } else if k = 2 then { bare0 n with turns := 0 } else if k = 3 then { bare0 n with stone := 0, a := 0, b := 0, diffLo := 0, diffHi := 0 }
  else if k = 4 then { bare0 n with stone := 0, ring := 0, strokes := [] } else bare0 n
/-- Three blocks made one behind the other: the note, the result, what is left (its cells are C). -/
structure Loc2 (w W : World) (p0 p1 p2 : Nat) (C : Array Value) : Prop where
  e1 : W.heap[p1]? = some (.cells (noteA zeroN none 0) 51 (0, 0))
  e2 : W.heap[p2]? = some (.cells C 51 (0, 0))
  b : Below p0 w W
  lt : p0 < p1 ∧ p1 < p2
theorem Loc2.set {w W : World} {p0 p1 p2 : Nat} {C : Array Value} (h : Loc2 w W p0 p1 p2 C) (j : Nat) (v : Value) : Loc2 w (W.setCell ⟨p2, j, none⟩ v) p0 p1 p2 (C.setIfInBounds j v) := by
  have g : ∀ {k : Nat}, k ≠ p2 → (W.setCell ⟨p2, j, none⟩ v).heap[k]? = W.heap[k]? := fun {k} hk => Below.heap_setCell W ⟨p2, j, none⟩ v k hk
  have hl := h.lt
  exact ⟨(g (by omega)).trans h.e1, heap_setCell_same W p2 j C 51 v h.e2, h.b.trans ⟨rfl, rfl, rfl, by simp [World.setCell], fun k hk => g (by omega)⟩, h.lt⟩
theorem Loc2.done {w W : World} {p0 p1 p2 : Nat} {C : Array Value} (h : Loc2 w W p0 p1 p2 C) (C' : Array Value) : (W.setRow p1 C').heap[p1]? = some (.cells C' 51 (0, 0)) ∧ Below p0 w (W.setRow p1 C') := by
  have hl := h.lt
  exact ⟨setRow_heap W p1 _ C' _ _ h.e1, h.b.trans ⟨rfl, rfl, rfl, by simp, fun k hk => setRow_other W p1 k C' (by omega)⟩⟩

section
attribute [local go_sem] noteA_0 noteA_1 noteA_2 noteA_3 noteA_4 noteA_5 noteA_6 noteA_7 noteA_8 noteA_9 noteA_10 noteA_11 noteA_12 noteA_13 noteA_14 noteA_15 noteA_16 noteA_17 noteA_18 noteA_s0 noteA_s1 noteA_s2 noteA_s3 noteA_s4 noteA_s5 noteA_s6 noteA_s7 noteA_s8 noteA_s9 noteA_s10 noteA_s11 noteA_s12 noteA_s13 noteA_s14 noteA_s15 noteA_s16 noteA_s17 noteA_s18
variable (n : NoteV) (sa : Option Addr) (sc : Nat) (w : World)
end
end Go.Proofs.YtpjiakgfegnmcaaGreat
namespace Go.Proofs.YtpjiakgfegnmcaaGreat
open Go.RowKit

/-- What right says of the content of a kind. -/
def rightB (f : FrV) (k : Int) (n : NoteV) : Bool :=
  if k = 1 then spansB n.hardLo n.hardHi 1 255 else if k = 2 then inB n.turns 1 10000
  else if k = 3 then inB n.stone 0 1 && (inB n.a 0 (f.rings * f.sectors - 1) && (inB n.b (-1) (f.rings * f.sectors - 1) && (decide (n.a ≠ n.b) && spansB n.diffLo n.diffHi (-1000000000) 1000000000)))
  else if k = 4 then inB n.stone 0 1 && (inB n.ring 0 (f.rings - 1) && strokesB (f.sectors - f.wide) n.strokes)
  else false
section
attribute [local go_sem] noteA_0 noteA_1 noteA_2 noteA_3 noteA_4 noteA_5 noteA_6 noteA_7 noteA_8 noteA_9 noteA_10 noteA_11 noteA_12 noteA_13 noteA_14 noteA_15 noteA_16 noteA_17 noteA_18
variable (f : FrV) (n : NoteV) (sa : Option Addr) (sc : Nat) (w : World)
end
end Go.Proofs.YtpjiakgfegnmcaaGreat
namespace Go.Proofs.YtpjiakgfegnmcaaGreat
set_option linter.unusedSimpArgs false

/-- Whether a note refers to another one. -/
def refersB (n : NoteV) : Bool := decide (n.kind = 2) || (decide (n.kind = 5) || decide (n.kind = 6))
def namedB (n : NoteV) : Bool := !decide (n.refH = 0 ∧ n.refN = 0)
/-- What the reference's wellFormed says. -/
def wellB (f : FrV) (n : NoteV) : Bool :=
  rightNameB n.house n.num && (inB n.clock 1 1099511627776 && (inB n.day 0 99999 && (!(refersB n != namedB n) && (!(refersB n && !rightNameB n.refH n.refN) &&
  (if n.kind = 6 then decide (n.fix = 0) && sameB (bareR 0 n) zeroN else if n.kind = 5 then rightB f n.fix n && sameB (bareR n.fix n) zeroN
   else decide (n.fix = 0) && (rightB f n.kind n && sameB (bareR n.kind n) zeroN))))))
theorem cell_or {f : FrV} (hv : f.valid = true) (x : Int) : (decide (x = -1) || cellB f x) = inB x (-1) (f.rings * f.sectors - 1) := by
  have hvf : 1 ≤ f.rings ∧ f.rings ≤ 24 ∧ 2 ≤ f.sectors ∧ f.sectors ≤ 96 ∧ 1 ≤ f.wide ∧ f.wide ≤ f.sectors := by
    simp only [FrV.valid, Bool.and_eq_true, inB_true] at hv
    omega
  have hm1 : 0 < f.rings * f.sectors := Int.mul_pos (by omega) (by omega)
  rw [Bool.eq_iff_iff]
  simp only [Bool.or_eq_true, decide_eq_true_eq, cellB, inB_true]
  omega
theorem zero14 (x : NoteV) : sameB x zeroN = decide (x.house = 0 ∧ x.num = 0 ∧ x.clock = 0 ∧ x.day = 0 ∧ x.kind = 0 ∧ x.stone = 0 ∧ x.heap = 0 ∧ x.turns = 0 ∧ x.hardLo = 0 ∧ x.hardHi = 0 ∧ x.diffLo = 0 ∧ x.diffHi = 0 ∧ x.a = 0 ∧ x.b = 0 ∧ x.ring = 0 ∧ x.refH = 0 ∧ x.refN = 0 ∧ x.fix = 0 ∧ x.strokes = []) := by
  obtain ⟨x0, x1, x2, x3, x4, x5, x6, x7, x8, x9, x10, x11, x12, x13, x14, x15, x16, x17, l⟩ := x
  simp only [sameB, nums14, zeroN]
  grind
theorem rightName_some {h m : Int} (e : rightNameB h m = true) : ¬ (h = 0 ∧ m = 0) := by
  simp only [rightNameB, Bool.and_eq_true, inB_true] at e
  omega
theorem formed_well {f : FrV} (hv : f.valid = true) (n : NoteV) : formedB f n = wellB f n := by
  have hc := cell_or hv
  have ha : cellB f n.a = inB n.a 0 (f.rings * f.sectors - 1) := rfl
  simp only [formedB, wellB, okB, zero14]
  have hn := @rightName_some n.refH n.refN
  by_cases h1 : n.kind = 1
  · simp [h1, bareN, leftN, saidN, bareR, bare0, saidB, rightB, refersB, namedB]
    grind
  by_cases h2 : n.kind = 2
  · simp [h2, bareN, leftN, saidN, bareR, bare0, saidB, rightB, refersB, namedB]
    grind
  by_cases h3 : n.kind = 3
  · simp [h3, bareN, leftN, saidN, bareR, bare0, saidB, rightB, refersB, namedB, ← hc]
    grind
  by_cases h4 : n.kind = 4
  · simp [h4, bareN, leftN, saidN, bareR, bare0, saidB, rightB, refersB, namedB]
    grind
  by_cases h6 : n.kind = 6
  · simp [h6, bareN, leftN, saidN, bareR, bare0, saidB, rightB, refersB, namedB]
    grind
  by_cases h5 : n.kind = 5
  · by_cases g1 : n.fix = 1
    · simp [h5, g1, bareN, leftN, saidN, bareR, bare0, saidB, rightB, refersB, namedB, inB]
      grind
    by_cases g2 : n.fix = 2
    · simp [h5, g2, bareN, leftN, saidN, bareR, bare0, saidB, rightB, refersB, namedB, inB]
      grind
    by_cases g3 : n.fix = 3
    · simp [h5, g3, bareN, leftN, saidN, bareR, bare0, saidB, rightB, refersB, namedB, ← hc, show inB 3 1 4 = true from rfl]
      grind
    by_cases g4 : n.fix = 4
    · simp [h5, g4, bareN, leftN, saidN, bareR, bare0, saidB, rightB, refersB, namedB, inB]
      grind
    have hf : inB n.fix 1 4 = false := by rw [← Bool.not_eq_true, inB_true]; omega
    simp [h5, g1, g2, g3, g4, rightB, hf]
  simp [h1, h2, h3, h4, h5, h6, saidB, rightB]
end Go.Proofs.YtpjiakgfegnmcaaGreat
namespace Go.Proofs.YtpjiakgfegnmcaaGreat
open Go.RowKit

/-- A block of bytes, from the base on. -/
def U8 (base : Nat) (w : World) (k : Nat) : Prop := base ≤ k ∧ ∃ cur sp, w.heap[k]? = some (.cells cur 5 sp)
/-- Blocks that were there are as they were, but for blocks of bytes from the base on. -/
structure AppB (base : Nat) (w w' : World) : Prop where
  os : w'.os = w.os
  tape : w'.tape = w.tape
  output : w'.output = w.output
  size : w.heap.size ≤ w'.heap.size
  block : ∀ k, k < w.heap.size → ¬ U8 base w k → w'.heap[k]? = w.heap[k]?
theorem AppB.refl (base : Nat) (w : World) : AppB base w w := ⟨rfl, rfl, rfl, Nat.le_refl _, fun _ _ _ => rfl⟩
theorem AppB.not {base : Nat} {w w' : World} (h : AppB base w w') {k : Nat} (hk : k < w.heap.size) (hn : ¬ U8 base w k) : ¬ U8 base w' k := by
  rintro ⟨h1, cur, sp, h2⟩
  exact hn ⟨h1, cur, sp, by rw [← h.block k hk hn]; exact h2⟩
theorem AppB.trans {base : Nat} {a b c : World} (h : AppB base a b) (k : AppB base b c) : AppB base a c :=
  ⟨k.os.trans h.os, k.tape.trans h.tape, k.output.trans h.output, Nat.le_trans h.size k.size, fun i hi hs => (k.block i (Nat.lt_of_lt_of_le hi h.size) (h.not hi hs)).trans (h.block i hi hs)⟩
theorem AppB.of_below {base : Nat} {w w' : World} (h : Below w.heap.size w w') : AppB base w w' := ⟨h.os, h.tape, h.output, h.size, fun k hk _ => h.block k hk⟩
theorem AppB.mono {base base' : Nat} {w w' : World} (h : AppB base' w w') (hb : base ≤ base') : AppB base w w' :=
  ⟨h.os, h.tape, h.output, h.size, fun k hk hn => h.block k hk (fun ⟨h1, h2⟩ => hn ⟨Nat.le_trans hb h1, h2⟩)⟩
theorem AppB.of_own {base : Nat} {w w' : World} {v : Value} {n : Nat} {xs : List Value} (ho : w.ownsRow base 5 1 v n xs) (hg : w.grownBy w' v.ownBlock) : AppB base w w' := by
  refine ⟨hg.os, hg.tape, hg.output, hg.size, fun k hk hn => hg.block k hk (fun e => hn ?_)⟩
  rcases ho.2 with ⟨rfl, _⟩ | ⟨g, cap, cur, rfl, h1, h2, _⟩
  · cases e
  · simp only [Value.ownBlock, Option.some.injEq] at e
    subst e
    exact ⟨h1, cur, _, h2⟩
theorem AppB.below {base : Nat} {w w' : World} (h : AppB base w w') (hb : base ≤ w.heap.size) : Below base w w' :=
  ⟨h.os, h.tape, h.output, h.size, fun k hk => h.block k (by omega) (fun ⟨h1, _⟩ => by omega)⟩
end Go.Proofs.YtpjiakgfegnmcaaGreat
namespace Go.Proofs.YtpjiakgfegnmcaaGreat
open Go.RowKit

/-- The slice of byte slices reads as the lists ls. -/
def RdBB (w : World) (a : Option Addr) (n c : Nat) (ls : List (List UInt8)) : Prop :=
  ∃ vs : List Value, RdA w 1 a n c vs ∧ ls.length = n ∧ ∀ i, i < n → ∃ ai ci, vs[i]? = some (.slice ai (ls[i]?.getD []).length ci) ∧ RdB w ai (ls[i]?.getD []).length ci (ls[i]?.getD [])

theorem RdBB.len {w : World} {a : Option Addr} {n c : Nat} {ls : List (List UInt8)} (h : RdBB w a n c ls) : ls.length = n := by obtain ⟨_, _, h, _⟩ := h; exact h
theorem RdBB.maxn {w : World} {a : Option Addr} {n c : Nat} {ls : List (List UInt8)} (h : RdBB w a n c ls) : n ≤ 9223372036854775807 := by obtain ⟨_, h, _⟩ := h; exact h.maxn
theorem RdBB.below {w w' : World} {a : Option Addr} {n c : Nat} {ls : List (List UInt8)} (h : RdBB w a n c ls) (hb : Below w.heap.size w w') : RdBB w' a n c ls := by
  obtain ⟨vs, h1, h2, h3⟩ := h
  refine ⟨vs, h1.below hb, h2, fun i hi => ?_⟩
  obtain ⟨ai, ci, h4, h5⟩ := h3 i hi
  exact ⟨ai, ci, h4, h5.below hb⟩
theorem RdBB.at {w : World} {a : Option Addr} {n c : Nat} {ls : List (List UInt8)} (h : RdBB w a n c ls) (hn : 0 < n) :
    ∃ b off, a = some ⟨b, off, none⟩ ∧ ∀ i, i < n → ∃ ai ci, w.cell? ⟨b, off + i, none⟩ = some (.slice ai (ls[i]?.getD []).length ci) ∧ RdB w ai (ls[i]?.getD []).length ci (ls[i]?.getD []) := by
  obtain ⟨vs, h1, h2, h3⟩ := h
  obtain ⟨b, off, rfl, h4⟩ := h1.at hn
  refine ⟨b, off, rfl, fun i hi => ?_⟩
  obtain ⟨ai, ci, h5, h6⟩ := h3 i hi
  exact ⟨ai, ci, h4 i _ h5, h6⟩
theorem RdBB.nil (w : World) : RdBB w none 0 0 [] := ⟨[], RdA.nil w 1, rfl, fun i hi => by omega⟩

theorem own_mono {w : World} {B base : Nat} {e : TypeId} {k : Nat} {v : Value} {n : Nat} {xs : List Value} (h : w.ownsRow base e k v n xs) (hB : B ≤ base) : w.ownsRow B e k v n xs := by
  refine ⟨h.1, ?_⟩
  rcases h.2 with h | ⟨g, cap, cur, h, hg, hr⟩
  · exact .inl h
  · exact .inr ⟨g, cap, cur, h, by omega, hr⟩
theorem own_below {w w' : World} {base : Nat} {e : TypeId} {k : Nat} {v : Value} {n : Nat} {xs : List Value} (h : w.ownsRow base e k v n xs) (hb : Below w.heap.size w w') : w'.ownsRow base e k v n xs := by
  refine ⟨h.1, ?_⟩
  rcases h.2 with h | ⟨g, cap, cur, h, hg, hgg, hr⟩
  · exact .inl h
  · exact .inr ⟨g, cap, cur, h, hg, (hb.block g (Array.getElem?_eq_some_iff.1 hgg).1).trans hgg, hr⟩

theorem RdB.of_own {w : World} {base : Nat} {e : TypeId} {a : Option Addr} {n c : Nat} {l : List UInt8} (h : w.ownsRow base e 1 (.slice a n c) n (l.map byteV)) : RdB w a n c l := RdA.of_own h

end Go.Proofs.YtpjiakgfegnmcaaGreat
namespace Go.Proofs.YtpjiakgfegnmcaaGreat
open Go.RowKit
section
attribute [local go_sem] noteA_0 noteA_1 noteA_2 noteA_3 noteA_4 noteA_5 noteA_6 noteA_7 noteA_8 noteA_9 noteA_10 noteA_11 noteA_12 noteA_13 noteA_14 noteA_15 noteA_16 noteA_17 noteA_18 noteA_s0 noteA_s1 noteA_s2 noteA_s3 noteA_s4 noteA_s5 noteA_s6 noteA_s7 noteA_s8 noteA_s9 noteA_s10 noteA_s11 noteA_s12 noteA_s13 noteA_s14 noteA_s15 noteA_s16 noteA_s17 noteA_s18
variable (f : FrV) (n : NoteV) (sa : Option Addr) (sc : Nat) (w : World)
set_option maxHeartbeats 20000000 in
set_option maxRecDepth 100000 in
theorem formed_o (hv : f.valid = true) (hs : RdI w sa n.strokes.length sc n.strokes) (k2 : n.kind ≠ 2) (k5 : n.kind ≠ 5) :
    Calls Tryz.prog 64 #[f.val, .agg (noteA n sa sc)] w fun e w' => e = .returned (.bool (formedB f n)) ∧ Below w.heap.size w w' := by
  have I43 := Lib.hid (show ∀ (m : NoteV) (a : Option Addr) (c : Nat), (Tryz.prog.info? 51).map (·.size) = some (noteA m a c).size from fun m a c => by kernel_rfl)
  have g1 := heap_at (w.alloc (.cells #[.int .i64 f.rings, .int .i64 f.sectors, .int .i64 f.wide] 85)) (.cells (noteA n sa sc) 51) (w.heap.size + 1) (by simp)
  have g0 := heap_before (w.alloc (.cells #[.int .i64 f.rings, .int .i64 f.sectors, .int .i64 f.wide] 85)) (.cells (noteA n sa sc) 51) _ _ (heap_at w (.cells #[.int .i64 f.rings, .int .i64 f.sectors, .int .i64 f.wide] 85) _ rfl)
  have bb : Below w.heap.size w ((w.alloc (.cells #[.int .i64 f.rings, .int .i64 f.sectors, .int .i64 f.wide] 85)).alloc (.cells (noteA n sa sc) 51)) := ((Below.refl _ _).alloc (Nat.le_refl _) _).alloc (by simp) _
  have G1 := Lib.hid g1; clear g1
  have G0 := Lib.hid g0; clear g0
  have BB := Lib.hid bb; clear bb
  go_enter Tryz.func64, Tryz.ntmps64
  unfold FrV.val
  go_wp2_with (refine wpList_load_row rfl 51 _ rfl (w.heap.size + 1) rfl 51 (noteA n sa sc) (0, 0) _ G1.out Tryz.underlying51 rfl (I43.out _ _ _) ?_)
  refine (said_any f n sa sc _ hv (hs.below BB.out) n.kind).mono ?_
  rintro e w1 ⟨ta, tc, rfl, hrd, b1⟩
  have SR := Lib.hid hrd; clear hrd
  have l1 := (Array.getElem?_eq_some_iff.1 G1.out).1
  have z1 := b1.size
  have L1 : Loc3 w (w1.alloc (.cells (noteA (saidN n.kind n) ta tc) 51)) w.heap.size (w.heap.size + 1) w1.heap.size f n sa sc (noteA (saidN n.kind n) ta tc) :=
    ⟨heap_before _ _ _ _ ((b1.block _ (by omega)).trans G0.out), heap_before _ _ _ _ ((b1.block _ (by omega)).trans G1.out), heap_last _ _, (BB.out.trans (b1.mono BB.out.size)).alloc (by omega) _, by omega⟩
  have LL1 := Lib.hid L1; clear L1 l1 z1 b1
  have one1 := noteA_one (saidN n.kind n) ta tc
  have k4 := note_cells LL1.out.e1 4 _ rfl
  simp only [Nat.zero_add] at k4
  have q2 : (n.kind == 2) = false := by simp [k2]
  have q2' : decide (n.kind = 2) = false := by simp [k2]
  have q5 : (n.kind == 5) = false := by simp [k5]
  have q5' : decide (n.kind = 5) = false := by simp [k5]
  have hkind : n.kind ≠ 2 ∧ n.kind ≠ 5 := ⟨k2, k5⟩
  have HK := Lib.hid hkind; clear hkind k2 k5
  go_upto_region 11 with (refine wpList_store_newp w1 rfl 51 _ _ rfl w1.heap.size rfl _ (noteA (saidN n.kind n) ta tc) rfl rfl (I43.out _ _ _) rfl one1 ?_)
  generalize hW2 : w1.alloc (.cells (noteA (saidN n.kind n) ta tc) 51) = W2 at *
  generalize hp0 : w.heap.size = p0 at *
  generalize hp1 : p0 + 1 = p1 at *
  generalize hp2 : w1.heap.size = p2 at *
  have RDb := Lib.hid (show ∀ W', Below p0 w W' → RdI W' ta (saidN n.kind n).strokes.length tc (saidN n.kind n).strokes from fun W' h => said_rd SR.out (hs.below (by rw [hp0]; exact h)))
  have HP0 := Lib.hid hp0; clear hp0 hp1 hp2 hW2 G0 G1 BB SR k4
  have j0 := note_cells LL1.out.e2 0 _ rfl
  simp only [Nat.zero_add] at j0
  have z0 := note_frozen LL1.out.e2 0
  have j1 := note_cells LL1.out.e2 1 _ rfl
  simp only [Nat.zero_add] at j1
  have z1 := note_frozen LL1.out.e2 1
  have j2 := note_cells LL1.out.e2 2 _ rfl
  simp only [Nat.zero_add] at j2
  have z2 := note_frozen LL1.out.e2 2
  have j3 := note_cells LL1.out.e2 3 _ rfl
  simp only [Nat.zero_add] at j3
  have z3 := note_frozen LL1.out.e2 3
  have j4 := note_cells LL1.out.e2 4 _ rfl
  simp only [Nat.zero_add] at j4
  have z4 := note_frozen LL1.out.e2 4
  obtain ⟨N9, HN9⟩ : ∃ N9 : NoteV, Hid (N9 = { saidN n.kind n with house := 0, num := 0, clock := 0, day := 0, kind := 0 }) := ⟨_, Lib.hid rfl⟩
  go_upto_region 12 with fail
  generalize hW : (((((W2.setCell ⟨p2, 0, none⟩ (.int .i64 0)).setCell ⟨p2, 1, none⟩ (.int .i64 0)).setCell ⟨p2, 2, none⟩ (.int .i64 0)).setCell ⟨p2, 3, none⟩ (.int .i64 0)).setCell ⟨p2, 4, none⟩ (.int .i64 0)) = Wf1 at *
  have Lf2 := Lib.hid (show Loc3 w Wf1 p0 p1 p2 f n sa sc (noteA N9 ta tc) from by rw [HN9.out, ← hW]; exact (((((LL1.out.set 0 (.int .i64 0)).set 1 (.int .i64 0)).set 2 (.int .i64 0)).set 3 (.int .i64 0)).set 4 (.int .i64 0)))
  have RDf3 := Lib.hid (show RdI Wf1 ta N9.strokes.length tc N9.strokes from by rw [HN9.out]; exact RDb.out _ Lf2.out.b)
  clear hW
  clear j0 z0 j1 z1 j2 z2 j3 z3 j4 z4
  cases hok : saidB f n.kind n
  · have hR : formedB f n = false := by simp only [formedB, okB, if_neg HK.out.1, if_neg HK.out.2]; simp [HK.out, hok]
    have HRX := Lib.hid hR; clear hR
    go_wp2_with fail
    go_ret
    rw [HRX.out]
    exact ⟨rfl, by rw [HP0.out]; exact Lf2.out.b⟩
  · go_wp2_with (first
      | (refine wpList_load_row rfl 51 _ rfl p1 rfl 51 (noteA n sa sc) (0, 0) _ Lf2.out.e1 Tryz.underlying51 rfl (I43.out _ _ _) ?_)
      | (refine wpList_load_rowG ?hw 51 _ rfl p1 rfl 51 (noteA n sa sc) (0, 0) _ Lf2.out.e1 Tryz.underlying51 rfl (I43.out _ _ _) ?_; case hw => rfl))
    refine (nameOf_any n sa sc _).mono ?_
    rintro e wn4 ⟨rfl, b2⟩
    have LN6 := Lib.hid (Lf2.out.below b2)
    have RD3 := Lib.hid (RDf3.out.below b2)
    clear b2
    go_wp2_with fail
    refine (rightName_any n.house n.num _).mono ?_
    rintro e wr5 ⟨rfl, b2⟩
    have LR7 := Lib.hid (LN6.out.below b2)
    have RD4 := Lib.hid (RD3.out.below b2)
    clear b2 RD3
    cases hrn : rightNameB n.house n.num
    · have hR : formedB f n = false := by simp only [formedB, okB, if_neg HK.out.1, if_neg HK.out.2]; simp [HK.out, hok, hrn]
      have HRX := Lib.hid hR; clear hR
      go_wp2_with fail
      go_ret
      rw [HRX.out]
      exact ⟨rfl, by rw [HP0.out]; exact LR7.out.b⟩
    · have HRN := Lib.hid hrn
      have k2 := note_cells LR7.out.e1 2 _ rfl
      simp only [Nat.zero_add] at k2
      have k3 := note_cells LR7.out.e1 3 _ rfl
      simp only [Nat.zero_add] at k3
      go_wp2_with fail
      refine (hin_any n.clock 1 1099511627776 _).mono ?_
      rintro e w' ⟨rfl, rfl⟩
      cases hcl : inB n.clock 1 1099511627776
      · have hR : formedB f n = false := by simp only [formedB, okB, if_neg HK.out.1, if_neg HK.out.2]; simp [HK.out, hok, hrn, hcl]
        have HRX := Lib.hid hR; clear hR
        go_wp2_with fail
        go_ret
        rw [HRX.out]
        exact ⟨rfl, by rw [HP0.out]; exact LR7.out.b⟩
      · have HCL := Lib.hid hcl
        go_wp2_with fail
        refine (hin_any n.day 0 99999 _).mono ?_
        rintro e w' ⟨rfl, rfl⟩
        cases hda : inB n.day 0 99999
        · have hR : formedB f n = false := by simp only [formedB, okB, if_neg HK.out.1, if_neg HK.out.2]; simp [HK.out, hok, hrn, hcl, hda]
          have HRX := Lib.hid hR; clear hR
          go_wp2_with fail
          go_ret
          rw [HRX.out]
          exact ⟨rfl, by rw [HP0.out]; exact LR7.out.b⟩
        · have HDA := Lib.hid hda
          go_wp2_with (first
            | (refine wpList_load_row rfl 51 _ rfl p2 rfl 51 (noteA N9 ta tc) (0, 0) _ LR7.out.e2 Tryz.underlying51 rfl (I43.out _ _ _) ?_)
            | (refine wpList_load_rowG ?hw 51 _ rfl p2 rfl 51 (noteA N9 ta tc) (0, 0) _ LR7.out.e2 Tryz.underlying51 rfl (I43.out _ _ _) ?_; case hw => rfl))
          refine (same_any N9 zeroN ta tc none 0 _ RD4.out (RdA.nil _ 1)).mono ?_
          rintro e ws ⟨rfl, b2⟩
          have hR : formedB f n = sameB (bareN n) zeroN := by simp only [formedB, okB, if_neg HK.out.1, if_neg HK.out.2]; simp [HK.out, hok, hrn, hcl, hda]
          have hN : bareN n = N9 := by rw [HN9.out]; unfold bareN leftN; rw [if_neg HK.out.1, if_neg HK.out.2]
          have HRX := Lib.hid hR; clear hR
          have HNX := Lib.hid hN; clear hN
          go_wp2_with fail
          go_ret
          rw [HRX.out, HNX.out]
          exact ⟨rfl, by rw [HP0.out]; exact (LR7.out.below b2).b⟩
set_option maxHeartbeats 20000000 in
set_option maxRecDepth 100000 in
theorem formed_2 (hv : f.valid = true) (hs : RdI w sa n.strokes.length sc n.strokes) (k2 : n.kind = 2) :
    Calls Tryz.prog 64 #[f.val, .agg (noteA n sa sc)] w fun e w' => e = .returned (.bool (formedB f n)) ∧ Below w.heap.size w w' := by
  have HK := Lib.hid k2; clear k2
  have I43 := Lib.hid (show ∀ (m : NoteV) (a : Option Addr) (c : Nat), (Tryz.prog.info? 51).map (·.size) = some (noteA m a c).size from fun m a c => by kernel_rfl)
  have g1 := heap_at (w.alloc (.cells #[.int .i64 f.rings, .int .i64 f.sectors, .int .i64 f.wide] 85)) (.cells (noteA n sa sc) 51) (w.heap.size + 1) (by simp)
  have g0 := heap_before (w.alloc (.cells #[.int .i64 f.rings, .int .i64 f.sectors, .int .i64 f.wide] 85)) (.cells (noteA n sa sc) 51) _ _ (heap_at w (.cells #[.int .i64 f.rings, .int .i64 f.sectors, .int .i64 f.wide] 85) _ rfl)
  have bb : Below w.heap.size w ((w.alloc (.cells #[.int .i64 f.rings, .int .i64 f.sectors, .int .i64 f.wide] 85)).alloc (.cells (noteA n sa sc) 51)) := ((Below.refl _ _).alloc (Nat.le_refl _) _).alloc (by simp) _
  have G1 := Lib.hid g1; clear g1
  have G0 := Lib.hid g0; clear g0
  have BB := Lib.hid bb; clear bb
  go_enter Tryz.func64, Tryz.ntmps64
  unfold FrV.val
  go_wp2_with (refine wpList_load_row rfl 51 _ rfl (w.heap.size + 1) rfl 51 (noteA n sa sc) (0, 0) _ G1.out Tryz.underlying51 rfl (I43.out _ _ _) ?_)
  refine (said_any f n sa sc _ hv (hs.below BB.out) n.kind).mono ?_
  rintro e w1 ⟨ta, tc, rfl, hrd, b1⟩
  have SR := Lib.hid hrd; clear hrd
  have l1 := (Array.getElem?_eq_some_iff.1 G1.out).1
  have z1 := b1.size
  have L1 : Loc3 w (w1.alloc (.cells (noteA (saidN n.kind n) ta tc) 51)) w.heap.size (w.heap.size + 1) w1.heap.size f n sa sc (noteA (saidN n.kind n) ta tc) :=
    ⟨heap_before _ _ _ _ ((b1.block _ (by omega)).trans G0.out), heap_before _ _ _ _ ((b1.block _ (by omega)).trans G1.out), heap_last _ _, (BB.out.trans (b1.mono BB.out.size)).alloc (by omega) _, by omega⟩
  have LL1 := Lib.hid L1; clear L1 l1 z1 b1
  have one1 := noteA_one (saidN n.kind n) ta tc
  have k4 : (w1.alloc (.cells (noteA (saidN n.kind n) ta tc) 51)).cell? ⟨w.heap.size + 1, 4, none⟩ = some (.int .i64 2) := by
    have h := note_cells LL1.out.e1 4 _ rfl
    simp only [Nat.zero_add] at h
    rw [h]
    exact congrArg (fun z => some (Value.int .i64 z)) HK.out
  go_upto_region 4 with (refine wpList_store_newp w1 rfl 51 _ _ rfl w1.heap.size rfl _ (noteA (saidN n.kind n) ta tc) rfl rfl (I43.out _ _ _) rfl one1 ?_)
  generalize hW2 : w1.alloc (.cells (noteA (saidN n.kind n) ta tc) 51) = W2 at *
  generalize hp0 : w.heap.size = p0 at *
  generalize hp1 : p0 + 1 = p1 at *
  generalize hp2 : w1.heap.size = p2 at *
  have RDb := Lib.hid (show ∀ W', Below p0 w W' → RdI W' ta (saidN n.kind n).strokes.length tc (saidN n.kind n).strokes from fun W' h => said_rd SR.out (hs.below (by rw [hp0]; exact h)))
  have HP0 := Lib.hid hp0; clear hp0 hp1 hp2 hW2 G0 G1 BB SR k4
  generalize hm : saidN n.kind n = m at *
  have HM := Lib.hid hm; clear hm
  have j16 := note_cells LL1.out.e2 16 _ rfl
  simp only [Nat.zero_add] at j16
  have z16 := note_frozen LL1.out.e2 16
  have j17 := note_cells LL1.out.e2 17 _ rfl
  simp only [Nat.zero_add] at j17
  have z17 := note_frozen LL1.out.e2 17
  go_upto_region 5 with fail
  generalize hW : ((W2.setCell ⟨p2, 16, none⟩ (.int .i64 0)).setCell ⟨p2, 17, none⟩ (.int .i64 0)) = W3 at *
  have L3 := Lib.hid (show Loc3 w W3 p0 p1 p2 f n sa sc (noteA { m with refH := 0, refN := 0 } ta tc) from by rw [← hW]; exact ((LL1.out.set 16 (.int .i64 0)).set 17 (.int .i64 0)))
  clear hW j16 z16 j17 z17
  cases hok0 : saidB f n.kind n
  · go_upto_region 11 with fail
    have j0 := note_cells L3.out.e2 0 _ rfl
    simp only [Nat.zero_add] at j0
    have z0 := note_frozen L3.out.e2 0
    have j1 := note_cells L3.out.e2 1 _ rfl
    simp only [Nat.zero_add] at j1
    have z1 := note_frozen L3.out.e2 1
    have j2 := note_cells L3.out.e2 2 _ rfl
    simp only [Nat.zero_add] at j2
    have z2 := note_frozen L3.out.e2 2
    have j3 := note_cells L3.out.e2 3 _ rfl
    simp only [Nat.zero_add] at j3
    have z3 := note_frozen L3.out.e2 3
    have j4 := note_cells L3.out.e2 4 _ rfl
    simp only [Nat.zero_add] at j4
    have z4 := note_frozen L3.out.e2 4
    obtain ⟨N9, HN9⟩ : ∃ N9 : NoteV, Hid (N9 = { { m with refH := 0, refN := 0 } with house := 0, num := 0, clock := 0, day := 0, kind := 0 }) := ⟨_, Lib.hid rfl⟩
    go_upto_region 12 with fail
    generalize hW : (((((W3.setCell ⟨p2, 0, none⟩ (.int .i64 0)).setCell ⟨p2, 1, none⟩ (.int .i64 0)).setCell ⟨p2, 2, none⟩ (.int .i64 0)).setCell ⟨p2, 3, none⟩ (.int .i64 0)).setCell ⟨p2, 4, none⟩ (.int .i64 0)) = Wf8 at *
    have Lf9 := Lib.hid (show Loc3 w Wf8 p0 p1 p2 f n sa sc (noteA N9 ta tc) from by rw [HN9.out, ← hW]; exact (((((L3.out.set 0 (.int .i64 0)).set 1 (.int .i64 0)).set 2 (.int .i64 0)).set 3 (.int .i64 0)).set 4 (.int .i64 0)))
    have RDf10 := Lib.hid (show RdI Wf8 ta N9.strokes.length tc N9.strokes from by rw [HN9.out]; exact RDb.out _ Lf9.out.b)
    clear hW
    clear j0 z0 j1 z1 j2 z2 j3 z3 j4 z4
    have hR : formedB f n = false := by simp only [formedB, okB, if_pos HK.out]; simp [hok0]
    have HRX := Lib.hid hR; clear hR
    go_wp2_with fail
    go_ret
    rw [HRX.out]
    exact ⟨rfl, by rw [HP0.out]; exact Lf9.out.b⟩
  · have HO0 := Lib.hid hok0
    have k16 := note_cells L3.out.e1 16 _ rfl
    simp only [Nat.zero_add] at k16
    have k17 := note_cells L3.out.e1 17 _ rfl
    simp only [Nat.zero_add] at k17
    go_wp2_with fail
    refine (rightName_any n.refH n.refN _).mono ?_
    rintro e W4 ⟨rfl, b2⟩
    have L4 := Lib.hid (L3.out.below b2)
    clear b2 k16 k17
    go_upto_region 11 with fail
    have j0 := note_cells L4.out.e2 0 _ rfl
    simp only [Nat.zero_add] at j0
    have z0 := note_frozen L4.out.e2 0
    have j1 := note_cells L4.out.e2 1 _ rfl
    simp only [Nat.zero_add] at j1
    have z1 := note_frozen L4.out.e2 1
    have j2 := note_cells L4.out.e2 2 _ rfl
    simp only [Nat.zero_add] at j2
    have z2 := note_frozen L4.out.e2 2
    have j3 := note_cells L4.out.e2 3 _ rfl
    simp only [Nat.zero_add] at j3
    have z3 := note_frozen L4.out.e2 3
    have j4 := note_cells L4.out.e2 4 _ rfl
    simp only [Nat.zero_add] at j4
    have z4 := note_frozen L4.out.e2 4
    obtain ⟨N9, HN9⟩ : ∃ N9 : NoteV, Hid (N9 = { { m with refH := 0, refN := 0 } with house := 0, num := 0, clock := 0, day := 0, kind := 0 }) := ⟨_, Lib.hid rfl⟩
    go_upto_region 12 with fail
    generalize hW : (((((W4.setCell ⟨p2, 0, none⟩ (.int .i64 0)).setCell ⟨p2, 1, none⟩ (.int .i64 0)).setCell ⟨p2, 2, none⟩ (.int .i64 0)).setCell ⟨p2, 3, none⟩ (.int .i64 0)).setCell ⟨p2, 4, none⟩ (.int .i64 0)) = Wf11 at *
    have Lf12 := Lib.hid (show Loc3 w Wf11 p0 p1 p2 f n sa sc (noteA N9 ta tc) from by rw [HN9.out, ← hW]; exact (((((L4.out.set 0 (.int .i64 0)).set 1 (.int .i64 0)).set 2 (.int .i64 0)).set 3 (.int .i64 0)).set 4 (.int .i64 0)))
    have RDf13 := Lib.hid (show RdI Wf11 ta N9.strokes.length tc N9.strokes from by rw [HN9.out]; exact RDb.out _ Lf12.out.b)
    clear hW
    clear j0 z0 j1 z1 j2 z2 j3 z3 j4 z4
    cases hok : rightNameB n.refH n.refN
    · have hR : formedB f n = false := by simp only [formedB, okB, if_pos HK.out]; simp [hok0, hok]
      have HRX := Lib.hid hR; clear hR
      go_wp2_with fail
      go_ret
      rw [HRX.out]
      exact ⟨rfl, by rw [HP0.out]; exact Lf12.out.b⟩
    · go_wp2_with (first
        | (refine wpList_load_row rfl 51 _ rfl p1 rfl 51 (noteA n sa sc) (0, 0) _ Lf12.out.e1 Tryz.underlying51 rfl (I43.out _ _ _) ?_)
        | (refine wpList_load_rowG ?hw 51 _ rfl p1 rfl 51 (noteA n sa sc) (0, 0) _ Lf12.out.e1 Tryz.underlying51 rfl (I43.out _ _ _) ?_; case hw => rfl))
      refine (nameOf_any n sa sc _).mono ?_
      rintro e wn14 ⟨rfl, b2⟩
      have LN16 := Lib.hid (Lf12.out.below b2)
      have RD3 := Lib.hid (RDf13.out.below b2)
      clear b2
      go_wp2_with fail
      refine (rightName_any n.house n.num _).mono ?_
      rintro e wr15 ⟨rfl, b2⟩
      have LR17 := Lib.hid (LN16.out.below b2)
      have RD4 := Lib.hid (RD3.out.below b2)
      clear b2 RD3
      cases hrn : rightNameB n.house n.num
      · have hR : formedB f n = false := by simp only [formedB, okB, if_pos HK.out]; simp [hok0, hok, hrn]
        have HRX := Lib.hid hR; clear hR
        go_wp2_with fail
        go_ret
        rw [HRX.out]
        exact ⟨rfl, by rw [HP0.out]; exact LR17.out.b⟩
      · have HRN := Lib.hid hrn
        have k2 := note_cells LR17.out.e1 2 _ rfl
        simp only [Nat.zero_add] at k2
        have k3 := note_cells LR17.out.e1 3 _ rfl
        simp only [Nat.zero_add] at k3
        go_wp2_with fail
        refine (hin_any n.clock 1 1099511627776 _).mono ?_
        rintro e w' ⟨rfl, rfl⟩
        cases hcl : inB n.clock 1 1099511627776
        · have hR : formedB f n = false := by simp only [formedB, okB, if_pos HK.out]; simp [hok0, hok, hrn, hcl]
          have HRX := Lib.hid hR; clear hR
          go_wp2_with fail
          go_ret
          rw [HRX.out]
          exact ⟨rfl, by rw [HP0.out]; exact LR17.out.b⟩
        · have HCL := Lib.hid hcl
          go_wp2_with fail
          refine (hin_any n.day 0 99999 _).mono ?_
          rintro e w' ⟨rfl, rfl⟩
          cases hda : inB n.day 0 99999
          · have hR : formedB f n = false := by simp only [formedB, okB, if_pos HK.out]; simp [hok0, hok, hrn, hcl, hda]
            have HRX := Lib.hid hR; clear hR
            go_wp2_with fail
            go_ret
            rw [HRX.out]
            exact ⟨rfl, by rw [HP0.out]; exact LR17.out.b⟩
          · have HDA := Lib.hid hda
            go_wp2_with (first
              | (refine wpList_load_row rfl 51 _ rfl p2 rfl 51 (noteA N9 ta tc) (0, 0) _ LR17.out.e2 Tryz.underlying51 rfl (I43.out _ _ _) ?_)
              | (refine wpList_load_rowG ?hw 51 _ rfl p2 rfl 51 (noteA N9 ta tc) (0, 0) _ LR17.out.e2 Tryz.underlying51 rfl (I43.out _ _ _) ?_; case hw => rfl))
            refine (same_any N9 zeroN ta tc none 0 _ RD4.out (RdA.nil _ 1)).mono ?_
            rintro e ws ⟨rfl, b2⟩
            have hR : formedB f n = sameB (bareN n) zeroN := by simp only [formedB, okB, if_pos HK.out]; simp [hok0, hok, hrn, hcl, hda]
            have hN : bareN n = N9 := by rw [HN9.out]; unfold bareN leftN; rw [if_pos HK.out, HM.out]
            have HRX := Lib.hid hR; clear hR
            have HNX := Lib.hid hN; clear hN
            go_wp2_with fail
            go_ret
            rw [HRX.out, HNX.out]
            exact ⟨rfl, by rw [HP0.out]; exact (LR17.out.below b2).b⟩
set_option maxHeartbeats 20000000 in
set_option maxRecDepth 100000 in
theorem formed_5 (hv : f.valid = true) (hs : RdI w sa n.strokes.length sc n.strokes) (k2 : n.kind = 5) :
    Calls Tryz.prog 64 #[f.val, .agg (noteA n sa sc)] w fun e w' => e = .returned (.bool (formedB f n)) ∧ Below w.heap.size w w' := by
  have HK := Lib.hid k2; clear k2
  have I43 := Lib.hid (show ∀ (m : NoteV) (a : Option Addr) (c : Nat), (Tryz.prog.info? 51).map (·.size) = some (noteA m a c).size from fun m a c => by kernel_rfl)
  have g1 := heap_at (w.alloc (.cells #[.int .i64 f.rings, .int .i64 f.sectors, .int .i64 f.wide] 85)) (.cells (noteA n sa sc) 51) (w.heap.size + 1) (by simp)
  have g0 := heap_before (w.alloc (.cells #[.int .i64 f.rings, .int .i64 f.sectors, .int .i64 f.wide] 85)) (.cells (noteA n sa sc) 51) _ _ (heap_at w (.cells #[.int .i64 f.rings, .int .i64 f.sectors, .int .i64 f.wide] 85) _ rfl)
  have bb : Below w.heap.size w ((w.alloc (.cells #[.int .i64 f.rings, .int .i64 f.sectors, .int .i64 f.wide] 85)).alloc (.cells (noteA n sa sc) 51)) := ((Below.refl _ _).alloc (Nat.le_refl _) _).alloc (by simp) _
  have G1 := Lib.hid g1; clear g1
  have G0 := Lib.hid g0; clear g0
  have BB := Lib.hid bb; clear bb
  go_enter Tryz.func64, Tryz.ntmps64
  unfold FrV.val
  go_wp2_with (refine wpList_load_row rfl 51 _ rfl (w.heap.size + 1) rfl 51 (noteA n sa sc) (0, 0) _ G1.out Tryz.underlying51 rfl (I43.out _ _ _) ?_)
  refine (said_any f n sa sc _ hv (hs.below BB.out) n.kind).mono ?_
  rintro e w1 ⟨ta, tc, rfl, hrd, b1⟩
  have SR := Lib.hid hrd; clear hrd
  have l1 := (Array.getElem?_eq_some_iff.1 G1.out).1
  have z1 := b1.size
  have L1 : Loc3 w (w1.alloc (.cells (noteA (saidN n.kind n) ta tc) 51)) w.heap.size (w.heap.size + 1) w1.heap.size f n sa sc (noteA (saidN n.kind n) ta tc) :=
    ⟨heap_before _ _ _ _ ((b1.block _ (by omega)).trans G0.out), heap_before _ _ _ _ ((b1.block _ (by omega)).trans G1.out), heap_last _ _, (BB.out.trans (b1.mono BB.out.size)).alloc (by omega) _, by omega⟩
  have LL1 := Lib.hid L1; clear L1 l1 z1 b1
  have one1 := noteA_one (saidN n.kind n) ta tc
  have k4 : (w1.alloc (.cells (noteA (saidN n.kind n) ta tc) 51)).cell? ⟨w.heap.size + 1, 4, none⟩ = some (.int .i64 5) := by
    have h := note_cells LL1.out.e1 4 _ rfl
    simp only [Nat.zero_add] at h
    rw [h]
    exact congrArg (fun z => some (Value.int .i64 z)) HK.out
  go_upto_region 7 with (refine wpList_store_newp w1 rfl 51 _ _ rfl w1.heap.size rfl _ (noteA (saidN n.kind n) ta tc) rfl rfl (I43.out _ _ _) rfl one1 ?_)
  generalize hW2 : w1.alloc (.cells (noteA (saidN n.kind n) ta tc) 51) = W2 at *
  generalize hp0 : w.heap.size = p0 at *
  generalize hp1 : p0 + 1 = p1 at *
  generalize hp2 : w1.heap.size = p2 at *
  have RDb := Lib.hid (show ∀ W', Below p0 w W' → RdI W' ta (saidN n.kind n).strokes.length tc (saidN n.kind n).strokes from fun W' h => said_rd SR.out (hs.below (by rw [hp0]; exact h)))
  have HP0 := Lib.hid hp0; clear hp0 hp1 hp2 hW2 G0 G1 BB SR k4
  generalize hm : saidN n.kind n = m at *
  have HM := Lib.hid hm; clear hm
  have k18 := note_cells LL1.out.e1 18 _ rfl
  simp only [Nat.zero_add] at k18
  have c0 : W2.cell? ⟨p0, 0, none⟩ = some (.int .i64 f.rings) := by simp [World.cell?, LL1.out.e0]
  have c1 : W2.cell? ⟨p0, 1, none⟩ = some (.int .i64 f.sectors) := by simp [World.cell?, LL1.out.e0]
  have c2 : W2.cell? ⟨p0, 2, none⟩ = some (.int .i64 f.wide) := by simp [World.cell?, LL1.out.e0]
  go_wp2_with (refine wpList_load_row rfl 51 _ rfl p2 rfl 51 (noteA m ta tc) (0, 0) _ LL1.out.e2 Tryz.underlying51 rfl (I43.out _ _ _) ?_)
  refine (said_any f m ta tc _ hv (RDb.out _ LL1.out.b) n.fix).mono ?_
  rintro e w3 ⟨ua, uc, rfl, hrd, b3⟩
  have RDc := Lib.hid (show ∀ W', Below p0 w W' → RdI W' ua (saidN n.fix m).strokes.length uc (saidN n.fix m).strokes from fun W' h => said_rd hrd (RDb.out W' h))
  clear hrd k18 c0 c1 c2
  generalize hm2 : saidN n.fix m = m2 at *
  have HM2 := Lib.hid hm2; clear hm2
  have L3 := Lib.hid (LL1.out.below b3)
  clear b3
  have one2 := noteA_one m2 ua uc
  have g2 := heap_before w3 (.cells (noteA m2 ua uc) 51) _ _ L3.out.e2
  have G2 := Lib.hid g2; clear g2
  go_upto_region 9 with (first
    | (refine wpList_store_newp w3 rfl 51 _ _ rfl w3.heap.size rfl _ (noteA m2 ua uc) rfl rfl (I43.out _ _ _) rfl one2 ?_)
    | (refine wpList_load_row rfl 51 _ rfl w3.heap.size rfl 51 (noteA m2 ua uc) (0, 0) _ (heap_last _ _) Tryz.underlying51 rfl (I43.out _ _ _) ?_)
    | (refine wpList_store_rowN rfl 51 _ _ rfl p2 (noteA m ta tc) (noteA m2 ua uc) 51 rfl rfl G2.out (I43.out _ _ _) rfl one2 ?_))
  have L4 := Lib.hid ((L3.out.alloc (.cells (noteA m2 ua uc) 51)).setRow (noteA m2 ua uc))
  generalize (w3.alloc (.cells (noteA m2 ua uc) 51)).setRow p2 (noteA m2 ua uc) = W4 at *
  clear G2
  cases hok0 : saidB f n.kind n
  · go_upto_region 10 with fail
    have j18 := note_cells L4.out.e2 18 _ rfl
    simp only [Nat.zero_add] at j18
    have z18 := note_frozen L4.out.e2 18
    go_upto_region 11 with fail
    generalize hW : (W4.setCell ⟨p2, 18, none⟩ (.int .i64 0)) = W5 at *
    have L5 := Lib.hid (show Loc3 w W5 p0 p1 p2 f n sa sc (noteA { m2 with fix := 0 } ua uc) from by rw [← hW]; exact (L4.out.set 18 (.int .i64 0)))
    clear hW j18 z18
    have j0 := note_cells L5.out.e2 0 _ rfl
    simp only [Nat.zero_add] at j0
    have z0 := note_frozen L5.out.e2 0
    have j1 := note_cells L5.out.e2 1 _ rfl
    simp only [Nat.zero_add] at j1
    have z1 := note_frozen L5.out.e2 1
    have j2 := note_cells L5.out.e2 2 _ rfl
    simp only [Nat.zero_add] at j2
    have z2 := note_frozen L5.out.e2 2
    have j3 := note_cells L5.out.e2 3 _ rfl
    simp only [Nat.zero_add] at j3
    have z3 := note_frozen L5.out.e2 3
    have j4 := note_cells L5.out.e2 4 _ rfl
    simp only [Nat.zero_add] at j4
    have z4 := note_frozen L5.out.e2 4
    obtain ⟨N9, HN9⟩ : ∃ N9 : NoteV, Hid (N9 = { { m2 with fix := 0 } with house := 0, num := 0, clock := 0, day := 0, kind := 0 }) := ⟨_, Lib.hid rfl⟩
    go_upto_region 12 with fail
    generalize hW : (((((W5.setCell ⟨p2, 0, none⟩ (.int .i64 0)).setCell ⟨p2, 1, none⟩ (.int .i64 0)).setCell ⟨p2, 2, none⟩ (.int .i64 0)).setCell ⟨p2, 3, none⟩ (.int .i64 0)).setCell ⟨p2, 4, none⟩ (.int .i64 0)) = Wf18 at *
    have Lf19 := Lib.hid (show Loc3 w Wf18 p0 p1 p2 f n sa sc (noteA N9 ua uc) from by rw [HN9.out, ← hW]; exact (((((L5.out.set 0 (.int .i64 0)).set 1 (.int .i64 0)).set 2 (.int .i64 0)).set 3 (.int .i64 0)).set 4 (.int .i64 0)))
    have RDf20 := Lib.hid (show RdI Wf18 ua N9.strokes.length uc N9.strokes from by rw [HN9.out]; exact RDc.out _ Lf19.out.b)
    clear hW
    clear j0 z0 j1 z1 j2 z2 j3 z3 j4 z4
    have hR : formedB f n = false := by simp only [formedB, okB, if_neg (show ¬ n.kind = 2 by rw [HK.out]; decide), if_pos HK.out]; simp [hok0]
    have HRX := Lib.hid hR; clear hR
    go_wp2_with fail
    go_ret
    rw [HRX.out]
    exact ⟨rfl, by rw [HP0.out]; exact Lf19.out.b⟩
  · have HO0 := Lib.hid hok0
    cases hfi : saidB f n.fix m
    · go_upto_region 10 with fail
      have j18 := note_cells L4.out.e2 18 _ rfl
      simp only [Nat.zero_add] at j18
      have z18 := note_frozen L4.out.e2 18
      go_upto_region 11 with fail
      generalize hW : (W4.setCell ⟨p2, 18, none⟩ (.int .i64 0)) = W5 at *
      have L5 := Lib.hid (show Loc3 w W5 p0 p1 p2 f n sa sc (noteA { m2 with fix := 0 } ua uc) from by rw [← hW]; exact (L4.out.set 18 (.int .i64 0)))
      clear hW j18 z18
      have j0 := note_cells L5.out.e2 0 _ rfl
      simp only [Nat.zero_add] at j0
      have z0 := note_frozen L5.out.e2 0
      have j1 := note_cells L5.out.e2 1 _ rfl
      simp only [Nat.zero_add] at j1
      have z1 := note_frozen L5.out.e2 1
      have j2 := note_cells L5.out.e2 2 _ rfl
      simp only [Nat.zero_add] at j2
      have z2 := note_frozen L5.out.e2 2
      have j3 := note_cells L5.out.e2 3 _ rfl
      simp only [Nat.zero_add] at j3
      have z3 := note_frozen L5.out.e2 3
      have j4 := note_cells L5.out.e2 4 _ rfl
      simp only [Nat.zero_add] at j4
      have z4 := note_frozen L5.out.e2 4
      obtain ⟨N9, HN9⟩ : ∃ N9 : NoteV, Hid (N9 = { { m2 with fix := 0 } with house := 0, num := 0, clock := 0, day := 0, kind := 0 }) := ⟨_, Lib.hid rfl⟩
      go_upto_region 12 with fail
      generalize hW : (((((W5.setCell ⟨p2, 0, none⟩ (.int .i64 0)).setCell ⟨p2, 1, none⟩ (.int .i64 0)).setCell ⟨p2, 2, none⟩ (.int .i64 0)).setCell ⟨p2, 3, none⟩ (.int .i64 0)).setCell ⟨p2, 4, none⟩ (.int .i64 0)) = Wf21 at *
      have Lf22 := Lib.hid (show Loc3 w Wf21 p0 p1 p2 f n sa sc (noteA N9 ua uc) from by rw [HN9.out, ← hW]; exact (((((L5.out.set 0 (.int .i64 0)).set 1 (.int .i64 0)).set 2 (.int .i64 0)).set 3 (.int .i64 0)).set 4 (.int .i64 0)))
      have RDf23 := Lib.hid (show RdI Wf21 ua N9.strokes.length uc N9.strokes from by rw [HN9.out]; exact RDc.out _ Lf22.out.b)
      clear hW
      clear j0 z0 j1 z1 j2 z2 j3 z3 j4 z4
      have hR : formedB f n = false := by simp only [formedB, okB, if_neg (show ¬ n.kind = 2 by rw [HK.out]; decide), if_pos HK.out]; simp [hok0, HM.out, hfi]
      have HRX := Lib.hid hR; clear hR
      go_wp2_with fail
      go_ret
      rw [HRX.out]
      exact ⟨rfl, by rw [HP0.out]; exact Lf22.out.b⟩
    · have HFI := Lib.hid hfi
      have k18 := note_cells L4.out.e1 18 _ rfl
      simp only [Nat.zero_add] at k18
      go_wp2_with fail
      refine (hin_any n.fix 1 4 _).mono ?_
      rintro e W6 ⟨rfl, rfl⟩
      clear k18
      go_upto_region 10 with fail
      have j18 := note_cells L4.out.e2 18 _ rfl
      simp only [Nat.zero_add] at j18
      have z18 := note_frozen L4.out.e2 18
      go_upto_region 11 with fail
      generalize hW : (W4.setCell ⟨p2, 18, none⟩ (.int .i64 0)) = W5 at *
      have L5 := Lib.hid (show Loc3 w W5 p0 p1 p2 f n sa sc (noteA { m2 with fix := 0 } ua uc) from by rw [← hW]; exact (L4.out.set 18 (.int .i64 0)))
      clear hW j18 z18
      have j0 := note_cells L5.out.e2 0 _ rfl
      simp only [Nat.zero_add] at j0
      have z0 := note_frozen L5.out.e2 0
      have j1 := note_cells L5.out.e2 1 _ rfl
      simp only [Nat.zero_add] at j1
      have z1 := note_frozen L5.out.e2 1
      have j2 := note_cells L5.out.e2 2 _ rfl
      simp only [Nat.zero_add] at j2
      have z2 := note_frozen L5.out.e2 2
      have j3 := note_cells L5.out.e2 3 _ rfl
      simp only [Nat.zero_add] at j3
      have z3 := note_frozen L5.out.e2 3
      have j4 := note_cells L5.out.e2 4 _ rfl
      simp only [Nat.zero_add] at j4
      have z4 := note_frozen L5.out.e2 4
      obtain ⟨N9, HN9⟩ : ∃ N9 : NoteV, Hid (N9 = { { m2 with fix := 0 } with house := 0, num := 0, clock := 0, day := 0, kind := 0 }) := ⟨_, Lib.hid rfl⟩
      go_upto_region 12 with fail
      generalize hW : (((((W5.setCell ⟨p2, 0, none⟩ (.int .i64 0)).setCell ⟨p2, 1, none⟩ (.int .i64 0)).setCell ⟨p2, 2, none⟩ (.int .i64 0)).setCell ⟨p2, 3, none⟩ (.int .i64 0)).setCell ⟨p2, 4, none⟩ (.int .i64 0)) = Wf24 at *
      have Lf25 := Lib.hid (show Loc3 w Wf24 p0 p1 p2 f n sa sc (noteA N9 ua uc) from by rw [HN9.out, ← hW]; exact (((((L5.out.set 0 (.int .i64 0)).set 1 (.int .i64 0)).set 2 (.int .i64 0)).set 3 (.int .i64 0)).set 4 (.int .i64 0)))
      have RDf26 := Lib.hid (show RdI Wf24 ua N9.strokes.length uc N9.strokes from by rw [HN9.out]; exact RDc.out _ Lf25.out.b)
      clear hW
      clear j0 z0 j1 z1 j2 z2 j3 z3 j4 z4
      cases hok : inB n.fix 1 4
      · have hR : formedB f n = false := by simp only [formedB, okB, if_neg (show ¬ n.kind = 2 by rw [HK.out]; decide), if_pos HK.out]; simp [hok0, HM.out, hfi, hok]
        have HRX := Lib.hid hR; clear hR
        go_wp2_with fail
        go_ret
        rw [HRX.out]
        exact ⟨rfl, by rw [HP0.out]; exact Lf25.out.b⟩
      · go_wp2_with (first
          | (refine wpList_load_row rfl 51 _ rfl p1 rfl 51 (noteA n sa sc) (0, 0) _ Lf25.out.e1 Tryz.underlying51 rfl (I43.out _ _ _) ?_)
          | (refine wpList_load_rowG ?hw 51 _ rfl p1 rfl 51 (noteA n sa sc) (0, 0) _ Lf25.out.e1 Tryz.underlying51 rfl (I43.out _ _ _) ?_; case hw => rfl))
        refine (nameOf_any n sa sc _).mono ?_
        rintro e wn27 ⟨rfl, b2⟩
        have LN29 := Lib.hid (Lf25.out.below b2)
        have RD3 := Lib.hid (RDf26.out.below b2)
        clear b2
        go_wp2_with fail
        refine (rightName_any n.house n.num _).mono ?_
        rintro e wr28 ⟨rfl, b2⟩
        have LR30 := Lib.hid (LN29.out.below b2)
        have RD4 := Lib.hid (RD3.out.below b2)
        clear b2 RD3
        cases hrn : rightNameB n.house n.num
        · have hR : formedB f n = false := by simp only [formedB, okB, if_neg (show ¬ n.kind = 2 by rw [HK.out]; decide), if_pos HK.out]; simp [hok0, HM.out, hfi, hok, hrn]
          have HRX := Lib.hid hR; clear hR
          go_wp2_with fail
          go_ret
          rw [HRX.out]
          exact ⟨rfl, by rw [HP0.out]; exact LR30.out.b⟩
        · have HRN := Lib.hid hrn
          have k2 := note_cells LR30.out.e1 2 _ rfl
          simp only [Nat.zero_add] at k2
          have k3 := note_cells LR30.out.e1 3 _ rfl
          simp only [Nat.zero_add] at k3
          go_wp2_with fail
          refine (hin_any n.clock 1 1099511627776 _).mono ?_
          rintro e w' ⟨rfl, rfl⟩
          cases hcl : inB n.clock 1 1099511627776
          · have hR : formedB f n = false := by simp only [formedB, okB, if_neg (show ¬ n.kind = 2 by rw [HK.out]; decide), if_pos HK.out]; simp [hok0, HM.out, hfi, hok, hrn, hcl]
            have HRX := Lib.hid hR; clear hR
            go_wp2_with fail
            go_ret
            rw [HRX.out]
            exact ⟨rfl, by rw [HP0.out]; exact LR30.out.b⟩
          · have HCL := Lib.hid hcl
            go_wp2_with fail
            refine (hin_any n.day 0 99999 _).mono ?_
            rintro e w' ⟨rfl, rfl⟩
            cases hda : inB n.day 0 99999
            · have hR : formedB f n = false := by simp only [formedB, okB, if_neg (show ¬ n.kind = 2 by rw [HK.out]; decide), if_pos HK.out]; simp [hok0, HM.out, hfi, hok, hrn, hcl, hda]
              have HRX := Lib.hid hR; clear hR
              go_wp2_with fail
              go_ret
              rw [HRX.out]
              exact ⟨rfl, by rw [HP0.out]; exact LR30.out.b⟩
            · have HDA := Lib.hid hda
              go_wp2_with (first
                | (refine wpList_load_row rfl 51 _ rfl p2 rfl 51 (noteA N9 ua uc) (0, 0) _ LR30.out.e2 Tryz.underlying51 rfl (I43.out _ _ _) ?_)
                | (refine wpList_load_rowG ?hw 51 _ rfl p2 rfl 51 (noteA N9 ua uc) (0, 0) _ LR30.out.e2 Tryz.underlying51 rfl (I43.out _ _ _) ?_; case hw => rfl))
              refine (same_any N9 zeroN ua uc none 0 _ RD4.out (RdA.nil _ 1)).mono ?_
              rintro e ws ⟨rfl, b2⟩
              have hR : formedB f n = sameB (bareN n) zeroN := by simp only [formedB, okB, if_neg (show ¬ n.kind = 2 by rw [HK.out]; decide), if_pos HK.out]; simp [hok0, HM.out, hfi, hok, hrn, hcl, hda]
              have hN : bareN n = N9 := by rw [HN9.out]; unfold bareN leftN; rw [if_neg (show ¬ n.kind = 2 by rw [HK.out]; decide), if_pos HK.out, HM.out, HM2.out]
              have HRX := Lib.hid hR; clear hR
              have HNX := Lib.hid hN; clear hN
              go_wp2_with fail
              go_ret
              rw [HRX.out, HNX.out]
              exact ⟨rfl, by rw [HP0.out]; exact (LR30.out.below b2).b⟩
end
theorem formed_any (f : FrV) (n : NoteV) (sa : Option Addr) (sc : Nat) (w : World) (hv : f.valid = true) (hs : RdI w sa n.strokes.length sc n.strokes) :
    Calls Tryz.prog 64 #[f.val, .agg (noteA n sa sc)] w fun e w' => e = .returned (.bool (formedB f n)) ∧ Below w.heap.size w w' := by
  by_cases k2 : n.kind = 2
  · exact formed_2 f n sa sc w hv hs k2
  · by_cases k5 : n.kind = 5
    · exact formed_5 f n sa sc w hv hs k5
    · exact formed_o f n sa sc w hv hs k2 k5
end Go.Proofs.YtpjiakgfegnmcaaGreat
namespace Go.Proofs.YtpjiakgfegnmcaaGreat
open Go.RowKit

theorem cell_of {W : World} {p : Nat} {A : Array Value} {t : TypeId} {sp : Nat × Nat} (h : W.heap[p]? = some (.cells A t sp)) (j : Nat) (v : Value) (hv : A[j]? = some v) : W.cell? ⟨p, j, none⟩ = some v := by
  simp [World.cell?, h, hv]
section
variable (n : NoteV) (sa : Option Addr) (sc : Nat) (w : World)
end
end Go.Proofs.YtpjiakgfegnmcaaGreat
namespace Go.Proofs.YtpjiakgfegnmcaaGreat
open Go.RowKit

/-- The loop's own two blocks lie as they must between two rounds: the record says state st and pending jump pe. -/
def LoopAt (rec : LoopState → Option Code → Loop) (D : Nat) (st : LoopState) (pe : Option Code) (W : World) : Prop :=
  W.heap[D + 1]? = some (.loop (rec st pe)) ∧ W.heap[D]? = some (.deferred (some []))

theorem LoopAt.kept {rec : LoopState → Option Code → Loop} {D : Nat} {st : LoopState} {pe : Option Code} {W W' : World} (h : LoopAt rec D st pe W) (hk : KeepsFrom D W W') : LoopAt rec D st pe W' :=
  ⟨hk.same _ _ (by omega) h.1 rfl, hk.same _ _ (Nat.le_refl _) h.2 rfl⟩

/-- How a round may be left: where it goes on, B; by a jump c, X c. -/
def roundEnd (D : Nat) (B : World → Prop) (X : Code → World → Prop) (W : World) : Exit → Act → World → Prop
  | .normal, _, W' => KeepsFrom D W W' ∧ B W'
  | .ret, _, W' => KeepsFrom D W W' ∧ X .ret W'
  | .exit id, _, W' => KeepsFrom D W W' ∧ X (.exit id) W'
  | .goto t, _, W' => KeepsFrom D W W' ∧ X (.goto t) W'
  | .panic _, _, _ => False
  | .outgrown, _, _ => False

end Go.Proofs.YtpjiakgfegnmcaaGreat
namespace Go.Proofs.YtpjiakgfegnmcaaGreat
open Go.RowKit
attribute [local go_sem] Oper.semAt_some

/-- Blocks that were there are as they were, but for those of S. -/
structure Same (S : Nat → Prop) (W W' : World) : Prop where
  os : W'.os = W.os
  tape : W'.tape = W.tape
  output : W'.output = W.output
  size : W.heap.size ≤ W'.heap.size
  block : ∀ k, k < W.heap.size → ¬ S k → W'.heap[k]? = W.heap[k]?

theorem Same.of_below {S : Nat → Prop} {W W' : World} (h : Below W.heap.size W W') : Same S W W' := ⟨h.os, h.tape, h.output, h.size, fun k hk _ => h.block k hk⟩
theorem Same.of_grown {S : Nat → Prop} {W W' : World} {row : Option Nat} (h : W.grownBy W' row) (hr : ∀ k, row = some k → S k) : Same S W W' :=
  ⟨h.os, h.tape, h.output, h.size, fun k hk hs => h.block k hk (fun e => hs (hr k e.symm))⟩
theorem Same.trans {S : Nat → Prop} {A B C : World} (h : Same S A B) (k : Same S B C) : Same S A C :=
  ⟨k.os.trans h.os, k.tape.trans h.tape, k.output.trans h.output, Nat.le_trans h.size k.size, fun i hi hs => (k.block i (Nat.lt_of_lt_of_le hi h.size) hs).trans (h.block i hi hs)⟩
theorem Same.below {S : Nat → Prop} {B : Nat} {A W W' : World} (h : Same S W W') (hb : Below B A W) (hB : B ≤ W.heap.size) (hs : ∀ k, S k → B ≤ k) : Below B A W' :=
  hb.trans ⟨h.os, h.tape, h.output, h.size, fun k hk => h.block k (by omega) (fun e => by have := hs k e; omega)⟩

/-- A block of one cell. -/
def Box (W : World) (b : Nat) (t : TypeId) (v : Value) : Prop := W.heap[b]? = some (.cells #[v] t (0, 0))
theorem Box.cell {W : World} {b : Nat} {t : TypeId} {v : Value} (h : Box W b t v) : W.cell? ⟨b, 0, none⟩ = some v := cell_of_one h
theorem Box.free {W : World} {b : Nat} {t : TypeId} {v : Value} (h : Box W b t v) : W.frozen? ⟨b, 0, none⟩ = false := free_of_one h
theorem Box.same {S : Nat → Prop} {W W' : World} {b : Nat} {t : TypeId} {v : Value} (h : Box W b t v) (hs : Same S W W') (hn : ¬ S b) : Box W' b t v :=
  (hs.block b (Array.getElem?_eq_some_iff.1 h).1 hn).trans h

theorem Box.new (W : World) (t : TypeId) (v : Value) {b : Nat} (hb : b = W.heap.size) : Box (W.alloc (.cells #[v] t)) b t v := by subst hb; exact heap_alloc_new W _
theorem Box.alloc {W : World} {b : Nat} {t : TypeId} {v : Value} (h : Box W b t v) (o : Obj) : Box (W.alloc o) b t v := h.same (Same.of_below (S := fun _ => False) ((Below.refl _ _).alloc (Nat.le_refl _) o)) id
theorem Box.set {W : World} {b : Nat} {t : TypeId} {v : Value} (h : Box W b t v) (u : Value) : Box (W.setCell ⟨b, 0, none⟩ u) b t u := one_setCell h
theorem Same.setCell {S : Nat → Prop} {W : World} {b : Nat} (u : Value) (h : S b) : Same S W (W.setCell ⟨b, 0, none⟩ u) := Same.of_grown (grownBy_setCell' W b u) (fun k e => by cases e; exact h)

theorem LoopAt.below {rec : LoopState → Option Code → Loop} {D : Nat} {st : LoopState} {pe : Option Code} {W W' : World} (h : LoopAt rec D st pe W) (hb : Below W.heap.size W W') : LoopAt rec D st pe W' :=
  ⟨(hb.block _ (Array.getElem?_eq_some_iff.1 h.1).1).trans h.1, (hb.block _ (Array.getElem?_eq_some_iff.1 h.2).1).trans h.2⟩

end Go.Proofs.YtpjiakgfegnmcaaGreat
namespace Go.Proofs.YtpjiakgfegnmcaaGreat
open Go.RowKit

theorem frozen_of {W : World} {p : Nat} {A : Array Value} {t : TypeId} (h : W.heap[p]? = some (.cells A t (0, 0))) (j : Nat) : W.frozen? ⟨p, j, none⟩ = false := by
  simp [World.frozen?, h]
end Go.Proofs.YtpjiakgfegnmcaaGreat
namespace Go.Proofs.YtpjiakgfegnmcaaGreat
open Go.RowKit

end Go.Proofs.YtpjiakgfegnmcaaGreat
namespace Go.Proofs.YtpjiakgfegnmcaaGreat
open Go.RowKit
section
variable {wf W W' : World} {rp nb B : Nat} {m : NoteV} {sa : Option Addr} {sc : Nat} {t : List UInt8} {a : Option Addr} {n c : Nat}
end
theorem infoInt : (Tryz.prog.info? 3).map (fun i => (i.zero, i.size, i.bytes)) = some (some (.int .i64 0), 1, 8) := by kernel_rfl
section
attribute [local go_sem] noteA_0 noteA_1 noteA_2 noteA_3 noteA_4 noteA_5 noteA_6 noteA_7 noteA_8 noteA_9 noteA_10 noteA_11 noteA_12 noteA_13 noteA_14 noteA_15 noteA_16 noteA_17 noteA_18
end
end Go.Proofs.YtpjiakgfegnmcaaGreat
namespace Go.Proofs.YtpjiakgfegnmcaaGreat
open Go.RowKit

section
variable {W W' : World} {rp : Nat} {l : List UInt8} {a : Option Addr} {n c at_ : Nat} {bad : Bool}
theorem Same.refl (S : Nat → Prop) (W : World) : Same S W W := ⟨rfl, rfl, rfl, Nat.le_refl _, fun _ _ _ => rfl⟩
end
end Go.Proofs.YtpjiakgfegnmcaaGreat
namespace Go.Proofs.YtpjiakgfegnmcaaGreat
open Go.RowKit

/-- append of ints to ints of the call's own. -/
theorem app_ints (w : World) {ops : Array Oper} {rest : List Oper} {o : Oper} {a : Act} {Q : Exit → Act → World → Prop} (hgd : o.guard = none) (s x : Operand)
    (ho : o.op = .call { callee := .builtin .append, args := #[s, x], argTypes := #[38, 38] }) (base : Nat)
    (sa : Option Addr) (sn sc : Nat) (xs : List Int) (hs : a.eval s = .slice sa sn sc) (hown : w.ownsRow base 3 1 (.slice sa sn sc) sn (xs.map intV))
    (xa : Option Addr) (m xc : Nat) (ys : List Int) (hx : a.eval x = .slice xa m xc) (hrd : RdI w xa m xc ys) (hbytes : (sn + m) * 8 ≤ 140737488355328) (hbase : base ≤ w.heap.size)
    (h : ∀ a' c' w', w'.ownsRow base 3 1 (.slice a' (sn + m) c') (sn + m) ((xs ++ ys).map intV) → w.grownBy w' (Value.ownBlock (.slice sa sn sc)) → wpList Tryz.prog ops Q rest (a.put o.dst (.slice a' (sn + m) c')) w') :
    wpList Tryz.prog ops Q (o :: rest) a w := by
  obtain ⟨i, hi, hz0, hz1, hz2⟩ := info_parts infoInt
  exact wpList_append_rd w hgd s x 38 ho base 3 i (.int .i64 0) 1 8 Tryz.underlying38 hi hz0 hz1 hz2 rfl (by decide) sa sn sc _ hs hown xa m xc _ hx hrd (intV_one _) (by unfold maxLen; omega) hbytes hbase
    (fun a' c' w' h1 h2 => h a' c' w' (by rw [List.map_append]; exact h1) h2)
end Go.Proofs.YtpjiakgfegnmcaaGreat
namespace Go.Proofs.YtpjiakgfegnmcaaGreat
open Go.RowKit

/-- Where the slice lies behind an append: where it lay, or at the heap's end. -/
theorem run_append_loc {P : Program} (w : World) (base : Nat) (t ty e : TypeId) (i : TypeInfo) (z : Value) (size bytes : Nat) (ht : P.underlying t = some (.slice e)) (hi : P.info? e = some i) (hz : i.zero = some z)
    (hsize : i.size = size) (hby : i.bytes = bytes)
    (sa : Option Addr) (sn sc : Nat) (xs : List Value) (hown : w.ownsRow base e size (.slice sa sn sc) sn xs)
    (xa : Option Addr) (m xc : Nat) (ys : List Value) (hrd : RdA w size xa m xc ys) (h1 : ∀ u ∈ ys, u.oneCell' = true)
    (h63 : sn + m ≤ maxLen) (hbytes : (sn + m) * bytes ≤ 140737488355328) (v : Value) (w' : World) (hr : (Builtin.append_ #[t, t] ty #[.slice sa sn sc, .slice xa m xc]).run P w = .ok v w') :
    (∃ n' c', v = .slice sa n' c') ∨ ∃ n' c', v = .slice (some ⟨w.heap.size, 0, none⟩) n' c' := by
  subst hsize
  subst hby
  have hsmall : ((sn + m : Nat) : Int) ≤ 9223372036854775807 := by simp only [maxLen] at h63; omega
  have hkind : (xa = none ∧ m = 0 ∧ xc = 0) ∨ ∃ ad, xa = some ad ∧ ∀ j u, ys[j]? = some u → w.cell? (ad.add j) = some u := by
    rcases hrd.2.2.2 with rfl | ⟨b, off, rfl, h4⟩
    · have hm : m = 0 := by have := hrd.2.1; omega
      subst hm
      have hy : ys = [] := List.eq_nil_of_length_eq_zero (by simpa using hrd.1)
      cases xa with
      | none => exact .inl ⟨rfl, rfl, rfl⟩
      | some ad => exact .inr ⟨ad, rfl, fun j u hu => by rw [hy] at hu; simp at hu⟩
    · exact .inr ⟨_, rfl, fun j u hu => by rw [Addr.add_lit]; exact h4 j u hu⟩
  rcases hkind with ⟨rfl, rfl, rfl⟩ | ⟨ad, rfl, hnews⟩
  · rw [run_append_owned_none (P := P) (w := w) base t ty e i i.size ht hi _ sn xs hown] at hr
    cases hr
    exact .inl ⟨_, _, rfl⟩
  · rcases hown.2 with ⟨h2, rfl⟩ | ⟨g, cap, cur, h2, hbg, hg, hnc, hcm, hcs, htake⟩
    · simp only [Value.slice.injEq] at h2
      obtain ⟨rfl, _, rfl⟩ := h2
      by_cases hm : m = 0
      · subst hm
        have hy : ys = [] := List.eq_nil_of_length_eq_zero (by simpa using hrd.1)
        have hr' : (Builtin.append_ #[t, t] ty #[.slice none 0 0, .slice (some ad) 0 xc]).run P w = .ok (.slice none 0 0) w := by
          simp [Builtin.append_, run_underlying ht, sizeOf, typeInfo, hi, Builtin.lenOf, Builtin.firstCells, loadCells, loadCellsFrom]
        rw [hr'] at hr
        cases hr
        exact .inl ⟨_, _, rfl⟩
      · rw [run_append_nil (P := P) w t ty e i z ht hi hz ad m xc ys hrd.1 hnews (by omega) (by omega) (by have hb := hbytes; simp only [Nat.zero_add] at hb; omega)] at hr
        cases hr
        exact .inr ⟨_, _, rfl⟩
    · simp only [Value.slice.injEq] at h2
      obtain ⟨rfl, _, rfl⟩ := h2
      by_cases hroom : sn + m ≤ sc
      · have hfit : sn * i.size + ys.length ≤ cur.size := by rw [hrd.1, hcs, ← Nat.add_mul]; exact Nat.mul_le_mul_right _ hroom
        rw [run_append_room (P := P) w t ty e i ht hi g sn sc cur hg ad m xc ys hrd.1 hnews h1 hroom hfit] at hr
        cases hr
        exact .inl ⟨_, _, rfl⟩
      · have holds : ∀ j u, xs[j]? = some u → w.cell? ((⟨g, 0, none⟩ : Addr).add j) = some u := hown.cells (g := g) rfl
        rw [run_append_grow (P := P) w t ty e i z ht hi hz ⟨g, 0, none⟩ sn sc xs hown.1 holds ad m xc ys hrd.1 hnews (by omega) hsmall (growslice_fits (by omega) hbytes)] at hr
        cases hr
        exact .inr ⟨_, _, rfl⟩

theorem own_keep {S : Nat → Prop} {W W' : World} {base : Nat} {e : TypeId} {k : Nat} {v : Value} {n : Nat} {xs : List Value} (h : W.ownsRow base e k v n xs) (hs : Same S W W')
    (hd : ∀ b, v.ownBlock = some b → ¬ S b) : W'.ownsRow base e k v n xs := by
  refine ⟨h.1, ?_⟩
  rcases h.2 with h | ⟨g, cap, cur, rfl, hg, hgg, hr⟩
  · exact .inl h
  · exact .inr ⟨g, cap, cur, rfl, hg, (hs.block g (Array.getElem?_eq_some_iff.1 hgg).1 (hd g rfl)).trans hgg, hr⟩

end Go.Proofs.YtpjiakgfegnmcaaGreat
namespace Go.Proofs.YtpjiakgfegnmcaaGreat
open Go.RowKit

theorem RdB.lit (w : World) (l : List UInt8) (hl : l.length ≤ 1000000) : RdB (w.alloc (.cells (l.map byteV).toArray 5)) (some ⟨w.heap.size, 0, none⟩) l.length l.length l := by
  have h := World.ownsRow_lit (base := w.heap.size) (e := 5) (size := 1) w (l.map byteV).toArray l.length (Nat.le_refl _) (by unfold maxLen; omega) (by simp)
  exact RdA.of_own h

end Go.Proofs.YtpjiakgfegnmcaaGreat
namespace Go.Proofs.YtpjiakgfegnmcaaGreat
open Go.RowKit
section
attribute [local go_sem] noteA_0
end
end Go.Proofs.YtpjiakgfegnmcaaGreat
namespace Go.Proofs.YtpjiakgfegnmcaaGreat
set_option linter.unusedSimpArgs false
open Go.RowKit
/-- Both notes lie in their blocks, and nothing below has turned. -/
structure TwoN (w W : World) (p q : Nat) (x : NoteV) (sa : Option Addr) (sc : Nat) (ta : Option Addr) (tc : Nat) : Prop where
  e1 : W.heap[p]? = some (.cells (noteA x sa sc) 51 (0, 0))
  e2 : W.heap[q]? = some (.cells (noteA x ta tc) 51 (0, 0))
  b : Below p w W
  lt : p < q
theorem TwoN.below {w W W' : World} {p q : Nat} {x : NoteV} {sa ta : Option Addr} {sc tc : Nat} (h : TwoN w W p q x sa sc ta tc) (hb : Below W.heap.size W W') : TwoN w W' p q x sa sc ta tc := by
  have g : ∀ {k : Nat} {o : Obj}, W.heap[k]? = some o → W'.heap[k]? = some o := fun {k o} hk => (hb.block k (Array.getElem?_eq_some_iff.1 hk).1).trans hk
  have h0 := (Array.getElem?_eq_some_iff.1 h.e1).1
  exact ⟨g h.e1, g h.e2, h.b.trans (hb.mono (by omega)), h.lt⟩
theorem yields_row {P : Program} {ops : Array Oper} {S : World → Prop} {op : Oper} {a : Act} (hw : Region.wanted op (yielded ops a.tmps) = true) (ty : TypeId) (x : Operand) (ho : op.op = .load ty x)
    (b : Nat) (hx : a.eval x = .pointer (some ⟨b, 0, none⟩)) (cs : Array Value) (t : TypeId) (fr : Nat × Nat) (d : TypeDesc) (hS : ∀ w, S w → w.heap[b]? = some (.cells cs t fr))
    (hu : P.underlying ty = some d) (hd : (match d with | .struct _ | .array _ _ => true | _ => false) = true) (hi : (P.info? ty).map (·.size) = some cs.size) : YieldsIf P ops S op (.agg cs) a :=
  .inl ⟨hw, fun w hw' => by
    unfold execOp
    simp only [ho, hx, Instr.loadAt, Instr.sureAddr, Sem.run_bind, Sem.run_pure, Result.andThen_ok, run_loadVar_row w b t ty cs fr d (hS w hw') hu hd hi]⟩
section
attribute [local go_sem] noteA_0
end
end Go.Proofs.YtpjiakgfegnmcaaGreat
namespace Go.Proofs.YtpjiakgfegnmcaaGreat
set_option linter.unusedSimpArgs false
open Go.RowKit

/-- As cmp.Compare. -/
def cmpI (x y : Int) : Int := if x < y then -1 else if y < x then 1 else 0
def orI (x y : Int) : Int := if x = 0 then y else x
def namesC (h m h' m' : Int) : Int := orI (cmpI h h') (cmpI m m')
def knownC (x y : NoteV) : Int := orI (cmpI x.clock y.clock) (namesC x.house x.num y.house y.num)
def whenC (x y : NoteV) : Int := orI (cmpI x.day y.day) (knownC x y)
def doneB (n : NoteV) : Bool := inB n.kind 1 4
def judgesB (x r : NoteV) : Bool := decide (x.kind = 6) || (decide (x.kind = 5) && (!decide (x.fix = 2) || decide (r.kind = 2)))
theorem isNaN_any (x : Int) (w : World) : Calls Tryz.prog 118 #[.int .i64 x] w fun e w' => e = .returned (.bool false) ∧ w' = w := by
  have h : (x != x) = false := by simp
  go_enter Tryz.func118, Tryz.ntmps118
  go_wp2_with fail
  go_ret
  exact ⟨rfl, rfl⟩
theorem compare_any (x y : Int) (w : World) : Calls Tryz.prog 95 #[.int .i64 x, .int .i64 y] w fun e w' => e = .returned (.int .i64 (cmpI x y)) ∧ w' = w := by
  have K : ∀ {v : Int}, cmpI x y = v → Hid (cmpI x y = v) := fun h => Lib.hid h
  by_cases h1 : x < y
  · have HK := K (if_pos h1)
    have t1 : decide (x < y) = true := by simp [h1]
    go_enter Tryz.func95, Tryz.ntmps95
    go_wp2_with fail
    refine (isNaN_any x w).mono ?_
    rintro e w1 ⟨rfl, rfl⟩
    go_wp2_with fail
    refine (isNaN_any y _).mono ?_
    rintro e w1 ⟨rfl, rfl⟩
    go_wp2_with fail
    go_ret
    rw [HK.out]
    exact ⟨rfl, rfl⟩
  · have t1 : decide (x < y) = false := by simp; omega
    by_cases h2 : y < x
    · have HK := K ((if_neg h1).trans (if_pos h2))
      have t2 : decide (y < x) = true := by simp [h2]
      go_enter Tryz.func95, Tryz.ntmps95
      go_wp2_with fail
      refine (isNaN_any x w).mono ?_
      rintro e w1 ⟨rfl, rfl⟩
      go_wp2_with fail
      refine (isNaN_any y _).mono ?_
      rintro e w1 ⟨rfl, rfl⟩
      go_wp2_with fail
      go_ret
      rw [HK.out]
      exact ⟨rfl, rfl⟩
    · have HK := K ((if_neg h1).trans (if_neg h2))
      have t2 : decide (y < x) = false := by simp; omega
      go_enter Tryz.func95, Tryz.ntmps95
      go_wp2_with fail
      refine (isNaN_any x w).mono ?_
      rintro e w1 ⟨rfl, rfl⟩
      go_wp2_with fail
      refine (isNaN_any y _).mono ?_
      rintro e w1 ⟨rfl, rfl⟩
      go_wp2_with fail
      go_ret
      rw [HK.out]
      exact ⟨rfl, rfl⟩
set_option maxHeartbeats 2000000 in
theorem or_two (b : Nat) (x y : Int) (w : World) (h : w.heap[b]? = some (.cells #[.int .i64 x, .int .i64 y] 3 (0, 0))) : Calls Tryz.prog 94 #[.slice (some ⟨b, 0, none⟩) 2 2] w fun e w' => e = .returned (.int .i64 (orI x y)) ∧ w' = w := by
  have c0 : w.cell? ⟨b, 0, none⟩ = some (.int .i64 x) := cell_of h 0 _ rfl
  have c1 : w.cell? ⟨b, 1, none⟩ = some (.int .i64 y) := cell_of h 1 _ rfl
  go_enter Tryz.func94, Tryz.ntmps94
  go_wp2_with fail
  go_loopw [5, 8] (fun _ i wr => ((i = .int .i64 0) ∨ (i = .int .i64 1 ∧ Hid (x = 0)) ∨ (i = .int .i64 2 ∧ Hid (x = 0 ∧ y = 0))) ∧ Hid (w = wr)) (fun _ i _ => 2 - (intOf i).toNat)
  case atStart => exact ⟨.inl rfl, Lib.hid rfl⟩
  case round =>
    obtain ⟨hr, HE⟩ := hrel
    have := HE.out
    subst this
    rcases hr with rfl | ⟨rfl, hx⟩ | ⟨rfl, hx⟩
    · by_cases h0 : x = 0
      · have t0 : (x != 0) = false := by simp [h0]
        have H0 := Lib.hid h0; clear h0
        go_wp2_with fail
        go_roundw
        case rel => exact ⟨.inr (.inl ⟨rfl, H0⟩), Lib.hid (by trivial)⟩
        case measure => simp [intOf]
      · have t0 : (x != 0) = true := by simp [h0]
        have H0 := Lib.hid (show orI x y = x from if_neg h0); clear h0
        go_wp2_with fail
        go_ret
        rw [H0.out]
        exact ⟨rfl, rfl⟩
    · by_cases h0 : y = 0
      · have t0 : (y != 0) = false := by simp [h0]
        have H0 := Lib.hid (show x = 0 ∧ y = 0 from ⟨hx.out, h0⟩); clear h0
        go_wp2_with fail
        go_roundw
        case rel => exact ⟨.inr (.inr ⟨rfl, H0⟩), Lib.hid (by trivial)⟩
        case measure => simp [intOf]
      · have t0 : (y != 0) = true := by simp [h0]
        have H0 := Lib.hid (show orI x y = y from if_pos hx.out); clear h0
        go_wp2_with fail
        go_ret
        rw [H0.out]
        exact ⟨rfl, rfl⟩
    · have H0 := Lib.hid (show orI x y = 0 by rw [orI, if_pos hx.out.1]; exact hx.out.2)
      go_wp2_with fail
      go_ret
      rw [H0.out]
      exact ⟨rfl, rfl⟩
end Go.Proofs.YtpjiakgfegnmcaaGreat
namespace Go.Proofs.YtpjiakgfegnmcaaGreat
set_option linter.unusedSimpArgs false
open Go.RowKit

/-- Two boxes, and nothing below has turned. -/
structure TwoC (w W : World) (p q : Nat) (A B : Array Value) (t : TypeId) : Prop where
  e1 : W.heap[p]? = some (.cells A t (0, 0))
  e2 : W.heap[q]? = some (.cells B t (0, 0))
  b : Below p w W
  lt : p < q
theorem TwoC.below {w W W' : World} {p q : Nat} {A B : Array Value} {t : TypeId} (h : TwoC w W p q A B t) (hb : Below W.heap.size W W') : TwoC w W' p q A B t := by
  have g : ∀ {k : Nat} {o : Obj}, W.heap[k]? = some o → W'.heap[k]? = some o := fun {k o} hk => (hb.block k (Array.getElem?_eq_some_iff.1 hk).1).trans hk
  have h0 := (Array.getElem?_eq_some_iff.1 h.e1).1
  exact ⟨g h.e1, g h.e2, h.b.trans (hb.mono (by omega)), h.lt⟩
set_option maxHeartbeats 4000000 in
set_option maxRecDepth 100000 in
theorem compareNames_any (x m y k : Int) (w : World) : Calls Tryz.prog 62 #[.agg #[.int .i64 x, .int .i64 m], .agg #[.int .i64 y, .int .i64 k]] w fun e w' => e = .returned (.int .i64 (namesC x m y k)) ∧ Below w.heap.size w w' := by
  have g1 := heap_before _ (.cells (#[.int .i64 y, .int .i64 k]) 29) _ _ (heap_last w (.cells (#[.int .i64 x, .int .i64 m]) 29))
  have g2 := heap_at (w.alloc (.cells (#[.int .i64 x, .int .i64 m]) 29)) (.cells (#[.int .i64 y, .int .i64 k]) 29) (w.heap.size + 1) (by simp)
  have bb : Below w.heap.size w ((w.alloc (.cells (#[.int .i64 x, .int .i64 m]) 29)).alloc (.cells (#[.int .i64 y, .int .i64 k]) 29)) := ((Below.refl _ _).alloc (Nat.le_refl _) _).alloc (by simp) _
  have T0 : Hid (TwoC w ((w.alloc (.cells (#[.int .i64 x, .int .i64 m]) 29)).alloc (.cells (#[.int .i64 y, .int .i64 k]) 29)) w.heap.size (w.heap.size + 1) (#[.int .i64 x, .int .i64 m]) (#[.int .i64 y, .int .i64 k]) 29) := Lib.hid ⟨g1, g2, bb, by omega⟩
  clear g1 g2 bb
  go_enter Tryz.func62, Tryz.ntmps62
  go_upto_region 1 with fail
  generalize (w.alloc (.cells (#[.int .i64 x, .int .i64 m]) 29)).alloc (.cells (#[.int .i64 y, .int .i64 k]) 29) = W0 at *
  obtain ⟨p, hp⟩ : ∃ p, Hid (w.heap.size = p) := ⟨_, Lib.hid rfl⟩
  obtain ⟨q, hq⟩ : ∃ q, Hid (w.heap.size + 1 = q) := ⟨_, Lib.hid rfl⟩
  rw [hq.out, hp.out] at T0
  rw [hq.out, hp.out]
  have T1 := Lib.hid (T0.out.below (Below.refl W0.heap.size W0).drew)
  refine wp_region_noPanic ?_
  refine wp_region_held_drew (S := fun w' => TwoC w w' p q (#[.int .i64 x, .int .i64 m]) (#[.int .i64 y, .int .i64 k]) 29) (by kernel_rfl) T1.out (fun hHeld => ?_)
  refine wpAnyH_take (i := 0) (v := .pointer (some ⟨p, 0, none⟩)) rfl (by kernel_rfl) (by kernel_rfl) (by kernel_rfl) (fun _ _ _ h => h) (Or.inl ⟨by rfl, by intro W _; go_simp⟩) (by assumption) ?_
  try simp only [Act.put, List.setIfInBounds_toArray, List.set_cons_zero, List.set_cons_succ]
  refine wpAnyH_take (i := 1) (v := .int .i64 x) rfl (by kernel_rfl) (by kernel_rfl) (by kernel_rfl) (fun _ _ _ h => h) (Or.inl ⟨by rfl, by intro W h; have hc := cell_of h.e1 0 (.int .i64 x) rfl; go_simp⟩) (by assumption) ?_
  try simp only [Act.put, List.setIfInBounds_toArray, List.set_cons_zero, List.set_cons_succ]
  refine wpAnyH_take (i := 2) (v := .pointer (some ⟨q, 0, none⟩)) rfl (by kernel_rfl) (by kernel_rfl) (by kernel_rfl) (fun _ _ _ h => h) (Or.inl ⟨by rfl, by intro W _; go_simp⟩) (by assumption) ?_
  try simp only [Act.put, List.setIfInBounds_toArray, List.set_cons_zero, List.set_cons_succ]
  refine wpAnyH_take (i := 3) (v := .int .i64 y) rfl (by kernel_rfl) (by kernel_rfl) (by kernel_rfl) (fun _ _ _ h => h) (Or.inl ⟨by rfl, by intro W h; have hc := cell_of h.e2 0 (.int .i64 y) rfl; go_simp⟩) (by assumption) ?_
  try simp only [Act.put, List.setIfInBounds_toArray, List.set_cons_zero, List.set_cons_succ]
  refine wpAnyH_take (i := 5) (v := .pointer (some ⟨p, 1, none⟩)) rfl (by kernel_rfl) (by kernel_rfl) (by kernel_rfl) (fun _ _ _ h => h) (Or.inl ⟨by rfl, by intro W _; go_simp⟩) (by assumption) ?_
  try simp only [Act.put, List.setIfInBounds_toArray, List.set_cons_zero, List.set_cons_succ]
  refine wpAnyH_take (i := 6) (v := .int .i64 m) rfl (by kernel_rfl) (by kernel_rfl) (by kernel_rfl) (fun _ _ _ h => h) (Or.inl ⟨by rfl, by intro W h; have hc := cell_of h.e1 1 (.int .i64 m) rfl; go_simp⟩) (by assumption) ?_
  try simp only [Act.put, List.setIfInBounds_toArray, List.set_cons_zero, List.set_cons_succ]
  refine wpAnyH_take (i := 7) (v := .pointer (some ⟨q, 1, none⟩)) rfl (by kernel_rfl) (by kernel_rfl) (by kernel_rfl) (fun _ _ _ h => h) (Or.inl ⟨by rfl, by intro W _; go_simp⟩) (by assumption) ?_
  try simp only [Act.put, List.setIfInBounds_toArray, List.set_cons_zero, List.set_cons_succ]
  refine wpAnyH_take (i := 8) (v := .int .i64 k) rfl (by kernel_rfl) (by kernel_rfl) (by kernel_rfl) (fun _ _ _ h => h) (Or.inl ⟨by rfl, by intro W h; have hc := cell_of h.e2 1 (.int .i64 k) rfl; go_simp⟩) (by assumption) ?_
  try simp only [Act.put, List.setIfInBounds_toArray, List.set_cons_zero, List.set_cons_succ]
  refine wpAnyH_ready (rs := [4]) (by kernel_rfl) (by simp) ?_
  refine AllReadyH.cons rfl (fun K hK => ?_) AllReadyH.nil
  go_simp
  go_at_call 95
  refine (compare_any x y _).mono ?_
  rintro e w1 ⟨rfl, rfl⟩
  dsimp only
  refine hK.out _ _ T1.out (fun hHeld => ?_)
  clear hK K
  try simp only [Act.put, List.setIfInBounds_toArray, List.set_cons_zero, List.set_cons_succ]
  refine wpAnyH_ready (rs := [9]) (by kernel_rfl) (by simp) ?_
  refine AllReadyH.cons rfl (fun K hK => ?_) AllReadyH.nil
  go_simp
  go_at_call 95
  refine (compare_any m k _).mono ?_
  rintro e w1 ⟨rfl, rfl⟩
  dsimp only
  refine hK.out _ _ T1.out (fun hHeld => ?_)
  clear hK K
  try simp only [Act.put, List.setIfInBounds_toArray, List.set_cons_zero, List.set_cons_succ]
  refine wpAnyH_ready (rs := [10]) (by kernel_rfl) (by simp) ?_
  refine AllReadyH.cons rfl (fun K hK => ?_) AllReadyH.nil
  go_simp
  have TB := Lib.hid (T1.out.below ((Below.refl W0.drew.heap.size W0.drew).alloc (Nat.le_refl _) (.cells #[.int .i64 (cmpI x y), .int .i64 (cmpI m k)] 3)))
  refine hK.out _ _ TB.out (fun hHeld => ?_)
  clear hK K
  try simp only [Act.put, List.setIfInBounds_toArray, List.set_cons_zero, List.set_cons_succ]
  refine wpAnyH_ready (rs := [11]) (by kernel_rfl) (by simp) ?_
  refine AllReadyH.cons rfl (fun K hK => ?_) AllReadyH.nil
  go_simp
  go_at_call 94
  refine (or_two W0.drew.heap.size (cmpI x y) (cmpI m k) _ (heap_last W0.drew _)).mono ?_
  rintro e w1 ⟨rfl, rfl⟩
  dsimp only
  refine hK.out _ _ TB.out (fun hHeld => ?_)
  clear hK K
  try simp only [Act.put, List.setIfInBounds_toArray, List.set_cons_zero, List.set_cons_succ]
  refine wpAnyH_take (i := 12) (v := .int .i64 (orI (cmpI x y) (cmpI m k))) rfl (by kernel_rfl) (by kernel_rfl) (by kernel_rfl) (fun _ _ _ h => h) (Or.inl ⟨by rfl, by intro W _; go_simp⟩) (by assumption) ?_
  try simp only [Act.put, List.setIfInBounds_toArray, List.set_cons_zero, List.set_cons_succ]
  have TE := TB
  refine wpAnyH_done (by kernel_rfl) ?_ _
  refine NoPanic.normal ?_
  change Exit.then _ _ Exit.normal { tmps := #[.agg #[.int .i64 x, .int .i64 m], .agg #[.int .i64 y, .int .i64 k], .pointer (some ⟨p, 0, none⟩), .pointer (some ⟨q, 0, none⟩), .int .i64 (orI (cmpI x y) (cmpI m k)), .pointer (some ⟨p, 0, none⟩), .int .i64 x, .pointer (some ⟨q, 0, none⟩), .int .i64 y, .int .i64 (cmpI x y), .pointer (some ⟨p, 1, none⟩), .int .i64 m, .pointer (some ⟨q, 1, none⟩), .int .i64 k, .int .i64 (cmpI m k), .slice (some ⟨W0.drew.heap.size, 0, none⟩) 2 2, .int .i64 (orI (cmpI x y) (cmpI m k))], defers := [] } _
  go_wp2_with fail
  go_ret
  exact ⟨rfl, by rw [hp.out]; exact TE.out.b⟩
section
attribute [local go_sem] noteA_0
set_option maxHeartbeats 4000000 in
set_option maxRecDepth 100000 in
theorem known_any (n r : NoteV) (sa : Option Addr) (sc : Nat) (ta : Option Addr) (tc : Nat) (w : World) : Calls Tryz.prog 78 #[.agg (noteA n sa sc), .agg (noteA r ta tc)] w fun e w' => e = .returned (.int .i64 (knownC n r)) ∧ Below w.heap.size w w' := by
  have I43 := Lib.hid (show ∀ (m : NoteV) (a : Option Addr) (c : Nat), (Tryz.prog.info? 51).map (·.size) = some (noteA m a c).size from fun m a c => by kernel_rfl)
  have g1 := heap_before _ (.cells (noteA r ta tc) 51) _ _ (heap_last w (.cells (noteA n sa sc) 51))
  have g2 := heap_at (w.alloc (.cells (noteA n sa sc) 51)) (.cells (noteA r ta tc) 51) (w.heap.size + 1) (by simp)
  have bb : Below w.heap.size w ((w.alloc (.cells (noteA n sa sc) 51)).alloc (.cells (noteA r ta tc) 51)) := ((Below.refl _ _).alloc (Nat.le_refl _) _).alloc (by simp) _
  have T0 : Hid (TwoC w ((w.alloc (.cells (noteA n sa sc) 51)).alloc (.cells (noteA r ta tc) 51)) w.heap.size (w.heap.size + 1) (noteA n sa sc) (noteA r ta tc) 51) := Lib.hid ⟨g1, g2, bb, by omega⟩
  clear g1 g2 bb
  go_enter Tryz.func78, Tryz.ntmps78
  go_upto_region 1 with fail
  generalize (w.alloc (.cells (noteA n sa sc) 51)).alloc (.cells (noteA r ta tc) 51) = W0 at *
  obtain ⟨p, hp⟩ : ∃ p, Hid (w.heap.size = p) := ⟨_, Lib.hid rfl⟩
  obtain ⟨q, hq⟩ : ∃ q, Hid (w.heap.size + 1 = q) := ⟨_, Lib.hid rfl⟩
  rw [hq.out, hp.out] at T0
  rw [hq.out, hp.out]
  have T1 := Lib.hid (T0.out.below (Below.refl W0.heap.size W0).drew)
  refine wp_region_noPanic ?_
  refine wp_region_held_drew (S := fun w' => TwoC w w' p q (noteA n sa sc) (noteA r ta tc) 51) (by kernel_rfl) T1.out (fun hHeld => ?_)
  refine wpAnyH_take (i := 0) (v := .pointer (some ⟨p, 2, none⟩)) rfl (by kernel_rfl) (by kernel_rfl) (by kernel_rfl) (fun _ _ _ h => h) (Or.inl ⟨by rfl, by intro W _; go_simp⟩) (by assumption) ?_
  try simp only [Act.put, List.setIfInBounds_toArray, List.set_cons_zero, List.set_cons_succ]
  refine wpAnyH_take (i := 1) (v := .int .i64 n.clock) rfl (by kernel_rfl) (by kernel_rfl) (by kernel_rfl) (fun _ _ _ h => h) (Or.inl ⟨by rfl, by intro W h; have hc := cell_of h.e1 2 (.int .i64 n.clock) rfl; go_simp⟩) (by assumption) ?_
  try simp only [Act.put, List.setIfInBounds_toArray, List.set_cons_zero, List.set_cons_succ]
  refine wpAnyH_take (i := 2) (v := .pointer (some ⟨q, 2, none⟩)) rfl (by kernel_rfl) (by kernel_rfl) (by kernel_rfl) (fun _ _ _ h => h) (Or.inl ⟨by rfl, by intro W _; go_simp⟩) (by assumption) ?_
  try simp only [Act.put, List.setIfInBounds_toArray, List.set_cons_zero, List.set_cons_succ]
  refine wpAnyH_take (i := 3) (v := .int .i64 r.clock) rfl (by kernel_rfl) (by kernel_rfl) (by kernel_rfl) (fun _ _ _ h => h) (Or.inl ⟨by rfl, by intro W h; have hc := cell_of h.e2 2 (.int .i64 r.clock) rfl; go_simp⟩) (by assumption) ?_
  try simp only [Act.put, List.setIfInBounds_toArray, List.set_cons_zero, List.set_cons_succ]
  refine wpAnyH_take (i := 5) (v := .agg (noteA n sa sc)) rfl (by kernel_rfl) (by kernel_rfl) (by kernel_rfl) (fun _ _ _ h => h) (yields_row (by rfl) 51 _ rfl p rfl _ 51 (0, 0) _ (fun W h => h.e1) Tryz.underlying51 rfl (I43.out _ _ _)) (by assumption) ?_
  try simp only [Act.put, List.setIfInBounds_toArray, List.set_cons_zero, List.set_cons_succ]
  refine wpAnyH_take (i := 7) (v := .agg (noteA r ta tc)) rfl (by kernel_rfl) (by kernel_rfl) (by kernel_rfl) (fun _ _ _ h => h) (yields_row (by rfl) 51 _ rfl q rfl _ 51 (0, 0) _ (fun W h => h.e2) Tryz.underlying51 rfl (I43.out _ _ _)) (by assumption) ?_
  try simp only [Act.put, List.setIfInBounds_toArray, List.set_cons_zero, List.set_cons_succ]
  refine wpAnyH_ready (rs := [4]) (by kernel_rfl) (by simp) ?_
  refine AllReadyH.cons rfl (fun K hK => ?_) AllReadyH.nil
  go_simp
  go_at_call 95
  refine (compare_any n.clock r.clock _).mono ?_
  rintro e w1 ⟨rfl, rfl⟩
  dsimp only
  refine hK.out _ _ T1.out (fun hHeld => ?_)
  clear hK K
  try simp only [Act.put, List.setIfInBounds_toArray, List.set_cons_zero, List.set_cons_succ]
  refine wpAnyH_ready (rs := [6]) (by kernel_rfl) (by simp) ?_
  refine AllReadyH.cons rfl (fun K hK => ?_) AllReadyH.nil
  go_simp
  go_at_call 63
  refine (nameOf_any n sa sc _).mono ?_
  rintro e w1 ⟨rfl, b1⟩
  have T2 := Lib.hid (T1.out.below b1); clear b1
  dsimp only
  refine hK.out _ _ T2.out (fun hHeld => ?_)
  clear hK K
  try simp only [Act.put, List.setIfInBounds_toArray, List.set_cons_zero, List.set_cons_succ]
  refine wpAnyH_ready (rs := [8]) (by kernel_rfl) (by simp) ?_
  refine AllReadyH.cons rfl (fun K hK => ?_) AllReadyH.nil
  go_simp
  go_at_call 63
  refine (nameOf_any r ta tc _).mono ?_
  rintro e w2 ⟨rfl, b1⟩
  have T3 := Lib.hid (T2.out.below b1); clear b1
  dsimp only
  refine hK.out _ _ T3.out (fun hHeld => ?_)
  clear hK K
  try simp only [Act.put, List.setIfInBounds_toArray, List.set_cons_zero, List.set_cons_succ]
  refine wpAnyH_ready (rs := [9]) (by kernel_rfl) (by simp) ?_
  refine AllReadyH.cons rfl (fun K hK => ?_) AllReadyH.nil
  go_simp
  go_at_call 62
  refine (compareNames_any n.house n.num r.house r.num _).mono ?_
  rintro e w3 ⟨rfl, b1⟩
  have T4 := Lib.hid (T3.out.below b1); clear b1
  dsimp only
  refine hK.out _ _ T4.out (fun hHeld => ?_)
  clear hK K
  try simp only [Act.put, List.setIfInBounds_toArray, List.set_cons_zero, List.set_cons_succ]
  refine wpAnyH_ready (rs := [10]) (by kernel_rfl) (by simp) ?_
  refine AllReadyH.cons rfl (fun K hK => ?_) AllReadyH.nil
  go_simp
  have TB := Lib.hid (T4.out.below ((Below.refl w3.heap.size w3).alloc (Nat.le_refl _) (.cells #[.int .i64 (cmpI n.clock r.clock), .int .i64 (namesC n.house n.num r.house r.num)] 3)))
  refine hK.out _ _ TB.out (fun hHeld => ?_)
  clear hK K
  try simp only [Act.put, List.setIfInBounds_toArray, List.set_cons_zero, List.set_cons_succ]
  refine wpAnyH_ready (rs := [11]) (by kernel_rfl) (by simp) ?_
  refine AllReadyH.cons rfl (fun K hK => ?_) AllReadyH.nil
  go_simp
  go_at_call 94
  refine (or_two w3.heap.size (cmpI n.clock r.clock) (namesC n.house n.num r.house r.num) _ (heap_last w3 _)).mono ?_
  rintro e w4 ⟨rfl, rfl⟩
  dsimp only
  refine hK.out _ _ TB.out (fun hHeld => ?_)
  clear hK K
  try simp only [Act.put, List.setIfInBounds_toArray, List.set_cons_zero, List.set_cons_succ]
  refine wpAnyH_take (i := 12) (v := .int .i64 (orI (cmpI n.clock r.clock) (namesC n.house n.num r.house r.num))) rfl (by kernel_rfl) (by kernel_rfl) (by kernel_rfl) (fun _ _ _ h => h) (Or.inl ⟨by rfl, by intro W _; go_simp⟩) (by assumption) ?_
  try simp only [Act.put, List.setIfInBounds_toArray, List.set_cons_zero, List.set_cons_succ]
  have TE := TB
  refine wpAnyH_done (by kernel_rfl) ?_ _
  refine NoPanic.normal ?_
  change Exit.then _ _ Exit.normal { tmps := #[.agg (noteA n sa sc), .agg (noteA r ta tc), .pointer (some ⟨p, 0, none⟩), .pointer (some ⟨q, 0, none⟩), .int .i64 (orI (cmpI n.clock r.clock) (namesC n.house n.num r.house r.num)), .pointer (some ⟨p, 2, none⟩), .int .i64 n.clock, .pointer (some ⟨q, 2, none⟩), .int .i64 r.clock, .int .i64 (cmpI n.clock r.clock), .agg (noteA n sa sc), .agg #[.int .i64 n.house, .int .i64 n.num], .agg (noteA r ta tc), .agg #[.int .i64 r.house, .int .i64 r.num], .int .i64 (namesC n.house n.num r.house r.num), .slice (some ⟨w3.heap.size, 0, none⟩) 2 2, .int .i64 (orI (cmpI n.clock r.clock) (namesC n.house n.num r.house r.num))], defers := [] } _
  go_wp2_with fail
  go_ret
  exact ⟨rfl, by rw [hp.out]; exact TE.out.b⟩
end
end Go.Proofs.YtpjiakgfegnmcaaGreat
namespace Go.Proofs.YtpjiakgfegnmcaaGreat
set_option linter.unusedSimpArgs false
open Go.RowKit

/-- Clone of ints: memory of the call's own. -/
theorem cloneI_any (a : Option Addr) (n c : Nat) (l : List Int) (w : World) (hn : n ≤ 1000000000) (hr : RdI w a n c l) :
    Calls Tryz.prog 112 #[.slice a n c] w fun e w' => ∃ a' c', e = .returned (.slice a' n c') ∧ w'.ownsRow w.heap.size 3 1 (.slice a' n c') n (l.map intV) ∧ Below w.heap.size w w' := by
  have hnc := hr.2.1
  by_cases ha : a = none
  · subst ha
    have hc : n = 0 ∧ c = 0 := by
      rcases hr.2.2.2 with h | ⟨b, off, h, _⟩
      · omega
      · cases h
    obtain ⟨rfl, rfl⟩ := hc
    have hl : l = [] := List.eq_nil_of_length_eq_zero hr.len
    subst hl
    clear hr hnc
    have heq : ∀ w, (binOp .eql 38 (.slice none 0 0) (.slice none 0 0)).run Tryz.prog w = .ok (.bool true) w := fun w => Lib.run_eql_slice_nil (P := Tryz.prog) w 38 3 none 0 0 0 0 Tryz.underlying38
    go_enter Tryz.func112, Tryz.ntmps112
    go_wp2
    go_ret
    exact ⟨_, _, rfl, World.ownsRow_nil _ _ _ _, Below.refl _ _⟩
  · obtain ⟨ad, rfl⟩ := Option.ne_none_iff_exists'.1 ha
    clear ha
    have heq : ∀ w, (binOp .eql 38 (.slice (some ad) n c) (.slice none 0 0)).run Tryz.prog w = .ok (.bool false) w := fun w => Lib.run_eql_slice_nil (P := Tryz.prog) w 38 3 (some ad) n c 0 0 Tryz.underlying38
    have hown := World.ownsRow_lit (base := w.heap.size) (e := 3) (size := 1) w #[] 0 (Nat.le_refl _) (by unfold maxLen; omega) rfl
    have hr1 := hr.below ((Below.refl w.heap.size w).alloc (Nat.le_refl _) (Obj.cells #[] 3))
    go_enter Tryz.func112, Tryz.ntmps112
    go_wp2_with (at_builtin; refine app_ints _ rfl _ _ rfl w.heap.size _ _ _ [] rfl hown _ _ _ l rfl hr1 (by omega) (by simp) ?_)
    intro a' c' w' h1 h2
    have hb := ((Below.refl w.heap.size w).alloc (Nat.le_refl _) (Obj.cells #[] 3)).grown h2 (by simp) (fun q hq => (hown.lt q hq).1)
    have H1 := Lib.hid (show w'.ownsRow w.heap.size 3 1 (.slice a' n c') n (l.map intV) by simpa using h1); clear h1 h2
    try simp only [Nat.zero_add]
    go_wp2_with fail
    go_ret
    exact ⟨_, _, rfl, H1.out, hb⟩
section
attribute [local go_sem] noteA_0 noteA_1 noteA_2 noteA_3 noteA_4 noteA_5 noteA_6 noteA_7 noteA_8 noteA_9 noteA_10 noteA_11 noteA_12 noteA_13 noteA_14 noteA_15 noteA_16 noteA_17 noteA_18
variable (n : NoteV) (sa : Option Addr) (sc : Nat) (w : World)
theorem done_any : Calls Tryz.prog 76 #[.agg (noteA n sa sc)] w fun e w' => e = .returned (.bool (doneB n)) ∧ Below w.heap.size w w' := by
  have hb := (Below.refl w.heap.size w).alloc (Nat.le_refl _) (.cells (noteA n sa sc) 51)
  go_enter Tryz.func76, Tryz.ntmps76
  go_wp2_with fail
  refine (hin_any n.kind 1 4 _).mono ?_
  rintro e w' ⟨rfl, rfl⟩
  go_wp2_with fail
  go_ret
  exact ⟨rfl, hb⟩
set_option maxHeartbeats 2000000 in
theorem judges_any (r : NoteV) (ta : Option Addr) (tc : Nat) : Calls Tryz.prog 91 #[.agg (noteA n sa sc), .agg (noteA r ta tc)] w fun e w' => e = .returned (.bool (judgesB n r)) ∧ Below w.heap.size w w' := by
  have hb := ((Below.refl w.heap.size w).alloc (Nat.le_refl _) (.cells (noteA n sa sc) 51)).alloc (by simp) (.cells (noteA r ta tc) 51)
  have hl := heap_before _ (.cells (noteA r ta tc) 51) _ _ (heap_last w (.cells (noteA n sa sc) 51))
  have hl2 := heap_at (w.alloc (.cells (noteA n sa sc) 51)) (.cells (noteA r ta tc) 51) (w.heap.size + 1) (by simp)
  have c4 := cell_of hl 4 (.int .i64 n.kind) rfl
  have c18 := cell_of hl 18 (.int .i64 n.fix) rfl
  have d4 := cell_of hl2 4 (.int .i64 r.kind) rfl
  have HB := Lib.hid hb; clear hb hl hl2
  by_cases h6 : n.kind = 6
  · have q6 : (n.kind == 6) = true := by simp [h6]
    have HR := Lib.hid (show judgesB n r = true by simp [judgesB, h6])
    clear h6
    go_enter Tryz.func91, Tryz.ntmps91
    go_wp2_with fail
    go_ret
    rw [HR.out]
    exact ⟨rfl, HB.out⟩
  · have q6 : (n.kind == 6) = false := by simp [h6]
    by_cases h5 : n.kind = 5
    · have q5 : (n.kind == 5) = true := by simp [h5]
      by_cases h2 : n.fix = 2
      · have q2 : (n.fix != 2) = false := by simp [h2]
        have HR := Lib.hid (show judgesB n r = (r.kind == 2) by simp [judgesB, h5, h2]; by_cases h : r.kind = 2 <;> simp [h])
        clear h6 h5 h2
        go_enter Tryz.func91, Tryz.ntmps91
        go_wp2_with fail
        go_ret
        rw [HR.out]
        exact ⟨rfl, HB.out⟩
      · have q2 : (n.fix != 2) = true := by simp [h2]
        have HR := Lib.hid (show judgesB n r = true by simp [judgesB, h5, h2])
        clear h6 h5 h2
        go_enter Tryz.func91, Tryz.ntmps91
        go_wp2_with fail
        go_ret
        rw [HR.out]
        exact ⟨rfl, HB.out⟩
    · have q5 : (n.kind == 5) = false := by simp [h5]
      have HR := Lib.hid (show judgesB n r = false by simp [judgesB, h5, h6])
      clear h6 h5
      go_enter Tryz.func91, Tryz.ntmps91
      go_wp2_with fail
      go_ret
      rw [HR.out]
      exact ⟨rfl, HB.out⟩
end
end Go.Proofs.YtpjiakgfegnmcaaGreat
namespace Go.Proofs.YtpjiakgfegnmcaaGreat
set_option linter.unusedSimpArgs false
open Go.RowKit
open Go.Maps (Keyed)

/-- A name. -/
abbrev Nm := Int × Int
def nmV (a : Nm) : Value := .agg #[.int .i64 a.1, .int .i64 a.2]
def nmOk (a : Nm) : Prop := I64 a.1 ∧ I64 a.2
def nmL (a : Nm) : Lit := .string (keyBytes [.int .i64 a.1, .int .i64 a.2])
theorem laid_ok : laidOutB Tryz.prog = true := by kernel_rfl
theorem nm_row : (29 : TypeId) < Tryz.prog.types.size := of_decide_eq_true (by kernel_rfl)
theorem nm_deep : Tryz.prog.keyTypeAt 2 29 = true := by kernel_rfl
theorem nm_law : WideMaps.KeyLaw Tryz.prog 29 := by
  refine deep_law_laid laid_ok (m := 2) (by omega) nm_row nm_deep ?_
  rw [Tryz.underlying29]
theorem nm_keyed : Keyed Tryz.prog 29 := Keyed.of_law nm_law
theorem nm_cells : Tryz.prog.cellsOf 29 = 2 := by kernel_rfl
theorem wf_i64 {z : Int} (h : I64 z) : (Lit.int .i64 z).wf = true := by
  have h1 := h.1
  have h2 := h.2
  simp [Lit.wf, IntKind.min, IntKind.max, IntKind.signed, IntKind.bits]
  omega
theorem i64_wf {z : Int} (h : (Lit.int .i64 z).wf = true) : I64 z := by
  simp [Lit.wf, IntKind.min, IntKind.max, IntKind.signed, IntKind.bits] at h
  unfold I64
  omega
theorem keyType_nm : Tryz.prog.keyType 29 = true := by kernel_rfl
theorem keyLits_nm (d : Nat) (c0 c1 : Value) : Tryz.prog.keyLits (d + 2) 29 [c0, c1] = (do let a ← Tryz.prog.keyLits (d + 1) 3 [c0]; let b ← Tryz.prog.keyLits (d + 1) 3 [c1]; pure (a ++ b)) := by
  have hc : Tryz.prog.cellsOf 3 = 1 := by kernel_rfl
  rw [show d + 2 = (d + 1) + 1 from rfl]
  conv => lhs; unfold Program.keyLits; rw [Tryz.underlying29]
  simp [nm_cells, hc]
  cases Tryz.prog.keyLits (d + 1) 3 [c0] <;> cases Tryz.prog.keyLits (d + 1) 3 [c1] <;> simp
theorem keyLits_int (d : Nat) (z : Int) (h : I64 z) : Tryz.prog.keyLits (d + 1) 3 [.int .i64 z] = some [.int .i64 z] := by
  unfold Program.keyLits
  rw [Tryz.underlying3]
  simp [wf_i64 h]
theorem keyLits_int_inv (d : Nat) (v : Value) (ls : List Lit) (h : Tryz.prog.keyLits (d + 1) 3 [v] = some ls) : ∃ z, v = .int .i64 z ∧ I64 z ∧ ls = [.int .i64 z] := by
  unfold Program.keyLits at h
  generalize hu : Tryz.prog.underlying 3 = u at h
  rw [Tryz.underlying3] at hu
  subst hu
  cases v <;> simp at h
  obtain ⟨⟨rfl, hw⟩, rfl⟩ := h
  exact ⟨_, rfl, i64_wf hw, rfl⟩
theorem types_succ : ∃ d, Tryz.prog.types.size + 1 = d + 2 := by
  have h : 0 < Tryz.prog.types.size := of_decide_eq_true (by kernel_rfl)
  generalize Tryz.prog.types.size = s at h
  exact ⟨s - 1, by omega⟩
theorem keyOf_nm (a : Nm) (h : nmOk a) : keyOf Tryz.prog 29 (nmV a) = some (nmL a) := by
  obtain ⟨d, hd⟩ := types_succ
  have hf : (nmV a).formed Tryz.prog 29 = true := by simp [nmV, Value.formed, Tryz.underlying29, nm_cells]
  unfold keyOf
  rw [Tryz.underlying29]
  simp only [keyType_nm, hf, Bool.and_self, if_true, hd]
  rw [show (nmV a).cells.toList = [.int .i64 a.1, .int .i64 a.2] from rfl, keyLits_nm, keyLits_int _ _ h.1, keyLits_int _ _ h.2]
  rfl
set_option maxRecDepth 10000 in
theorem keyOf_inv {v : Value} {kl : Lit} (h : keyOf Tryz.prog 29 v = some kl) : ∃ a, v = nmV a ∧ nmOk a ∧ kl = nmL a := by
  obtain ⟨d, hd⟩ := types_succ
  unfold keyOf at h
  rw [Tryz.underlying29] at h
  simp only [keyType_nm, Bool.true_and, hd] at h
  split at h
  · rename_i hf
    cases v <;> simp [Value.formed, Tryz.underlying29, nm_cells] at hf
    rename_i cs
    obtain ⟨l⟩ := cs
    match l, hf with
    | [c0, c1], _ =>
      rw [show (Value.agg #[c0, c1]).cells.toList = [c0, c1] from rfl, keyLits_nm] at h
      cases h0 : Tryz.prog.keyLits (d + 1) 3 [c0] with
      | none => simp [h0] at h
      | some l0 =>
        cases h1 : Tryz.prog.keyLits (d + 1) 3 [c1] with
        | none => simp [h0, h1] at h
        | some l1 =>
          obtain ⟨z0, rfl, hz0, rfl⟩ := keyLits_int_inv _ _ _ h0
          obtain ⟨z1, rfl, hz1, rfl⟩ := keyLits_int_inv _ _ _ h1
          simp [h0, h1] at h
          exact ⟨(z0, z1), rfl, ⟨hz0, hz1⟩, h.symm⟩
  · cases h
theorem nmL_key (a : Nm) : WideAt.IsKeyLit (nmL a) := trivial
theorem nmV_inj {a b : Nm} (h : nmV a = nmV b) : a = b := by
  simp [nmV] at h
  exact Prod.ext h.1 h.2
theorem nmL_inj {a b : Nm} (ha : nmOk a) (hb : nmOk b) (h : nmL a = nmL b) : a = b :=
  nmV_inj (nm_keyed.inj (keyOf_nm a ha) (h ▸ keyOf_nm b hb))

/-- How a value of a map reads: as itself. -/
def heldR : Value → Option (DataW Value × List MemPlace) := fun v => some (.held v, [])
/-- The datum reads as the function f. -/
structure Reads {α : Type} (enc : α → Value) (D : DataW Value) (f : Nm → Option α) : Prop where
  ok : ∀ a, (f a).isSome = true → nmOk a
  has : ∀ a, nmOk a → Maps.has D (nmL a) = (f a).isSome
  val : ∀ a x, f a = some x → ∀ z, D.atKey (nmL a) z = .held (enc x)
/-- Block b holds a map of names that reads as f. -/
def MapF {α : Type} (enc : α → Value) (w : World) (b n : Nat) (f : Nm → Option α) : Prop := ∃ D, w.ownsMap Tryz.prog 29 heldR b n D ∧ Reads enc D f
def updF {α : Type} (f : Nm → Option α) (k : Nm) (x : α) : Nm → Option α := fun a => if a = k then some x else f a
def delF {α : Type} (f : Nm → Option α) (k : Nm) : Nm → Option α := fun a => if a = k then none else f a
section
variable {α : Type} {enc : α → Value} {D : DataW Value} {f : Nm → Option α}
theorem Reads.empty : Reads enc (.map []) (fun _ => none) := ⟨by simp, fun a _ => rfl, by simp⟩
theorem Reads.put (h : Reads enc D f) (hm : Maps.IsMap D) {k : Nm} (hk : nmOk k) (x : α) : Reads enc (D.put (nmL k) (.held (enc x))) (updF f k x) := by
  refine ⟨fun a ha => ?_, fun a ha => ?_, fun a y hy z => ?_⟩
  · unfold updF at ha
    split at ha
    · rename_i e; rw [e]; exact hk
    · exact h.ok a ha
  · unfold updF
    split
    · rename_i e; rw [e, Maps.has_put_same hm (nmL_key _)]; rfl
    · rename_i e; rw [Maps.has_put_other (fun he => e (nmL_inj ha hk he))]; exact h.has a ha
  · unfold updF at hy
    split at hy
    · rename_i e; cases hy; rw [e, Maps.atKey_put_same hm (nmL_key _)]
    · rename_i e; rw [Maps.atKey_put_other (fun he => e (nmL_inj (h.ok a (by rw [hy]; rfl)) hk he))]; exact h.val a y hy z
theorem Reads.del (h : Reads enc D f) {k : Nm} (hk : nmOk k) : Reads enc (D.del (nmL k)) (delF f k) := by
  refine ⟨fun a ha => ?_, fun a ha => ?_, fun a y hy z => ?_⟩
  · unfold delF at ha
    split at ha
    · cases ha
    · exact h.ok a ha
  · unfold delF
    split
    · rename_i e; rw [e, Maps.has_del_same]; rfl
    · rename_i e; rw [Maps.has_del_other (fun he => e (nmL_inj ha hk he))]; exact h.has a ha
  · unfold delF at hy
    split at hy
    · cases hy
    · rename_i e; rw [Maps.atKey_del_other (fun he => e (nmL_inj (h.ok a (by rw [hy]; rfl)) hk he))]; exact h.val a y hy z
variable {w : World} {b n : Nat}
theorem MapF.made (w : World) : MapF enc (w.alloc (.map #[] 0)) w.heap.size 0 (fun _ => none) := ⟨_, World.ownsMap_made w _ _ _, Reads.empty⟩
theorem MapF.lt (h : MapF enc w b n f) : b < w.heap.size := by obtain ⟨D, h1, _⟩ := h; exact h1.lt
theorem MapF.kept {w' : World} {row : Option Nat} (h : MapF enc w b n f) (hg : w.grownBy w' row) (hne : some b ≠ row) : MapF enc w' b n f := by
  obtain ⟨D, h1, h2⟩ := h
  exact ⟨D, h1.kept hg hne, h2⟩
theorem MapF.of_block {w' : World} (h : MapF enc w b n f) (hb : w'.heap[b]? = w.heap[b]?) : MapF enc w' b n f := by
  obtain ⟨D, ⟨es, clock, h1, h2⟩, h3⟩ := h
  exact ⟨D, ⟨es, clock, hb.trans h1, h2⟩, h3⟩
theorem MapF.below {w' : World} (h : MapF enc w b n f) (hb : Below w.heap.size w w') : MapF enc w' b n f := h.of_block (hb.block b h.lt)
theorem MapF.mono {m : Nat} (h : MapF enc w b n f) (hn : n ≤ m) : MapF enc w b m f := by obtain ⟨D, h1, h2⟩ := h; exact ⟨D, h1.mono hn, h2⟩
end
/-- A loop over the map in block b by the iterator in block r: the names ks have come, cnt are left. -/
def RangeF {α : Type} (enc : α → Value) (w : World) (b r n : Nat) (f : Nm → Option α) (ks : List Nm) (cnt : Nat) : Prop :=
  ∃ D left, w.ranges Tryz.prog 29 heldR b r n D left cnt ∧ Reads enc D f ∧ (∀ a, nmOk a → left (nmL a) = ((f a).isSome && !decide (a ∈ ks))) ∧ ks.Nodup ∧ cnt + ks.length ≤ n
section
variable {α : Type} {enc : α → Value} {f : Nm → Option α} {w : World} {b r n cnt : Nat} {ks : List Nm}
theorem RangeF.map (h : RangeF enc w b r n f ks cnt) : MapF enc w b n f := by obtain ⟨D, left, h1, h2, _⟩ := h; exact ⟨D, h1.owns, h2⟩
theorem RangeF.left_eq (h : RangeF enc w b r n f ks cnt) : w.rangeLeft b r = cnt := by obtain ⟨D, left, h1, _⟩ := h; exact h1.left_eq
theorem RangeF.lt (h : RangeF enc w b r n f ks cnt) : r < w.heap.size := by obtain ⟨D, left, h1, _⟩ := h; exact h1.lt
theorem RangeF.nodup (h : RangeF enc w b r n f ks cnt) : ks.Nodup := by obtain ⟨D, left, _, _, _, h1, _⟩ := h; exact h1
theorem RangeF.count (h : RangeF enc w b r n f ks cnt) : cnt + ks.length ≤ n := by obtain ⟨D, left, _, _, _, _, h1⟩ := h; exact h1
theorem RangeF.of_blocks {w' : World} (h : RangeF enc w b r n f ks cnt) (hb : w'.heap[b]? = w.heap[b]?) (hr : w'.heap[r]? = w.heap[r]?) : RangeF enc w' b r n f ks cnt := by
  obtain ⟨D, left, ⟨es, clock, since, seen, c0, h1, h2, h3, h4, h5, h6⟩, h7⟩ := h
  exact ⟨D, left, ⟨es, clock, since, seen, c0, hb.trans h1, h2, h3, h4, hr.trans h5, h6⟩, h7⟩
theorem RangeF.below {w' : World} (h : RangeF enc w b r n f ks cnt) (hb : Below w.heap.size w w') : RangeF enc w' b r n f ks cnt := h.of_blocks (hb.block b h.map.lt) (hb.block r h.lt)
end
section
variable {α : Type} {enc : α → Value} {f : Nm → Option α} {P : Program} (w : World) {ops : Array Oper} {rest : List Oper} {o : Oper} {a : Act} {Q : Exit → Act → World → Prop}
/-- range m. -/
theorem wpList_range_nm (hg : o.guard = none) (m : Operand) (t e : TypeId) (hop : o.op = Op.range t m) (ht : Tryz.prog.underlying t = some (.map 29 e)) (b n : Nat) (hm : a.eval m = .map (some b)) (hmap : MapF enc w b n f)
    (hK : ∀ w' cnt, RangeF enc w' b w.heap.size n f [] cnt → w.grownBy w' none → w'.heap.size = w.heap.size + 1 → wpList Tryz.prog ops Q rest (a.put o.dst (.pointer (some ⟨w.heap.size, 0, none⟩))) w') : wpList Tryz.prog ops Q (o :: rest) a w := by
  obtain ⟨D, h1, h2⟩ := hmap
  exact wpList_range_own w hg m t hop 29 e nm_keyed ht heldR b n D hm h1 (fun w' h3 h4 h5 => hK w' _ ⟨D, _, h3, h2, fun k hk => by rw [h2.has k hk]; simp, List.nodup_nil, by have := h1.size_le; simpa using this⟩ h4 h5)
/-- What is known when a name has come. -/
structure NextF {α : Type} (enc : α → Value) (w : World) (b r n cnt : Nat) (f : Nm → Option α) (ks : List Nm) (kh km : Int) (y : α) (w' : World) (cnt' : Nat) : Prop where
  at_ : f (kh, km) = some y
  new : (kh, km) ∉ ks
  ok : nmOk (kh, km)
  range : RangeF enc w' b r n f (ks ++ [(kh, km)]) cnt'
  lt : cnt' < cnt
  grown : w.grownBy w' (some r)
  size : w'.heap.size = w.heap.size
/-- All names have come. -/
def AllIn {α : Type} (f : Nm → Option α) (ks : List Nm) : Prop := ∀ k, (f k).isSome = true → k ∈ ks
/-- The loop's step. -/
theorem wpList_next_nm (hg : o.guard = none) (it : Operand) (hop : o.op = Op.next it false) (b r n cnt : Nat) (ks : List Nm) (hit : a.eval it = .pointer (some ⟨r, 0, none⟩)) (h : RangeF enc w b r n f ks cnt)
    (hDone : AllIn f ks → wpList Tryz.prog ops Q rest (a.put o.dst (.tuple #[.bool false])) w)
    (hMore : ∀ kh km y w' cnt', Hid (NextF enc w b r n cnt f ks kh km y w' cnt') →
      (Instr.entry (.pointer (some ⟨r, 0, none⟩))).run Tryz.prog w' = .ok (.tuple #[.agg #[.int .i64 kh, .int .i64 km], enc y]) w' → wpList Tryz.prog ops Q rest (a.put o.dst (.tuple #[.bool true, .agg #[.int .i64 kh, .int .i64 km], enc y])) w') : wpList Tryz.prog ops Q (o :: rest) a w := by
  obtain ⟨D, left, h1, h2, h3, h4, hcn⟩ := h
  refine wpList_next_ranges (α := Nm) (β := Value) w hg it hop 29 nm_keyed heldR nmV id (fun key kl hk => by obtain ⟨a, rfl, _⟩ := keyOf_inv hk; exact ⟨a, rfl⟩) (fun v _ _ => ⟨v, rfl⟩) b r n D left cnt hit h1 (fun _ hl => hDone (fun k hk => ?_)) (fun k c kl y w' cnt' hkey hlk hv hat hrg hlt hgr hsz hen => ?_)
  · have := hl (nmL k)
    rw [h3 k (h2.ok k hk), hk] at this
    simpa using this
  · obtain ⟨k', e1, hk', rfl⟩ := keyOf_inv hkey
    cases nmV_inj e1
    rw [h3 k hk'] at hlk
    simp only [Bool.and_eq_true, Bool.not_eq_true', decide_eq_false_iff_not] at hlk
    obtain ⟨x, hx⟩ := Option.isSome_iff_exists.1 hlk.1
    have hy := hat (.lit (.bool true))
    rw [h2.val k x hx] at hy
    simp only [heldR, Option.some.injEq] at hv
    rw [← hv] at hy
    simp only [DataW.held.injEq, id_eq] at hy
    subst hy
    refine hMore k.1 k.2 x w' cnt' (Lib.hid ⟨hx, hlk.2, hk', ⟨D, _, hrg, h2, fun a ha => ?_, ?_, by rw [List.length_append, List.length_singleton]; omega⟩, hlt, hgr, hsz⟩) hen
    · rw [h3 a ha]
      by_cases e : a = k
      · subst e
        have : (nmL a).sameKey (nmL a) = true := WideAt.sameKey_self (nmL_key _)
        simp [this]
      · have : (nmL a).sameKey (nmL k) = false := Maps.sameKey_ne (fun he => e (nmL_inj ha hk' he))
        simp [this, e]
    · exact List.nodup_append.2 ⟨h4, by simp, fun a ha b hb e => hlk.2 (by rw [List.mem_singleton] at hb; rw [← show b = k from hb, ← e]; exact ha)⟩
/-- delete(m, k) in the loop, of a name that has come. -/
theorem wpList_del_nm (hg : o.guard = none) (m x : Operand) (t e : TypeId) (hop : o.op = Op.call { callee := Callee.builtin Builtin.delete, args := #[m, x], argTypes := #[t, 29] }) (ht : Tryz.prog.underlying t = some (.map 29 e)) (b r n cnt : Nat) (ks : List Nm) (k : Nm)
    (hm : a.eval m = .map (some b)) (h : RangeF enc w b r n f ks cnt) (hx : a.eval x = nmV k) (hk : nmOk k) (hin : k ∈ ks)
    (hK : ∀ w' cnt', RangeF enc w' b r n (delF f k) ks cnt' → cnt' ≤ cnt → w.mapTurned w' b → wpList Tryz.prog ops Q rest (a.put o.dst (.tuple #[])) w') : wpList Tryz.prog ops Q (o :: rest) a w := by
  obtain ⟨D, left, h1, h2, h3, h4, hcn⟩ := h
  refine wpList_delete_ranges w hg m x t 29 hop e nm_keyed ht heldR b r n D left cnt hm h1 (nmV k) (nmL k) hx (keyOf_nm k hk) (fun w' cnt' h5 h6 h7 => hK w' cnt' ⟨_, _, h5, h2.del hk, fun a ha => ?_, h4, by omega⟩ h6 h7)
  rw [h3 a ha]
  by_cases e : a = k
  · subst e
    have : (nmL a).sameKey (nmL a) = true := WideAt.sameKey_self (nmL_key _)
    simp [this, delF]
  · have : (nmL a).sameKey (nmL k) = false := Maps.sameKey_ne (fun he => e (nmL_inj ha hk he))
    simp [this, delF, e]
end
section
variable {α : Type} {enc : α → Value} {f : Nm → Option α} {w : World} {b n : Nat} {t e : TypeId}
theorem run_put_nm (hmap : MapF enc w b n f) (hn : n < maxLen) (ht : Tryz.prog.underlying t = some (.map 29 e)) (h m : Int) (hk : nmOk (h, m)) (y : α) :
    ∃ w', (Instr.mapUpdate t (.map (some b)) (.agg #[.int .i64 h, .int .i64 m]) (enc y)).run Tryz.prog w = .ok () w' ∧ MapF enc w' b (n + 1) (updF f (h, m) y) ∧ w.mapTurned w' b := by
  obtain ⟨D, h1, h2⟩ := hmap
  obtain ⟨w', h3, h4, h5⟩ := h1.store nm_keyed ht hn (keyOf_nm (h, m) hk) (val := enc y) (d := .held (enc y)) (ps := []) rfl
  exact ⟨w', h3, ⟨_, h4, h2.put h1.isMap hk y⟩, h5⟩
theorem run_get_nm (hmap : MapF enc w b n f) (ht : Tryz.prog.underlying t = some (.map 29 e)) {z : Value} (hz : (zeroValue e).run Tryz.prog w = .ok z w) (h m : Int) (hk : nmOk (h, m)) :
    (Instr.lookup t (.map (some b)) (.agg #[.int .i64 h, .int .i64 m]) true).run Tryz.prog w = .ok (.tuple #[((f (h, m)).map enc).getD z, .bool (f (h, m)).isSome]) w := by
  obtain ⟨D, h1, h2⟩ := hmap
  obtain ⟨v, ps, h3, h4⟩ := h1.look_ok nm_keyed ht hz (zd := .held z) (zp := []) rfl (keyOf_nm (h, m) hk)
  rw [h2.has (h, m) hk] at h3
  simp only [heldR, Option.some.injEq, Prod.mk.injEq] at h4
  refine h3.trans ?_
  cases hf : f (h, m) with
  | none =>
    rw [Maps.atKey_of_not_has (by rw [h2.has (h, m) hk, hf]; rfl)] at h4
    have := h4.1
    simp only [DataW.held.injEq] at this
    rw [this]; rfl
  | some y =>
    rw [h2.val (h, m) y hf] at h4
    have := h4.1
    simp only [DataW.held.injEq] at this
    rw [this]; rfl
end
end Go.Proofs.YtpjiakgfegnmcaaGreat
