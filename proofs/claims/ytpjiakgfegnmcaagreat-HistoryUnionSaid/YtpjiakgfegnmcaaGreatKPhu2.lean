/- Parts of the proof, in this order: The program's said, for every kind; The reference's small tests of notes; The reference's test of strokes; The reference's bare: a note without its name, times, references, and the content of a kind; The reference's right, kind by kind; The plain law of notes and their bytes: both tests of a note agree; what is encoded is read back by both readers, and nothing else; Bytes that grow: only blocks of bytes from a base on turn; Concat of byte slices; both halves of a tally: Notch of the program and of the reference; comparing lists of byte slices; The program's formed: whether a note is well-formed; The program's encoded and Encode; A range over a function whose iterator keeps state of its own in cells: one law, over any program, at the wide fence; Join of the program: a range over the iterator of tallies; The program's reader: number; The program's note; The reference's reader: signed, Number; The reference's reader: Count, Numbers; Sticks: a journal's methods, and a stick's; The examples at the head of the statements about tallies. -/
import Derived.Deep.Cut
import Derived.StillTailTactics
import Derived.BigRegion
import Derived.RegionTactic
import Derived.Deep.RegionHeld3
import Derived.WalkSmall
import Derived.RangeFuncNested
import Derived.RangeFuncBound
import Derived.RangeFuncCalls
import Derived.RangeFuncLeaves
import Derived.WalkKit
import Derived.OwnWalkIn
import Derived.TacticsInMore
import Derived.LoopNIn
import Derived.LoopIn
import Derived.Shelf.RegionOpen
import Derived.Sort.QuietIn
import Derived.WalkLawsBesides
import Derived.Deep.RegionLaw
import Derived.Deep.QuietTactic
import Derived.BigQuiet
import Derived.Deep.RegionWith
import Derived.Test.YtpjiakgfegnmcaaGreatKPhu1
set_option linter.unusedSimpArgs false
set_option linter.unusedVariables false
open List renaming getElem_toArray → lq0, getElem_cons_succ → lq1, getElem_cons_zero → lq2, setIfInBounds_toArray → lq3, set_cons_zero → lq4, set_cons_succ → lq5
namespace Go.Proofs.YtpjiakgfegnmcaaGreat
open Go.RowKit

theorem wpList_load_rowG {P : Program} {ops : Array Oper} {rest : List Oper} {o : Oper} {a : Act} {w : World} {Q : Exit → Act → World → Prop} (hw : Region.wanted o (yielded ops a.tmps) = true) (ty : TypeId) (x : Operand) (ho : o.op = .load ty x)
    (g : Nat) (hx : a.eval x = .pointer (some ⟨g, 0, none⟩)) (t : TypeId) (cs : Array Value) (fr : Nat × Nat) (d : TypeDesc) (hg : w.heap[g]? = some (.cells cs t fr))
    (hu : P.underlying ty = some d) (hd : (match d with | .struct _ | .array _ _ => true | _ => false) = true) (hi : (P.info? ty).map (·.size) = some cs.size)
    (h : wpList P ops Q rest (a.put o.dst (.agg cs)) w) : wpList P ops Q (o :: rest) a w :=
  wpList_step fun _ hK => by rw [if_pos hw]; exact wp_load_row ty x ho g hx t cs fr d hg hu hd hi (hK _ _ h)

theorem said_any (f : FrV) (n : NoteV) (sa : Option Addr) (sc : Nat) (w : World) (hv : f.valid = true) (hs : RdI w sa n.strokes.length sc n.strokes) (k : Int) :
    Calls Tryz.prog 96 #[f.val, .int .i64 k, .agg (noteA n sa sc)] w fun e w' => ∃ ta tc, e = .returned (.tuple #[.agg (noteA (saidN k n) ta tc), .bool (saidB f k n)]) ∧
      (ta = sa ∧ tc = sc ∧ (saidN k n).strokes = n.strokes ∨ ta = none ∧ tc = 0 ∧ (saidN k n).strokes = []) ∧ Below w.heap.size w w' := by
  by_cases hk : 1 ≤ k ∧ k ≤ 6
  · have hk' : k = 1 ∨ k = 2 ∨ k = 3 ∨ k = 4 ∨ k = 5 ∨ k = 6 := by omega
    rcases hk' with rfl | rfl | rfl | rfl | rfl | rfl
    · refine (said1 f n sa sc w).mono ?_
      rintro e w' ⟨rfl, hb⟩
      exact ⟨sa, sc, rfl, .inl ⟨rfl, rfl, rfl⟩, hb⟩
    · refine (said2 f n sa sc w).mono ?_
      rintro e w' ⟨rfl, hb⟩
      exact ⟨sa, sc, rfl, .inl ⟨rfl, rfl, rfl⟩, hb⟩
    · refine (said3 f n sa sc w hv).mono ?_
      rintro e w' ⟨rfl, hb⟩
      exact ⟨sa, sc, rfl, .inl ⟨rfl, rfl, rfl⟩, hb⟩
    · refine (said4 f n sa sc w hv hs).mono ?_
      rintro e w' ⟨rfl, hb⟩
      exact ⟨none, 0, rfl, .inr ⟨rfl, rfl, rfl⟩, hb⟩
    · refine (said5 f n sa sc w).mono ?_
      rintro e w' ⟨rfl, hb⟩
      exact ⟨sa, sc, rfl, .inl ⟨rfl, rfl, rfl⟩, hb⟩
    · refine (said6 f n sa sc w).mono ?_
      rintro e w' ⟨rfl, hb⟩
      exact ⟨sa, sc, rfl, .inl ⟨rfl, rfl, rfl⟩, hb⟩
  · refine (said0 f n sa sc w k hk).mono ?_
    rintro e w' ⟨rfl, hb⟩
    refine ⟨sa, sc, rfl, .inl ⟨rfl, rfl, ?_⟩, hb⟩
    rw [saidN_other hk]

theorem said_rd {k : Int} {n : NoteV} {sa ta : Option Addr} {sc tc : Nat} (h : ta = sa ∧ tc = sc ∧ (saidN k n).strokes = n.strokes ∨ ta = none ∧ tc = 0 ∧ (saidN k n).strokes = []) {W : World} (hs : RdI W sa n.strokes.length sc n.strokes) :
    RdI W ta (saidN k n).strokes.length tc (saidN k n).strokes := by
  rcases h with ⟨rfl, rfl, h⟩ | ⟨rfl, rfl, h⟩
  · rw [h]; exact hs
  · rw [h]; exact RdA.nil W 1
def leftN (n : NoteV) : NoteV :=
  if n.kind = 2 then { saidN n.kind n with refH := 0, refN := 0 } else if n.kind = 5 then { saidN n.fix (saidN n.kind n) with fix := 0 } else saidN n.kind n
def bareN (n : NoteV) : NoteV := { leftN n with house := 0, num := 0, clock := 0, day := 0, kind := 0 }
def okB (f : FrV) (n : NoteV) : Bool :=
  if n.kind = 2 then saidB f n.kind n && rightNameB n.refH n.refN else if n.kind = 5 then saidB f n.kind n && (saidB f n.fix (saidN n.kind n) && inB n.fix 1 4) else saidB f n.kind n
def formedB (f : FrV) (n : NoteV) : Bool := okB f n && (rightNameB n.house n.num && (inB n.clock 1 1099511627776 && (inB n.day 0 99999 && sameB (bareN n) zeroN)))

structure Loc3 (w W : World) (p0 p1 p2 : Nat) (f : FrV) (n : NoteV) (sa : Option Addr) (sc : Nat) (C : Array Value) : Prop where
  e0 : W.heap[p0]? = some (.cells #[.int .i64 f.rings, .int .i64 f.sectors, .int .i64 f.wide] 85 (0, 0))
  e1 : W.heap[p1]? = some (.cells (noteA n sa sc) 51 (0, 0))
  e2 : W.heap[p2]? = some (.cells C 51 (0, 0))
  b : Below p0 w W
  lt : p0 < p1 ∧ p1 < p2
section
variable {w W W' : World} {p0 p1 p2 : Nat} {f : FrV} {n : NoteV} {sa : Option Addr} {sc : Nat} {C : Array Value}
theorem Loc3.below (h : Loc3 w W p0 p1 p2 f n sa sc C) (hb : Below W.heap.size W W') : Loc3 w W' p0 p1 p2 f n sa sc C := by
  have g : ∀ {k : Nat} {o : Obj}, W.heap[k]? = some o → W'.heap[k]? = some o := fun {k o} hk => (hb.block k (Array.getElem?_eq_some_iff.1 hk).1).trans hk
  have h0 := (Array.getElem?_eq_some_iff.1 h.e0).1
  exact ⟨g h.e0, g h.e1, g h.e2, h.b.trans (hb.mono (by omega)), h.lt⟩
theorem Loc3.alloc (h : Loc3 w W p0 p1 p2 f n sa sc C) (o : Obj) : Loc3 w (W.alloc o) p0 p1 p2 f n sa sc C := h.below ((Below.refl _ _).alloc (Nat.le_refl _) _)
theorem Loc3.set (h : Loc3 w W p0 p1 p2 f n sa sc C) (j : Nat) (v : Value) : Loc3 w (W.setCell ⟨p2, j, none⟩ v) p0 p1 p2 f n sa sc (C.setIfInBounds j v) := by
  have g : ∀ {k : Nat}, k ≠ p2 → (W.setCell ⟨p2, j, none⟩ v).heap[k]? = W.heap[k]? := fun {k} hk => Below.heap_setCell W ⟨p2, j, none⟩ v k hk
  have hl := h.lt
  exact ⟨(g (by omega)).trans h.e0, (g (by omega)).trans h.e1, heap_setCell_same W p2 j C 51 v h.e2, h.b.trans ⟨rfl, rfl, rfl, by simp [World.setCell], fun k hk => g (by omega)⟩, h.lt⟩
theorem Loc3.setRow (h : Loc3 w W p0 p1 p2 f n sa sc C) (C' : Array Value) : Loc3 w (W.setRow p2 C') p0 p1 p2 f n sa sc C' := by
  have hl := h.lt
  exact ⟨(setRow_other W p2 p0 C' (by omega)).trans h.e0, (setRow_other W p2 p1 C' (by omega)).trans h.e1, setRow_heap W p2 _ C' _ _ h.e2, h.b.trans ⟨rfl, rfl, rfl, by simp, fun k hk => setRow_other W p2 k C' (by omega)⟩, h.lt⟩
end
end Go.Proofs.YtpjiakgfegnmcaaGreat
namespace Go.Proofs.YtpjiakgfegnmcaaGreat
open Go.RowKit

theorem rin_any (x lo hi : Int) (w : World) : Calls Tryz.prog 49 #[.int .i64 x, .int .i64 lo, .int .i64 hi] w fun e w' => e = .returned (.bool (inB x lo hi)) ∧ w = w' := by
  by_cases h1 : lo ≤ x
  · have t1 : decide (lo ≤ x) = true := by simp; omega
    by_cases h2 : x ≤ hi
    · have t2 : decide (x ≤ hi) = true := by simp; omega
      have t3 : inB x lo hi = true := inB_true.2 ⟨h1, h2⟩
      rw [t3]; clear t3
      go_enter Tryz.func49, Tryz.ntmps49
      go_wp2_with fail
      go_ret
      exact ⟨rfl, rfl⟩
    · have t2 : decide (x ≤ hi) = false := by simp; omega
      have t3 : inB x lo hi = false := inB_false.2 (fun h => h2 h.2)
      rw [t3]; clear t3
      go_enter Tryz.func49, Tryz.ntmps49
      go_wp2_with fail
      go_ret
      exact ⟨rfl, rfl⟩
  · have t1 : decide (lo ≤ x) = false := by simp; omega
    have t3 : inB x lo hi = false := inB_false.2 (fun h => h1 h.1)
    rw [t3]; clear t3
    go_enter Tryz.func49, Tryz.ntmps49
    go_wp2_with fail
    go_ret
    exact ⟨rfl, rfl⟩

theorem rrightName_any (h m : Int) (w : World) : Calls Tryz.prog 99 #[.agg #[.int .i64 h, .int .i64 m]] w fun e w' => e = .returned (.bool (rightNameB h m)) ∧ Below w.heap.size w w' := by
  have hb := (Below.refl w.heap.size w).alloc (Nat.le_refl _) (.cells #[.int .i64 h, .int .i64 m] 29)
  unfold rightNameB
  cases h1 : inB h 1 8
  · go_enter Tryz.func99, Tryz.ntmps99
    go_wp2_with fail
    refine (rin_any h 1 8 _).mono ?_
    rintro e w' ⟨rfl, rfl⟩
    rw [h1]
    go_wp2_with fail
    go_ret
    exact ⟨rfl, hb⟩
  · go_enter Tryz.func99, Tryz.ntmps99
    go_wp2_with fail
    refine (rin_any h 1 8 _).mono ?_
    rintro e w' ⟨rfl, rfl⟩
    rw [h1]
    go_wp2_with fail
    refine (rin_any m 1 400 _).mono ?_
    rintro e w' ⟨rfl, rfl⟩
    go_wp2_with fail
    go_ret
    exact ⟨rfl, hb⟩

theorem validFrame_any (r s d : Int) (w : World) : Calls Tryz.prog 59 #[.agg #[.int .i64 r, .int .i64 s, .int .i64 d]] w fun e w' => e = .returned (.bool (FrV.valid ⟨r, s, d⟩)) ∧ Below w.heap.size w w' := by
  have hb := (Below.refl w.heap.size w).alloc (Nat.le_refl _) (.cells #[.int .i64 r, .int .i64 s, .int .i64 d] 23)
  unfold FrV.valid
  cases h1 : inB r 1 24
  · go_enter Tryz.func59, Tryz.ntmps59
    go_wp2_with fail
    refine (rin_any r 1 24 _).mono ?_
    rintro e w' ⟨rfl, rfl⟩
    rw [h1]
    go_wp2_with fail
    go_ret
    exact ⟨rfl, hb⟩
  · cases h2 : inB s 2 96
    · go_enter Tryz.func59, Tryz.ntmps59
      go_wp2_with fail
      refine (rin_any r 1 24 _).mono ?_
      rintro e w' ⟨rfl, rfl⟩
      rw [h1]
      go_wp2_with fail
      refine (rin_any s 2 96 _).mono ?_
      rintro e w' ⟨rfl, rfl⟩
      rw [h2]
      go_wp2_with fail
      go_ret
      exact ⟨rfl, hb⟩
    · go_enter Tryz.func59, Tryz.ntmps59
      go_wp2_with fail
      refine (rin_any r 1 24 _).mono ?_
      rintro e w' ⟨rfl, rfl⟩
      rw [h1]
      go_wp2_with fail
      refine (rin_any s 2 96 _).mono ?_
      rintro e w' ⟨rfl, rfl⟩
      rw [h2]
      go_wp2_with fail
      refine (rin_any d 1 s _).mono ?_
      rintro e w' ⟨rfl, rfl⟩
      go_wp2_with fail
      go_ret
      exact ⟨rfl, hb⟩

theorem spanned_any (a b lo hi : Int) (w : World) : Calls Tryz.prog 125 #[.agg #[.int .i64 a, .int .i64 b], .int .i64 lo, .int .i64 hi] w fun e w' => e = .returned (.bool (spansB a b lo hi)) ∧ Below w.heap.size w w' := by
  have hb := (Below.refl w.heap.size w).alloc (Nat.le_refl _) (.cells #[.int .i64 a, .int .i64 b] 49)
  unfold spansB
  cases h1 : decide (lo ≤ a)
  · go_enter Tryz.func125, Tryz.ntmps125
    go_wp2_with fail
    go_ret
    exact ⟨rfl, hb⟩
  · cases h2 : decide (a ≤ b)
    · go_enter Tryz.func125, Tryz.ntmps125
      go_wp2_with fail
      go_ret
      exact ⟨rfl, hb⟩
    · go_enter Tryz.func125, Tryz.ntmps125
      go_wp2_with fail
      go_ret
      exact ⟨rfl, hb⟩

section
attribute [local go_sem] noteA_0 noteA_1
theorem rNameOf_any (n : NoteV) (sa : Option Addr) (sc : Nat) (w : World) : Calls Tryz.prog 67 #[.agg (noteA n sa sc)] w fun e w' => e = .returned (.agg #[.int .i64 n.house, .int .i64 n.num]) ∧ Below w.heap.size w w' := by
  have hb := (Below.refl w.heap.size w).alloc (Nat.le_refl _) (.cells (noteA n sa sc) 51)
  go_enter Tryz.func67, Tryz.ntmps67
  go_wp2_with fail
  go_returns
  exact ⟨rfl, hb.alloc hb.size _⟩
end
end Go.Proofs.YtpjiakgfegnmcaaGreat
namespace Go.Proofs.YtpjiakgfegnmcaaGreat
open Go.RowKit

set_option maxHeartbeats 4000000 in
set_option maxRecDepth 100000 in
theorem rstrokes_any (r s d : Int) (a : Option Addr) (n c : Nat) (l : List Int) (w : World) (hr : RdI w a n c l) (hs : 2 ≤ s ∧ s ≤ 96) (hd : 1 ≤ d ∧ d ≤ s) :
    Calls Tryz.prog 126 #[.agg #[.int .i64 r, .int .i64 s, .int .i64 d], .slice a n c] w fun e w' => e = .returned (.bool (strokesB (s - d) l)) ∧ Below w.heap.size w w' := by
  have hb := (Below.refl w.heap.size w).alloc (Nat.le_refl _) (.cells #[.int .i64 r, .int .i64 s, .int .i64 d] 23)
  have hm := hr.maxn
  have hl := Lib.hid hr.len
  have hr1 := hr.below hb
  have HB := Lib.hid hb; clear hb hr
  have HF : Hid (¬ strokesP (s - d) l → strokesB (s - d) l = false) := fun h => by simp [strokesB, h]
  have HT : Hid (strokesP (s - d) l → strokesB (s - d) l = inB n 1 200) := fun h => by simp [strokesB, h, hl.out]
  have HWR := Lib.hid (show IntKind.i64.wrap (s - d) = s - d by rw [IntKind.wrap_i64]; omega)
  generalize strokesB (s - d) l = R at *
  go_enter Tryz.func126, Tryz.ntmps126
  go_wp2_with fail
  have hh := heap_alloc_new w (.cells #[.int .i64 r, .int .i64 s, .int .i64 d] 23)
  generalize w.alloc (.cells #[.int .i64 r, .int .i64 s, .int .i64 d] 23) = W0 at *
  generalize hp : w.heap.size = p0 at *
  have HP := Lib.hid hp; clear hp
  have c1 : W0.cell? ⟨p0, 1, none⟩ = some (.int .i64 s) := by simp only [World.cell?, hh]; rfl
  have c2 : W0.cell? ⟨p0, 2, none⟩ = some (.int .i64 d) := by simp only [World.cell?, hh]; rfl
  have hz0 : p0 ≤ W0.heap.size := Nat.le_of_lt (World.block_lt_of_cell? W0 _ c1)
  have C1 := Lib.hid c1; clear c1
  have C2 := Lib.hid c2; clear c2 hh
  go_loopw [5] (fun i wr => ∃ (k : Nat), k ≤ n ∧ i = .int .i64 k ∧ Hid (Below W0.heap.size W0 wr) ∧ Hid (∀ i, i < k → inB (l[i]?.getD 0) 0 (s - d) = true ∧ (0 < i → l[i-1]?.getD 0 ≤ l[i]?.getD 0))) (fun i _ => n - (intOf i).toNat)
  case atStart => exact ⟨0, Nat.zero_le _, rfl, Lib.hid (Below.refl _ _), Lib.hid (fun j hj => by omega)⟩
  case round =>
    obtain ⟨k, hk, rfl, hbw, HR⟩ := hrel
    have HBw := Lib.hid (HB.out.trans (hbw.out.mono hz0))
    have HZ := hbw.out.size
    by_cases hlt : k < n
    · obtain ⟨b, off, rfl, hc⟩ := (hr1.below hbw.out).at (by omega)
      have e1 := hc k hlt
      have e2 : 0 < k → _ := fun h => hc (k - 1) (by omega)
      have E2 := Lib.hid e2; clear e2
      have hb0 : b < wr.heap.size := World.block_lt_of_cell? wr _ e1
      have c1 := (hbw.out.cell (p := ⟨p0, 1, none⟩) (World.block_lt_of_cell? W0 _ C1.out)).trans C1.out
      have c2 := (hbw.out.cell (p := ⟨p0, 2, none⟩) (World.block_lt_of_cell? W0 _ C2.out)).trans C2.out
      have hp0 : p0 < wr.heap.size := World.block_lt_of_cell? wr _ c1
      clear hc hr1
      have hk64 : (k : Int) ≤ 9223372036854775807 := by omega
      generalize hx : l[k]?.getD 0 = x at *
      have HX := Lib.hid hx; clear hx
      cases hin : inB x 0 (s - d)
      · have hno : ¬ strokesP (s - d) l := fun h => by
          have := (h k (by rw [hl.out]; exact hlt)).1
          rw [HX.out, hin] at this
          cases this
        have HN := Lib.hid (HF.out hno); clear hno
        have HI := Lib.hid hin; clear hin
        go_upto_region 4 with fail
        refine wp_region_quiet (C := fun w' : World => Below wr.heap.size wr w') (by kernel_rfl) (by kernel_rfl) (Below.refl _ _).drew ?_
        show wpQuiet _ _ _ _ (_ :: _) _
        go_big_quiet_want
        go_big_quiet_op
        go_big_quiet_on
        go_big_quiet_want
        go_big_quiet_op
        go_big_quiet_on
        go_big_quiet_want
        refine ⟨.pointer (some ⟨b, off + k, none⟩), fun w0 hC => ?_, ?_⟩
        · clear hC
          go_simp
        simp only [Act.put, lq3, lq4, lq5]
        go_big_quiet_on
        go_big_quiet_want
        refine ⟨.int .i64 x, fun w0 hC => ?_, ?_⟩
        · have cc := (hC.cell (p := ⟨b, off + k, none⟩) hb0).trans e1
          clear hC
          go_simp
        simp only [Act.put, lq3, lq4, lq5]
        go_big_quiet_on
        go_big_quiet_want
        refine ⟨.pointer (some ⟨p0, 1, none⟩), fun w0 hC => ?_, ?_⟩
        · clear hC
          go_simp
        simp only [Act.put, lq3, lq4, lq5]
        go_big_quiet_on
        go_big_quiet_want
        refine ⟨.int .i64 s, fun w0 hC => ?_, ?_⟩
        · have cc := (hC.cell (p := ⟨p0, 1, none⟩) hp0).trans c1
          clear hC
          go_simp
        simp only [Act.put, lq3, lq4, lq5]
        go_big_quiet_on
        go_big_quiet_want
        refine ⟨.pointer (some ⟨p0, 2, none⟩), fun w0 hC => ?_, ?_⟩
        · clear hC
          go_simp
        simp only [Act.put, lq3, lq4, lq5]
        go_big_quiet_on
        go_big_quiet_want
        refine ⟨.int .i64 d, fun w0 hC => ?_, ?_⟩
        · have cc := (hC.cell (p := ⟨p0, 2, none⟩) hp0).trans c2
          clear hC
          go_simp
        simp only [Act.put, lq3, lq4, lq5]
        go_big_quiet_on
        go_big_quiet_want
        refine ⟨.int .i64 (s - d), fun w0 hC => ?_, ?_⟩
        · clear hC
          have HW := HWR.out
          go_simp
        simp only [Act.put, lq3, lq4, lq5]
        go_big_quiet_on
        go_big_quiet_want
        refine ⟨.bool false, fun w0 hC => ?_, ?_⟩
        · go_simp
          refine (rin_any x 0 (s - d) _).mono ?_
          rintro e w' ⟨rfl, rfl⟩
          exact ⟨by rw [HI.out], hC⟩
        simp only [Act.put, lq3, lq4, lq5]
        go_big_quiet_on
        go_big_quiet_want
        refine ⟨.bool true, fun w0 hC => ?_, ?_⟩
        · clear hC
          go_simp
        simp only [Act.put, lq3, lq4, lq5]
        go_big_quiet_on
        go_big_quiet_want
        go_big_quiet_op
        go_big_quiet_on
        go_big_quiet_skip
        go_big_quiet_skip
        go_big_quiet_skip
        go_big_quiet_skip
        go_big_quiet_skip
        go_big_quiet_skip
        go_big_quiet_skip
        go_big_quiet_skip
        go_big_quiet_skip
        go_big_quiet_skip
        go_big_quiet_skip
        go_big_quiet_skip
        go_big_quiet_skip
        go_big_quiet_skip
        go_big_quiet_want
        refine ⟨.bool true, fun w0 hC => ?_, ?_⟩
        · clear hC
          go_simp
        simp only [Act.put, lq3, lq4, lq5]
        go_big_quiet_on
        refine wpQuiet_nil ?_
        intro w' hC
        go_wp2_with fail
        go_ret
        rw [HN.out]
        exact ⟨rfl, by rw [HP.out]; exact HBw.out.trans (hC.mono (Nat.le_trans hz0 HZ))⟩
      · have HI := Lib.hid hin; clear hin
        by_cases h0 : 0 < k
        · have q0 : decide ((0 : Int) < (k : Int)) = true := by simp; exact h0
          have e2 := E2.out h0
          have hb1 := hb0
          have ek : ((k : Int) - 1) = ((k - 1 : Nat) : Int) := by omega
          have HW2 := Lib.hid (show IntKind.i64.wrap ((k - 1 : Nat) : Int) = ((k - 1 : Nat) : Int) by rw [IntKind.wrap_i64]; omega)
          have hk1 : ((k - 1 : Nat) : Int) < (n : Int) := by omega
          have hk2 : (0 : Int) ≤ ((k - 1 : Nat) : Int) := by omega
          have hk3 : k - 1 < n := by omega
          generalize hy : l[k-1]?.getD 0 = y at *
          have HY := Lib.hid hy; clear hy
          by_cases h1 : x < y
          · have q1 : decide (x < y) = true := by simp; exact h1
            have hno : ¬ strokesP (s - d) l := fun h => by
              have := (h k (by rw [hl.out]; exact hlt)).2 h0
              rw [HX.out, HY.out] at this
              omega
            have HN := Lib.hid (HF.out hno); clear hno
            go_upto_region 4 with fail
            refine wp_region_quiet (C := fun w' : World => Below wr.heap.size wr w') (by kernel_rfl) (by kernel_rfl) (Below.refl _ _).drew ?_
            show wpQuiet _ _ _ _ (_ :: _) _
            go_big_quiet_want
            go_big_quiet_op
            go_big_quiet_on
            go_big_quiet_want
            go_big_quiet_op
            go_big_quiet_on
            go_big_quiet_want
            refine ⟨.pointer (some ⟨b, off + k, none⟩), fun w0 hC => ?_, ?_⟩
            · clear hC
              go_simp
            simp only [Act.put, lq3, lq4, lq5]
            go_big_quiet_on
            go_big_quiet_want
            refine ⟨.int .i64 x, fun w0 hC => ?_, ?_⟩
            · have cc := (hC.cell (p := ⟨b, off + k, none⟩) hb0).trans e1
              clear hC
              go_simp
            simp only [Act.put, lq3, lq4, lq5]
            go_big_quiet_on
            go_big_quiet_want
            refine ⟨.pointer (some ⟨p0, 1, none⟩), fun w0 hC => ?_, ?_⟩
            · clear hC
              go_simp
            simp only [Act.put, lq3, lq4, lq5]
            go_big_quiet_on
            go_big_quiet_want
            refine ⟨.int .i64 s, fun w0 hC => ?_, ?_⟩
            · have cc := (hC.cell (p := ⟨p0, 1, none⟩) hp0).trans c1
              clear hC
              go_simp
            simp only [Act.put, lq3, lq4, lq5]
            go_big_quiet_on
            go_big_quiet_want
            refine ⟨.pointer (some ⟨p0, 2, none⟩), fun w0 hC => ?_, ?_⟩
            · clear hC
              go_simp
            simp only [Act.put, lq3, lq4, lq5]
            go_big_quiet_on
            go_big_quiet_want
            refine ⟨.int .i64 d, fun w0 hC => ?_, ?_⟩
            · have cc := (hC.cell (p := ⟨p0, 2, none⟩) hp0).trans c2
              clear hC
              go_simp
            simp only [Act.put, lq3, lq4, lq5]
            go_big_quiet_on
            go_big_quiet_want
            refine ⟨.int .i64 (s - d), fun w0 hC => ?_, ?_⟩
            · clear hC
              have HW := HWR.out
              go_simp
            simp only [Act.put, lq3, lq4, lq5]
            go_big_quiet_on
            go_big_quiet_want
            refine ⟨.bool true, fun w0 hC => ?_, ?_⟩
            · go_simp
              refine (rin_any x 0 (s - d) _).mono ?_
              rintro e w' ⟨rfl, rfl⟩
              exact ⟨by rw [HI.out], hC⟩
            simp only [Act.put, lq3, lq4, lq5]
            go_big_quiet_on
            go_big_quiet_want
            refine ⟨.bool false, fun w0 hC => ?_, ?_⟩
            · clear hC
              go_simp
            simp only [Act.put, lq3, lq4, lq5]
            go_big_quiet_on
            go_big_quiet_want
            go_big_quiet_op
            go_big_quiet_on
            go_big_quiet_want
            go_big_quiet_op
            go_big_quiet_on
            go_big_quiet_want
            refine ⟨.bool true, fun w0 hC => ?_, ?_⟩
            · clear hC
              go_simp
            simp only [Act.put, lq3, lq4, lq5]
            go_big_quiet_on
            go_big_quiet_want
            go_big_quiet_op
            go_big_quiet_on
            go_big_quiet_want
            go_big_quiet_op
            go_big_quiet_on
            go_big_quiet_want
            go_big_quiet_op
            go_big_quiet_on
            go_big_quiet_want
            refine ⟨.pointer (some ⟨b, off + k, none⟩), fun w0 hC => ?_, ?_⟩
            · clear hC
              go_simp
            simp only [Act.put, lq3, lq4, lq5]
            go_big_quiet_on
            go_big_quiet_want
            refine ⟨.int .i64 x, fun w0 hC => ?_, ?_⟩
            · have cc := (hC.cell (p := ⟨b, off + k, none⟩) hb0).trans e1
              clear hC
              go_simp
            simp only [Act.put, lq3, lq4, lq5]
            go_big_quiet_on
            go_big_quiet_want
            go_big_quiet_op
            go_big_quiet_on
            go_big_quiet_want
            go_big_quiet_op
            go_big_quiet_on
            go_big_quiet_want
            refine ⟨.int .i64 ((k - 1 : Nat) : Int), fun w0 hC => ?_, ?_⟩
            · clear hC
              have HV := HW2.out
              go_simp
            simp only [Act.put, lq3, lq4, lq5]
            go_big_quiet_on
            go_big_quiet_want
            refine ⟨.pointer (some ⟨b, off + (k - 1), none⟩), fun w0 hC => ?_, ?_⟩
            · clear hC
              go_simp
            simp only [Act.put, lq3, lq4, lq5]
            go_big_quiet_on
            go_big_quiet_want
            refine ⟨.int .i64 y, fun w0 hC => ?_, ?_⟩
            · have cc := (hC.cell (p := ⟨b, off + (k - 1), none⟩) hb1).trans e2
              clear hC
              go_simp
            simp only [Act.put, lq3, lq4, lq5]
            go_big_quiet_on
            go_big_quiet_want
            refine ⟨.bool true, fun w0 hC => ?_, ?_⟩
            · clear hC
              go_simp
            simp only [Act.put, lq3, lq4, lq5]
            go_big_quiet_on
            go_big_quiet_want
            refine ⟨.bool true, fun w0 hC => ?_, ?_⟩
            · clear hC
              go_simp
            simp only [Act.put, lq3, lq4, lq5]
            go_big_quiet_on
            go_big_quiet_want
            refine ⟨.bool true, fun w0 hC => ?_, ?_⟩
            · clear hC
              go_simp
            simp only [Act.put, lq3, lq4, lq5]
            go_big_quiet_on
            refine wpQuiet_nil ?_
            intro w' hC
            go_wp2_with fail
            go_ret
            rw [HN.out]
            exact ⟨rfl, by rw [HP.out]; exact HBw.out.trans (hC.mono (Nat.le_trans hz0 HZ))⟩
          · have q1 : decide (x < y) = false := by simp; omega
            have HG := Lib.hid (show inB x 0 (s - d) = true ∧ (0 < k → y ≤ x) from ⟨HI.out, fun _ => by omega⟩)
            go_upto_region 4 with fail
            refine wp_region_quiet (C := fun w' : World => Below wr.heap.size wr w') (by kernel_rfl) (by kernel_rfl) (Below.refl _ _).drew ?_
            show wpQuiet _ _ _ _ (_ :: _) _
            go_big_quiet_want
            go_big_quiet_op
            go_big_quiet_on
            go_big_quiet_want
            go_big_quiet_op
            go_big_quiet_on
            go_big_quiet_want
            refine ⟨.pointer (some ⟨b, off + k, none⟩), fun w0 hC => ?_, ?_⟩
            · clear hC
              go_simp
            simp only [Act.put, lq3, lq4, lq5]
            go_big_quiet_on
            go_big_quiet_want
            refine ⟨.int .i64 x, fun w0 hC => ?_, ?_⟩
            · have cc := (hC.cell (p := ⟨b, off + k, none⟩) hb0).trans e1
              clear hC
              go_simp
            simp only [Act.put, lq3, lq4, lq5]
            go_big_quiet_on
            go_big_quiet_want
            refine ⟨.pointer (some ⟨p0, 1, none⟩), fun w0 hC => ?_, ?_⟩
            · clear hC
              go_simp
            simp only [Act.put, lq3, lq4, lq5]
            go_big_quiet_on
            go_big_quiet_want
            refine ⟨.int .i64 s, fun w0 hC => ?_, ?_⟩
            · have cc := (hC.cell (p := ⟨p0, 1, none⟩) hp0).trans c1
              clear hC
              go_simp
            simp only [Act.put, lq3, lq4, lq5]
            go_big_quiet_on
            go_big_quiet_want
            refine ⟨.pointer (some ⟨p0, 2, none⟩), fun w0 hC => ?_, ?_⟩
            · clear hC
              go_simp
            simp only [Act.put, lq3, lq4, lq5]
            go_big_quiet_on
            go_big_quiet_want
            refine ⟨.int .i64 d, fun w0 hC => ?_, ?_⟩
            · have cc := (hC.cell (p := ⟨p0, 2, none⟩) hp0).trans c2
              clear hC
              go_simp
            simp only [Act.put, lq3, lq4, lq5]
            go_big_quiet_on
            go_big_quiet_want
            refine ⟨.int .i64 (s - d), fun w0 hC => ?_, ?_⟩
            · clear hC
              have HW := HWR.out
              go_simp
            simp only [Act.put, lq3, lq4, lq5]
            go_big_quiet_on
            go_big_quiet_want
            refine ⟨.bool true, fun w0 hC => ?_, ?_⟩
            · go_simp
              refine (rin_any x 0 (s - d) _).mono ?_
              rintro e w' ⟨rfl, rfl⟩
              exact ⟨by rw [HI.out], hC⟩
            simp only [Act.put, lq3, lq4, lq5]
            go_big_quiet_on
            go_big_quiet_want
            refine ⟨.bool false, fun w0 hC => ?_, ?_⟩
            · clear hC
              go_simp
            simp only [Act.put, lq3, lq4, lq5]
            go_big_quiet_on
            go_big_quiet_want
            go_big_quiet_op
            go_big_quiet_on
            go_big_quiet_want
            go_big_quiet_op
            go_big_quiet_on
            go_big_quiet_want
            refine ⟨.bool true, fun w0 hC => ?_, ?_⟩
            · clear hC
              go_simp
            simp only [Act.put, lq3, lq4, lq5]
            go_big_quiet_on
            go_big_quiet_want
            go_big_quiet_op
            go_big_quiet_on
            go_big_quiet_want
            go_big_quiet_op
            go_big_quiet_on
            go_big_quiet_want
            go_big_quiet_op
            go_big_quiet_on
            go_big_quiet_want
            refine ⟨.pointer (some ⟨b, off + k, none⟩), fun w0 hC => ?_, ?_⟩
            · clear hC
              go_simp
            simp only [Act.put, lq3, lq4, lq5]
            go_big_quiet_on
            go_big_quiet_want
            refine ⟨.int .i64 x, fun w0 hC => ?_, ?_⟩
            · have cc := (hC.cell (p := ⟨b, off + k, none⟩) hb0).trans e1
              clear hC
              go_simp
            simp only [Act.put, lq3, lq4, lq5]
            go_big_quiet_on
            go_big_quiet_want
            go_big_quiet_op
            go_big_quiet_on
            go_big_quiet_want
            go_big_quiet_op
            go_big_quiet_on
            go_big_quiet_want
            refine ⟨.int .i64 ((k - 1 : Nat) : Int), fun w0 hC => ?_, ?_⟩
            · clear hC
              have HV := HW2.out
              go_simp
            simp only [Act.put, lq3, lq4, lq5]
            go_big_quiet_on
            go_big_quiet_want
            refine ⟨.pointer (some ⟨b, off + (k - 1), none⟩), fun w0 hC => ?_, ?_⟩
            · clear hC
              go_simp
            simp only [Act.put, lq3, lq4, lq5]
            go_big_quiet_on
            go_big_quiet_want
            refine ⟨.int .i64 y, fun w0 hC => ?_, ?_⟩
            · have cc := (hC.cell (p := ⟨b, off + (k - 1), none⟩) hb1).trans e2
              clear hC
              go_simp
            simp only [Act.put, lq3, lq4, lq5]
            go_big_quiet_on
            go_big_quiet_want
            refine ⟨.bool false, fun w0 hC => ?_, ?_⟩
            · clear hC
              go_simp
            simp only [Act.put, lq3, lq4, lq5]
            go_big_quiet_on
            go_big_quiet_want
            refine ⟨.bool false, fun w0 hC => ?_, ?_⟩
            · clear hC
              go_simp
            simp only [Act.put, lq3, lq4, lq5]
            go_big_quiet_on
            go_big_quiet_want
            refine ⟨.bool false, fun w0 hC => ?_, ?_⟩
            · clear hC
              go_simp
            simp only [Act.put, lq3, lq4, lq5]
            go_big_quiet_on
            refine wpQuiet_nil ?_
            intro w' hC
            have HC := Lib.hid (hbw.out.trans (hC.mono HZ)); clear hC
            go_wp2_with fail
            go_roundw
            case rel => exact ⟨k + 1, by omega, by go_num, HC, Lib.hid fun j hj => by
              rcases Nat.lt_succ_iff_lt_or_eq.1 hj with h | h
              · exact HR.out j h
              · rw [h, HX.out, HY.out]; exact HG.out⟩
            case measure => simp [intOf]; omega
        · have q0 : decide ((0 : Int) < (k : Int)) = false := by simp; omega
          have HG := Lib.hid (show inB x 0 (s - d) = true ∧ (0 < k → l[k-1]?.getD 0 ≤ x) from ⟨HI.out, fun h => absurd h h0⟩)
          go_upto_region 4 with fail
          refine wp_region_quiet (C := fun w' : World => Below wr.heap.size wr w') (by kernel_rfl) (by kernel_rfl) (Below.refl _ _).drew ?_
          show wpQuiet _ _ _ _ (_ :: _) _
          go_big_quiet_want
          go_big_quiet_op
          go_big_quiet_on
          go_big_quiet_want
          go_big_quiet_op
          go_big_quiet_on
          go_big_quiet_want
          refine ⟨.pointer (some ⟨b, off + k, none⟩), fun w0 hC => ?_, ?_⟩
          · clear hC
            go_simp
          simp only [Act.put, lq3, lq4, lq5]
          go_big_quiet_on
          go_big_quiet_want
          refine ⟨.int .i64 x, fun w0 hC => ?_, ?_⟩
          · have cc := (hC.cell (p := ⟨b, off + k, none⟩) hb0).trans e1
            clear hC
            go_simp
          simp only [Act.put, lq3, lq4, lq5]
          go_big_quiet_on
          go_big_quiet_want
          refine ⟨.pointer (some ⟨p0, 1, none⟩), fun w0 hC => ?_, ?_⟩
          · clear hC
            go_simp
          simp only [Act.put, lq3, lq4, lq5]
          go_big_quiet_on
          go_big_quiet_want
          refine ⟨.int .i64 s, fun w0 hC => ?_, ?_⟩
          · have cc := (hC.cell (p := ⟨p0, 1, none⟩) hp0).trans c1
            clear hC
            go_simp
          simp only [Act.put, lq3, lq4, lq5]
          go_big_quiet_on
          go_big_quiet_want
          refine ⟨.pointer (some ⟨p0, 2, none⟩), fun w0 hC => ?_, ?_⟩
          · clear hC
            go_simp
          simp only [Act.put, lq3, lq4, lq5]
          go_big_quiet_on
          go_big_quiet_want
          refine ⟨.int .i64 d, fun w0 hC => ?_, ?_⟩
          · have cc := (hC.cell (p := ⟨p0, 2, none⟩) hp0).trans c2
            clear hC
            go_simp
          simp only [Act.put, lq3, lq4, lq5]
          go_big_quiet_on
          go_big_quiet_want
          refine ⟨.int .i64 (s - d), fun w0 hC => ?_, ?_⟩
          · clear hC
            have HW := HWR.out
            go_simp
          simp only [Act.put, lq3, lq4, lq5]
          go_big_quiet_on
          go_big_quiet_want
          refine ⟨.bool true, fun w0 hC => ?_, ?_⟩
          · go_simp
            refine (rin_any x 0 (s - d) _).mono ?_
            rintro e w' ⟨rfl, rfl⟩
            exact ⟨by rw [HI.out], hC⟩
          simp only [Act.put, lq3, lq4, lq5]
          go_big_quiet_on
          go_big_quiet_want
          refine ⟨.bool false, fun w0 hC => ?_, ?_⟩
          · clear hC
            go_simp
          simp only [Act.put, lq3, lq4, lq5]
          go_big_quiet_on
          go_big_quiet_want
          go_big_quiet_op
          go_big_quiet_on
          go_big_quiet_want
          go_big_quiet_op
          go_big_quiet_on
          go_big_quiet_want
          refine ⟨.bool false, fun w0 hC => ?_, ?_⟩
          · clear hC
            go_simp
          simp only [Act.put, lq3, lq4, lq5]
          go_big_quiet_on
          go_big_quiet_want
          go_big_quiet_op
          go_big_quiet_on
          go_big_quiet_skip
          go_big_quiet_skip
          go_big_quiet_skip
          go_big_quiet_skip
          go_big_quiet_skip
          go_big_quiet_skip
          go_big_quiet_skip
          go_big_quiet_skip
          go_big_quiet_skip
          go_big_quiet_skip
          go_big_quiet_want
          refine ⟨.bool false, fun w0 hC => ?_, ?_⟩
          · clear hC
            go_simp
          simp only [Act.put, lq3, lq4, lq5]
          go_big_quiet_on
          go_big_quiet_want
          refine ⟨.bool false, fun w0 hC => ?_, ?_⟩
          · clear hC
            go_simp
          simp only [Act.put, lq3, lq4, lq5]
          go_big_quiet_on
          refine wpQuiet_nil ?_
          intro w' hC
          have HC := Lib.hid (hbw.out.trans (hC.mono HZ)); clear hC
          go_wp2_with fail
          go_roundw
          case rel => exact ⟨k + 1, by omega, by go_num, HC, Lib.hid fun j hj => by
            rcases Nat.lt_succ_iff_lt_or_eq.1 hj with h | h
            · exact HR.out j h
            · rw [h, HX.out]; exact HG.out⟩
          case measure => simp [intOf]; omega
    · have hkn : k = n := by omega
      subst hkn
      have hyes : strokesP (s - d) l := fun i hi => HR.out i (by rw [hl.out] at hi; exact hi)
      have HY := Lib.hid (HT.out hyes); clear hyes hr1
      go_wp2_with fail
      refine (rin_any _ _ _ _).mono ?_
      rintro e w' ⟨rfl, rfl⟩
      go_wp2_with fail
      go_ret
      rw [HY.out]
      exact ⟨rfl, by rw [HP.out]; exact HBw.out⟩
end Go.Proofs.YtpjiakgfegnmcaaGreat
namespace Go.Proofs.YtpjiakgfegnmcaaGreat
open Go.RowKit

def bare0 (n : NoteV) : NoteV := { n with house := 0, num := 0, clock := 0, day := 0, kind := 0, refH := 0, refN := 0, fix := 0 }
def bareR (k : Int) (n : NoteV) : NoteV :=
  if k = 1 then { bare0 n with hardLo := 0, hardHi := 0 } else if k = 2 then { bare0 n with turns := 0 } else if k = 3 then { bare0 n with stone := 0, a := 0, b := 0, diffLo := 0, diffHi := 0 }
  else if k = 4 then { bare0 n with stone := 0, ring := 0, strokes := [] } else bare0 n
structure Loc2 (w W : World) (p0 p1 p2 : Nat) (C : Array Value) : Prop where
  e1 : W.heap[p1]? = some (.cells (noteA zeroN none 0) 51 (0, 0))
  e2 : W.heap[p2]? = some (.cells C 51 (0, 0))
  b : Below p0 w W
  lt : p0 < p1 ∧ p1 < p2
theorem Loc2.set {w W : World} {p0 p1 p2 : Nat} {C : Array Value} (h : Loc2 w W p0 p1 p2 C) (j : Nat) (v : Value) : Loc2 w (W.setCell ⟨p2, j, none⟩ v) p0 p1 p2 (C.setIfInBounds j v) := by
  have g : ∀ {k : Nat}, k ≠ p2 → (W.setCell ⟨p2, j, none⟩ v).heap[k]? = W.heap[k]? := fun {k} hk => Below.heap_setCell W ⟨p2, j, none⟩ v k hk
  have hl := h.lt
  exact ⟨(g (by omega)).trans h.e1, heap_setCell_same W p2 j C 51 v h.e2, h.b.trans ⟨rfl, rfl, rfl, by simp [World.setCell], fun k hk => g (by omega)⟩, h.lt⟩
theorem Loc2.done {w W : World} {p0 p1 p2 : Nat} {C : Array Value} (h : Loc2 w W p0 p1 p2 C) (C' : Array Value) : (W.setRow p1 C').heap[p1]? = some (.cells C' 51 (0, 0)) ∧ Below p0 w (W.setRow p1 C') := by
  have hl := h.lt
  exact ⟨setRow_heap W p1 _ C' _ _ h.e1, h.b.trans ⟨rfl, rfl, rfl, by simp, fun k hk => setRow_other W p1 k C' (by omega)⟩⟩

section
attribute [local go_sem] noteA_0 noteA_1 noteA_2 noteA_3 noteA_4 noteA_5 noteA_6 noteA_7 noteA_8 noteA_9 noteA_10 noteA_11 noteA_12 noteA_13 noteA_14 noteA_15 noteA_16 noteA_17 noteA_18 noteA_s0 noteA_s1 noteA_s2 noteA_s3 noteA_s4 noteA_s5 noteA_s6 noteA_s7 noteA_s8 noteA_s9 noteA_s10 noteA_s11 noteA_s12 noteA_s13 noteA_s14 noteA_s15 noteA_s16 noteA_s17 noteA_s18
variable (n : NoteV) (sa : Option Addr) (sc : Nat) (w : World)
set_option maxHeartbeats 2000000 in
set_option maxRecDepth 100000 in
theorem bare_1 : Calls Tryz.prog 100 #[.int .i64 1, .agg (noteA n sa sc)] w fun e w' => e = .returned (.agg (noteA (bareR 1 n) sa sc)) ∧ Below w.heap.size w w' := by
  have I43 := Lib.hid (show ∀ (m : NoteV) (a : Option Addr) (c : Nat), (Tryz.prog.info? 51).map (·.size) = some (noteA m a c).size from fun m a c => by kernel_rfl)
  have one1 := noteA_one n sa sc
  have g1 := heap_before (w.alloc (.cells (noteA n sa sc) 51)) (.cells (noteA zeroN none 0) 51) _ _ (heap_last w (.cells (noteA n sa sc) 51))
  have G1 := Lib.hid g1; clear g1
  go_enter Tryz.func100, Tryz.ntmps100
  have one2 := noteA_one (bareR 1 n) sa sc
  go_wp2_with (first
    | (refine wpList_load_row rfl 51 _ rfl w.heap.size rfl 51 (noteA n sa sc) (0, 0) _ G1.out Tryz.underlying51 rfl (I43.out _ _ _) ?_)
    | (refine wpList_store_newp _ rfl 51 _ _ rfl (w.heap.size + 1 + 1) ?hp _ (noteA n sa sc) rfl rfl (I43.out _ _ _) rfl one1 ?_; case hp => simp)
    | (refine wpList_load_row rfl 51 _ rfl (w.heap.size + 1 + 1) rfl 51 (noteA (bareR 1 n) sa sc) (0, 0) _ ?hg Tryz.underlying51 rfl (I43.out _ _ _) ?_; case hg => exact heap_at _ _ _ (by simp))
    | (refine wpList_store_rowN rfl 51 _ _ rfl (w.heap.size + 1) (noteA zeroN none 0) (noteA (bareR 1 n) sa sc) 51 rfl rfl ?hg (I43.out _ _ _) rfl one2 ?_; case hg => exact heap_before _ _ _ _ (heap_at _ _ _ (by simp))))
  refine bodyPost_ret (results_cell_row rfl _ _ (w.heap.size + 1) 51 (noteA (bareR 1 n) sa sc) (0, 0) _ rfl ?hg Tryz.underlying51 rfl (I43.out _ _ _)) rfl ?_
  case hg => exact setRow_heap _ _ _ _ _ _ (heap_before _ _ _ _ (heap_at _ _ _ (by simp)))
  refine ⟨rfl, ?_⟩
  refine (((Below.refl w.heap.size w).alloc (Nat.le_refl _) _).alloc (by simp) _).alloc (by simp; omega) _ |>.trans ⟨rfl, rfl, rfl, by simp, fun k hk => setRow_other _ _ k _ (by omega)⟩
set_option maxHeartbeats 2000000 in
set_option maxRecDepth 100000 in
theorem bare_2 : Calls Tryz.prog 100 #[.int .i64 2, .agg (noteA n sa sc)] w fun e w' => e = .returned (.agg (noteA (bareR 2 n) sa sc)) ∧ Below w.heap.size w w' := by
  have I43 := Lib.hid (show ∀ (m : NoteV) (a : Option Addr) (c : Nat), (Tryz.prog.info? 51).map (·.size) = some (noteA m a c).size from fun m a c => by kernel_rfl)
  have one1 := noteA_one n sa sc
  have g1 := heap_before (w.alloc (.cells (noteA n sa sc) 51)) (.cells (noteA zeroN none 0) 51) _ _ (heap_last w (.cells (noteA n sa sc) 51))
  have G1 := Lib.hid g1; clear g1
  go_enter Tryz.func100, Tryz.ntmps100
  have one2 := noteA_one (bareR 2 n) sa sc
  go_wp2_with (first
    | (refine wpList_load_row rfl 51 _ rfl w.heap.size rfl 51 (noteA n sa sc) (0, 0) _ G1.out Tryz.underlying51 rfl (I43.out _ _ _) ?_)
    | (refine wpList_store_newp _ rfl 51 _ _ rfl (w.heap.size + 1 + 1) ?hp _ (noteA n sa sc) rfl rfl (I43.out _ _ _) rfl one1 ?_; case hp => simp)
    | (refine wpList_load_row rfl 51 _ rfl (w.heap.size + 1 + 1) rfl 51 (noteA (bareR 2 n) sa sc) (0, 0) _ ?hg Tryz.underlying51 rfl (I43.out _ _ _) ?_; case hg => exact heap_at _ _ _ (by simp))
    | (refine wpList_store_rowN rfl 51 _ _ rfl (w.heap.size + 1) (noteA zeroN none 0) (noteA (bareR 2 n) sa sc) 51 rfl rfl ?hg (I43.out _ _ _) rfl one2 ?_; case hg => exact heap_before _ _ _ _ (heap_at _ _ _ (by simp))))
  refine bodyPost_ret (results_cell_row rfl _ _ (w.heap.size + 1) 51 (noteA (bareR 2 n) sa sc) (0, 0) _ rfl ?hg Tryz.underlying51 rfl (I43.out _ _ _)) rfl ?_
  case hg => exact setRow_heap _ _ _ _ _ _ (heap_before _ _ _ _ (heap_at _ _ _ (by simp)))
  refine ⟨rfl, ?_⟩
  refine (((Below.refl w.heap.size w).alloc (Nat.le_refl _) _).alloc (by simp) _).alloc (by simp; omega) _ |>.trans ⟨rfl, rfl, rfl, by simp, fun k hk => setRow_other _ _ k _ (by omega)⟩
set_option maxHeartbeats 2000000 in
set_option maxRecDepth 100000 in
theorem bare_3 : Calls Tryz.prog 100 #[.int .i64 3, .agg (noteA n sa sc)] w fun e w' => e = .returned (.agg (noteA (bareR 3 n) sa sc)) ∧ Below w.heap.size w w' := by
  have I43 := Lib.hid (show ∀ (m : NoteV) (a : Option Addr) (c : Nat), (Tryz.prog.info? 51).map (·.size) = some (noteA m a c).size from fun m a c => by kernel_rfl)
  have one1 := noteA_one n sa sc
  have g1 := heap_before (w.alloc (.cells (noteA n sa sc) 51)) (.cells (noteA zeroN none 0) 51) _ _ (heap_last w (.cells (noteA n sa sc) 51))
  have G1 := Lib.hid g1; clear g1
  go_enter Tryz.func100, Tryz.ntmps100
  have one2 := noteA_one (bareR 3 n) sa sc
  go_wp2_with (first
    | (refine wpList_load_row rfl 51 _ rfl w.heap.size rfl 51 (noteA n sa sc) (0, 0) _ G1.out Tryz.underlying51 rfl (I43.out _ _ _) ?_)
    | (refine wpList_store_newp _ rfl 51 _ _ rfl (w.heap.size + 1 + 1) ?hp _ (noteA n sa sc) rfl rfl (I43.out _ _ _) rfl one1 ?_; case hp => simp)
    | (refine wpList_load_row rfl 51 _ rfl (w.heap.size + 1 + 1) rfl 51 (noteA (bareR 3 n) sa sc) (0, 0) _ ?hg Tryz.underlying51 rfl (I43.out _ _ _) ?_; case hg => exact heap_at _ _ _ (by simp))
    | (refine wpList_store_rowN rfl 51 _ _ rfl (w.heap.size + 1) (noteA zeroN none 0) (noteA (bareR 3 n) sa sc) 51 rfl rfl ?hg (I43.out _ _ _) rfl one2 ?_; case hg => exact heap_before _ _ _ _ (heap_at _ _ _ (by simp))))
  refine bodyPost_ret (results_cell_row rfl _ _ (w.heap.size + 1) 51 (noteA (bareR 3 n) sa sc) (0, 0) _ rfl ?hg Tryz.underlying51 rfl (I43.out _ _ _)) rfl ?_
  case hg => exact setRow_heap _ _ _ _ _ _ (heap_before _ _ _ _ (heap_at _ _ _ (by simp)))
  refine ⟨rfl, ?_⟩
  refine (((Below.refl w.heap.size w).alloc (Nat.le_refl _) _).alloc (by simp) _).alloc (by simp; omega) _ |>.trans ⟨rfl, rfl, rfl, by simp, fun k hk => setRow_other _ _ k _ (by omega)⟩
set_option maxHeartbeats 2000000 in
set_option maxRecDepth 100000 in
theorem bare_4 : Calls Tryz.prog 100 #[.int .i64 4, .agg (noteA n sa sc)] w fun e w' => e = .returned (.agg (noteA (bareR 4 n) none 0)) ∧ Below w.heap.size w w' := by
  have I43 := Lib.hid (show ∀ (m : NoteV) (a : Option Addr) (c : Nat), (Tryz.prog.info? 51).map (·.size) = some (noteA m a c).size from fun m a c => by kernel_rfl)
  have one1 := noteA_one n sa sc
  have g1 := heap_before (w.alloc (.cells (noteA n sa sc) 51)) (.cells (noteA zeroN none 0) 51) _ _ (heap_last w (.cells (noteA n sa sc) 51))
  have G1 := Lib.hid g1; clear g1
  go_enter Tryz.func100, Tryz.ntmps100
  have one2 := noteA_one (bareR 4 n) none 0
  go_wp2_with (first
    | (refine wpList_load_row rfl 51 _ rfl w.heap.size rfl 51 (noteA n sa sc) (0, 0) _ G1.out Tryz.underlying51 rfl (I43.out _ _ _) ?_)
    | (refine wpList_store_newp _ rfl 51 _ _ rfl (w.heap.size + 1 + 1) ?hp _ (noteA n sa sc) rfl rfl (I43.out _ _ _) rfl one1 ?_; case hp => simp)
    | (refine wpList_load_row rfl 51 _ rfl (w.heap.size + 1 + 1) rfl 51 (noteA (bareR 4 n) none 0) (0, 0) _ ?hg Tryz.underlying51 rfl (I43.out _ _ _) ?_; case hg => exact heap_at _ _ _ (by simp))
    | (refine wpList_store_rowN rfl 51 _ _ rfl (w.heap.size + 1) (noteA zeroN none 0) (noteA (bareR 4 n) none 0) 51 rfl rfl ?hg (I43.out _ _ _) rfl one2 ?_; case hg => exact heap_before _ _ _ _ (heap_at _ _ _ (by simp))))
  refine bodyPost_ret (results_cell_row rfl _ _ (w.heap.size + 1) 51 (noteA (bareR 4 n) none 0) (0, 0) _ rfl ?hg Tryz.underlying51 rfl (I43.out _ _ _)) rfl ?_
  case hg => exact setRow_heap _ _ _ _ _ _ (heap_before _ _ _ _ (heap_at _ _ _ (by simp)))
  refine ⟨rfl, ?_⟩
  refine (((Below.refl w.heap.size w).alloc (Nat.le_refl _) _).alloc (by simp) _).alloc (by simp; omega) _ |>.trans ⟨rfl, rfl, rfl, by simp, fun k hk => setRow_other _ _ k _ (by omega)⟩
set_option maxHeartbeats 2000000 in
set_option maxRecDepth 100000 in
theorem bare_o (k : Int) (hk : ¬ (1 ≤ k ∧ k ≤ 4)) : Calls Tryz.prog 100 #[.int .i64 k, .agg (noteA n sa sc)] w fun e w' => e = .returned (.agg (noteA (bare0 n) sa sc)) ∧ Below w.heap.size w w' := by
  have I43 := Lib.hid (show ∀ (m : NoteV) (a : Option Addr) (c : Nat), (Tryz.prog.info? 51).map (·.size) = some (noteA m a c).size from fun m a c => by kernel_rfl)
  have q1 : (k == 1) = false := by simp; omega
  have r1 : decide (k = 1) = false := by simp; omega
  have q2 : (k == 2) = false := by simp; omega
  have r2 : decide (k = 2) = false := by simp; omega
  have q3 : (k == 3) = false := by simp; omega
  have r3 : decide (k = 3) = false := by simp; omega
  have q4 : (k == 4) = false := by simp; omega
  have r4 : decide (k = 4) = false := by simp; omega
  clear hk
  have one1 := noteA_one n sa sc
  have g1 := heap_before (w.alloc (.cells (noteA n sa sc) 51)) (.cells (noteA zeroN none 0) 51) _ _ (heap_last w (.cells (noteA n sa sc) 51))
  have G1 := Lib.hid g1; clear g1
  go_enter Tryz.func100, Tryz.ntmps100
  have one2 := noteA_one (bare0 n) sa sc
  go_wp2_with (first
    | (refine wpList_load_row rfl 51 _ rfl w.heap.size rfl 51 (noteA n sa sc) (0, 0) _ G1.out Tryz.underlying51 rfl (I43.out _ _ _) ?_)
    | (refine wpList_store_newp _ rfl 51 _ _ rfl (w.heap.size + 1 + 1) ?hp _ (noteA n sa sc) rfl rfl (I43.out _ _ _) rfl one1 ?_; case hp => simp)
    | (refine wpList_load_row rfl 51 _ rfl (w.heap.size + 1 + 1) rfl 51 (noteA (bare0 n) sa sc) (0, 0) _ ?hg Tryz.underlying51 rfl (I43.out _ _ _) ?_; case hg => exact heap_at _ _ _ (by simp))
    | (refine wpList_store_rowN rfl 51 _ _ rfl (w.heap.size + 1) (noteA zeroN none 0) (noteA (bare0 n) sa sc) 51 rfl rfl ?hg (I43.out _ _ _) rfl one2 ?_; case hg => exact heap_before _ _ _ _ (heap_at _ _ _ (by simp))))
  refine bodyPost_ret (results_cell_row rfl _ _ (w.heap.size + 1) 51 (noteA (bare0 n) sa sc) (0, 0) _ rfl ?hg Tryz.underlying51 rfl (I43.out _ _ _)) rfl ?_
  case hg => exact setRow_heap _ _ _ _ _ _ (heap_before _ _ _ _ (heap_at _ _ _ (by simp)))
  refine ⟨rfl, ?_⟩
  refine (((Below.refl w.heap.size w).alloc (Nat.le_refl _) _).alloc (by simp) _).alloc (by simp; omega) _ |>.trans ⟨rfl, rfl, rfl, by simp, fun k hk => setRow_other _ _ k _ (by omega)⟩
end
end Go.Proofs.YtpjiakgfegnmcaaGreat
namespace Go.Proofs.YtpjiakgfegnmcaaGreat
open Go.RowKit

def rightB (f : FrV) (k : Int) (n : NoteV) : Bool :=
  if k = 1 then spansB n.hardLo n.hardHi 1 255 else if k = 2 then inB n.turns 1 10000
  else if k = 3 then inB n.stone 0 1 && (inB n.a 0 (f.rings * f.sectors - 1) && (inB n.b (-1) (f.rings * f.sectors - 1) && (decide (n.a ≠ n.b) && spansB n.diffLo n.diffHi (-1000000000) 1000000000)))
  else if k = 4 then inB n.stone 0 1 && (inB n.ring 0 (f.rings - 1) && strokesB (f.sectors - f.wide) n.strokes)
  else false
section
attribute [local go_sem] noteA_0 noteA_1 noteA_2 noteA_3 noteA_4 noteA_5 noteA_6 noteA_7 noteA_8 noteA_9 noteA_10 noteA_11 noteA_12 noteA_13 noteA_14 noteA_15 noteA_16 noteA_17 noteA_18
variable (f : FrV) (n : NoteV) (sa : Option Addr) (sc : Nat) (w : World)
set_option maxHeartbeats 2000000 in
set_option maxRecDepth 100000 in
theorem right_1 (hv : f.valid = true) : Calls Tryz.prog 101 #[f.val, .int .i64 1, .agg (noteA n sa sc)] w fun e w' => e = .returned (.bool (rightB f 1 n)) ∧ Below w.heap.size w w' := by
  have hvf : 1 ≤ f.rings ∧ f.rings ≤ 24 ∧ 2 ≤ f.sectors ∧ f.sectors ≤ 96 ∧ 1 ≤ f.wide ∧ f.wide ≤ f.sectors := by
    simp only [FrV.valid, Bool.and_eq_true, inB_true] at hv
    omega
  have hm1 : 0 ≤ f.rings * f.sectors := Int.mul_nonneg (by omega) (by omega)
  have hm2 : f.rings * f.sectors ≤ 24 * 96 := Int.mul_le_mul hvf.2.1 hvf.2.2.2.1 (by omega) (by omega)
  have VF := Lib.hid hvf; clear hvf hv
  have hb : Below w.heap.size w ((w.alloc (.cells #[.int .i64 f.rings, .int .i64 f.sectors, .int .i64 f.wide] 23)).alloc (.cells (noteA n sa sc) 51)) := ((Below.refl _ _).alloc (Nat.le_refl _) _).alloc (by simp) _
  have HB := Lib.hid hb; clear hb
  unfold FrV.val
  go_enter Tryz.func101, Tryz.ntmps101
  go_wp2_with fail
  refine (spanned_any n.hardLo n.hardHi 1 255 _).mono ?_
  rintro e w3 ⟨rfl, b3⟩
  have B3 := Lib.hid (HB.out.trans (b3.mono HB.out.size))
  go_wp2_with fail
  go_ret
  exact ⟨rfl, B3.out⟩
set_option maxHeartbeats 2000000 in
set_option maxRecDepth 100000 in
theorem right_2 (hv : f.valid = true) : Calls Tryz.prog 101 #[f.val, .int .i64 2, .agg (noteA n sa sc)] w fun e w' => e = .returned (.bool (rightB f 2 n)) ∧ Below w.heap.size w w' := by
  have hvf : 1 ≤ f.rings ∧ f.rings ≤ 24 ∧ 2 ≤ f.sectors ∧ f.sectors ≤ 96 ∧ 1 ≤ f.wide ∧ f.wide ≤ f.sectors := by
    simp only [FrV.valid, Bool.and_eq_true, inB_true] at hv
    omega
  have hm1 : 0 ≤ f.rings * f.sectors := Int.mul_nonneg (by omega) (by omega)
  have hm2 : f.rings * f.sectors ≤ 24 * 96 := Int.mul_le_mul hvf.2.1 hvf.2.2.2.1 (by omega) (by omega)
  have VF := Lib.hid hvf; clear hvf hv
  have hb : Below w.heap.size w ((w.alloc (.cells #[.int .i64 f.rings, .int .i64 f.sectors, .int .i64 f.wide] 23)).alloc (.cells (noteA n sa sc) 51)) := ((Below.refl _ _).alloc (Nat.le_refl _) _).alloc (by simp) _
  have HB := Lib.hid hb; clear hb
  unfold FrV.val
  go_enter Tryz.func101, Tryz.ntmps101
  go_wp2_with fail
  refine (rin_any n.turns 1 10000 _).mono ?_
  rintro e w3 ⟨rfl, rfl⟩
  go_wp2_with fail
  go_ret
  exact ⟨rfl, HB.out⟩
set_option maxHeartbeats 2000000 in
set_option maxRecDepth 100000 in
theorem right_4 (hv : f.valid = true) (hs : RdI w sa n.strokes.length sc n.strokes) : Calls Tryz.prog 101 #[f.val, .int .i64 4, .agg (noteA n sa sc)] w fun e w' => e = .returned (.bool (rightB f 4 n)) ∧ Below w.heap.size w w' := by
  have hvf : 1 ≤ f.rings ∧ f.rings ≤ 24 ∧ 2 ≤ f.sectors ∧ f.sectors ≤ 96 ∧ 1 ≤ f.wide ∧ f.wide ≤ f.sectors := by
    simp only [FrV.valid, Bool.and_eq_true, inB_true] at hv
    omega
  have hm1 : 0 ≤ f.rings * f.sectors := Int.mul_nonneg (by omega) (by omega)
  have hm2 : f.rings * f.sectors ≤ 24 * 96 := Int.mul_le_mul hvf.2.1 hvf.2.2.2.1 (by omega) (by omega)
  have VF := Lib.hid hvf; clear hvf hv
  have v1 : f.rings ≤ 24 := VF.out.2.1
  have v0 : 1 ≤ f.rings := VF.out.1
  have hb : Below w.heap.size w ((w.alloc (.cells #[.int .i64 f.rings, .int .i64 f.sectors, .int .i64 f.wide] 23)).alloc (.cells (noteA n sa sc) 51)) := ((Below.refl _ _).alloc (Nat.le_refl _) _).alloc (by simp) _
  have HB := Lib.hid hb; clear hb
  unfold FrV.val
  go_enter Tryz.func101, Tryz.ntmps101
  go_wp2_with fail
  refine (rin_any n.stone 0 1 _).mono ?_
  rintro e w3 ⟨rfl, rfl⟩
  cases h1 : inB n.stone 0 1
  · have hR : rightB f 4 n = false := by simp only [rightB]; simp [h1]
    have HRX := Lib.hid hR; clear hR
    go_wp2_with fail
    go_ret
    rw [HRX.out]
    exact ⟨rfl, HB.out⟩
  · have Hh1 := Lib.hid h1
    go_wp2_with fail
    refine (rin_any n.ring 0 (f.rings - 1) _).mono ?_
    rintro e w3 ⟨rfl, rfl⟩
    cases h2 : inB n.ring 0 (f.rings - 1)
    · have hR : rightB f 4 n = false := by simp only [rightB]; simp [h1, h2]
      have HRX := Lib.hid hR; clear hR
      go_wp2_with fail
      go_ret
      rw [HRX.out]
      exact ⟨rfl, HB.out⟩
    · have Hh2 := Lib.hid h2
      go_wp2_with fail
      refine (rstrokes_any f.rings f.sectors f.wide sa _ sc n.strokes _ (hs.below HB.out) ⟨VF.out.2.2.1, VF.out.2.2.2.1⟩ ⟨VF.out.2.2.2.2.1, VF.out.2.2.2.2.2⟩).mono ?_
      rintro e w4 ⟨rfl, b3⟩
      have B3 := Lib.hid (HB.out.trans (b3.mono HB.out.size))
      have hR : rightB f 4 n = strokesB (f.sectors - f.wide) n.strokes := by simp only [rightB]; simp [h1, h2]
      have HRX := Lib.hid hR; clear hR
      go_wp2_with fail
      go_ret
      rw [HRX.out]
      exact ⟨rfl, B3.out⟩
set_option maxHeartbeats 2000000 in
set_option maxRecDepth 100000 in
theorem right_3 (hv : f.valid = true) : Calls Tryz.prog 101 #[f.val, .int .i64 3, .agg (noteA n sa sc)] w fun e w' => e = .returned (.bool (rightB f 3 n)) ∧ Below w.heap.size w w' := by
  have hvf : 1 ≤ f.rings ∧ f.rings ≤ 24 ∧ 2 ≤ f.sectors ∧ f.sectors ≤ 96 ∧ 1 ≤ f.wide ∧ f.wide ≤ f.sectors := by
    simp only [FrV.valid, Bool.and_eq_true, inB_true] at hv
    omega
  have hm1 : 0 ≤ f.rings * f.sectors := Int.mul_nonneg (by omega) (by omega)
  have hm2 : f.rings * f.sectors ≤ 24 * 96 := Int.mul_le_mul hvf.2.1 hvf.2.2.2.1 (by omega) (by omega)
  have VF := Lib.hid hvf; clear hvf hv
  have hb : Below w.heap.size w ((w.alloc (.cells #[.int .i64 f.rings, .int .i64 f.sectors, .int .i64 f.wide] 23)).alloc (.cells (noteA n sa sc) 51)) := ((Below.refl _ _).alloc (Nat.le_refl _) _).alloc (by simp) _
  have HB := Lib.hid hb; clear hb
  unfold FrV.val
  go_enter Tryz.func101, Tryz.ntmps101
  go_wp2_with fail
  refine (rin_any n.stone 0 1 _).mono ?_
  rintro e w3 ⟨rfl, rfl⟩
  cases h1 : inB n.stone 0 1
  · have hR : rightB f 3 n = false := by simp only [rightB]; simp [h1]
    have HRX := Lib.hid hR; clear hR
    go_wp2_with fail
    go_ret
    rw [HRX.out]
    exact ⟨rfl, HB.out⟩
  · have Hh1 := Lib.hid h1
    go_wp2_with fail
    refine (rin_any n.a 0 (f.rings * f.sectors - 1) _).mono ?_
    rintro e w3 ⟨rfl, rfl⟩
    cases h2 : inB n.a 0 (f.rings * f.sectors - 1)
    · have hR : rightB f 3 n = false := by simp only [rightB]; simp [h1, h2]
      have HRX := Lib.hid hR; clear hR
      go_wp2_with fail
      go_ret
      rw [HRX.out]
      exact ⟨rfl, HB.out⟩
    · have Hh2 := Lib.hid h2
      go_wp2_with fail
      refine (rin_any n.b (-1) (f.rings * f.sectors - 1) _).mono ?_
      rintro e w3 ⟨rfl, rfl⟩
      cases h3 : inB n.b (-1) (f.rings * f.sectors - 1)
      · have hR : rightB f 3 n = false := by simp only [rightB]; simp [h1, h2, h3]
        have HRX := Lib.hid hR; clear hR
        go_wp2_with fail
        go_ret
        rw [HRX.out]
        exact ⟨rfl, HB.out⟩
      · have Hh3 := Lib.hid h3
        by_cases hne : n.a = n.b
        · have q2 : (n.a != n.b) = false := by simp [hne]
          have q2' : decide (n.a = n.b) = true := by simp [hne]
          have HNE := Lib.hid hne; clear hne
          have hR : rightB f 3 n = false := by simp only [rightB]; simp [h1, h2, h3, HNE.out]
          have HRX := Lib.hid hR; clear hR
          go_wp2_with fail
          go_ret
          rw [HRX.out]
          exact ⟨rfl, HB.out⟩
        · have q2 : (n.a != n.b) = true := by simp [hne]
          have q2' : decide (n.a = n.b) = false := by simp [hne]
          have HNE := Lib.hid hne; clear hne
          go_wp2_with fail
          refine (spanned_any n.diffLo n.diffHi (-1000000000) 1000000000 _).mono ?_
          rintro e w4 ⟨rfl, b3⟩
          have B3 := Lib.hid (HB.out.trans (b3.mono HB.out.size))
          have hR : rightB f 3 n = spansB n.diffLo n.diffHi (-1000000000) 1000000000 := by simp only [rightB]; simp [h1, h2, h3, HNE.out]
          have HRX := Lib.hid hR; clear hR
          go_wp2_with fail
          go_ret
          rw [HRX.out]
          exact ⟨rfl, B3.out⟩
set_option maxHeartbeats 2000000 in
set_option maxRecDepth 100000 in
theorem right_o (k : Int) (hk : ¬ (1 ≤ k ∧ k ≤ 4)) (hv : f.valid = true) : Calls Tryz.prog 101 #[f.val, .int .i64 k, .agg (noteA n sa sc)] w fun e w' => e = .returned (.bool (rightB f k n)) ∧ Below w.heap.size w w' := by
  have hvf : 1 ≤ f.rings ∧ f.rings ≤ 24 ∧ 2 ≤ f.sectors ∧ f.sectors ≤ 96 ∧ 1 ≤ f.wide ∧ f.wide ≤ f.sectors := by
    simp only [FrV.valid, Bool.and_eq_true, inB_true] at hv
    omega
  have hm1 : 0 ≤ f.rings * f.sectors := Int.mul_nonneg (by omega) (by omega)
  have hm2 : f.rings * f.sectors ≤ 24 * 96 := Int.mul_le_mul hvf.2.1 hvf.2.2.2.1 (by omega) (by omega)
  have VF := Lib.hid hvf; clear hvf hv
  have hb : Below w.heap.size w ((w.alloc (.cells #[.int .i64 f.rings, .int .i64 f.sectors, .int .i64 f.wide] 23)).alloc (.cells (noteA n sa sc) 51)) := ((Below.refl _ _).alloc (Nat.le_refl _) _).alloc (by simp) _
  have HB := Lib.hid hb; clear hb
  have q1 : (k == 1) = false := by simp; omega
  have r1 : decide (k = 1) = false := by simp; omega
  have q2 : (k == 2) = false := by simp; omega
  have r2 : decide (k = 2) = false := by simp; omega
  have q3 : (k == 3) = false := by simp; omega
  have r3 : decide (k = 3) = false := by simp; omega
  have q4 : (k == 4) = false := by simp; omega
  have r4 : decide (k = 4) = false := by simp; omega
  have hR : rightB f k n = false := by
    unfold rightB
    rw [if_neg (by omega), if_neg (by omega), if_neg (by omega), if_neg (by omega)]
  have HRX := Lib.hid hR; clear hR hk
  unfold FrV.val
  go_enter Tryz.func101, Tryz.ntmps101
  go_wp2_with fail
  go_ret
  rw [HRX.out]
  exact ⟨rfl, HB.out⟩
end
theorem right_any (f : FrV) (n : NoteV) (sa : Option Addr) (sc : Nat) (w : World) (hv : f.valid = true) (hs : RdI w sa n.strokes.length sc n.strokes) (k : Int) :
    Calls Tryz.prog 101 #[f.val, .int .i64 k, .agg (noteA n sa sc)] w fun e w' => e = .returned (.bool (rightB f k n)) ∧ Below w.heap.size w w' := by
  by_cases hk : 1 ≤ k ∧ k ≤ 4
  · have hk' : k = 1 ∨ k = 2 ∨ k = 3 ∨ k = 4 := by omega
    rcases hk' with rfl | rfl | rfl | rfl
    · exact right_1 f n sa sc w hv
    · exact right_2 f n sa sc w hv
    · exact right_3 f n sa sc w hv
    · exact right_4 f n sa sc w hv hs
  · exact right_o f n sa sc w k hk hv
theorem bareR_other {k : Int} (hk : ¬ (1 ≤ k ∧ k ≤ 4)) (n : NoteV) : bareR k n = bare0 n := by
  unfold bareR
  rw [if_neg (by omega), if_neg (by omega), if_neg (by omega), if_neg (by omega)]
theorem bare_any (n : NoteV) (sa : Option Addr) (sc : Nat) (w : World) (hs : RdI w sa n.strokes.length sc n.strokes) (k : Int) :
    Calls Tryz.prog 100 #[.int .i64 k, .agg (noteA n sa sc)] w fun e w' => ∃ ta tc, e = .returned (.agg (noteA (bareR k n) ta tc)) ∧ RdI w' ta (bareR k n).strokes.length tc (bareR k n).strokes ∧ Below w.heap.size w w' := by
  by_cases hk : 1 ≤ k ∧ k ≤ 4
  · have hk' : k = 1 ∨ k = 2 ∨ k = 3 ∨ k = 4 := by omega
    rcases hk' with rfl | rfl | rfl | rfl
    · refine (bare_1 n sa sc w).mono ?_
      rintro e w' ⟨rfl, hb⟩
      exact ⟨sa, sc, rfl, hs.below hb, hb⟩
    · refine (bare_2 n sa sc w).mono ?_
      rintro e w' ⟨rfl, hb⟩
      exact ⟨sa, sc, rfl, hs.below hb, hb⟩
    · refine (bare_3 n sa sc w).mono ?_
      rintro e w' ⟨rfl, hb⟩
      exact ⟨sa, sc, rfl, hs.below hb, hb⟩
    · refine (bare_4 n sa sc w).mono ?_
      rintro e w' ⟨rfl, hb⟩
      exact ⟨none, 0, rfl, RdA.nil w' 1, hb⟩
  · refine (bare_o n sa sc w k hk).mono ?_
    rintro e w' ⟨rfl, hb⟩
    rw [bareR_other hk]
    exact ⟨sa, sc, rfl, hs.below hb, hb⟩
end Go.Proofs.YtpjiakgfegnmcaaGreat
namespace Go.Proofs.YtpjiakgfegnmcaaGreat
set_option linter.unusedSimpArgs false

def refersB (n : NoteV) : Bool := decide (n.kind = 2) || (decide (n.kind = 5) || decide (n.kind = 6))
def namedB (n : NoteV) : Bool := !decide (n.refH = 0 ∧ n.refN = 0)
def wellB (f : FrV) (n : NoteV) : Bool :=
  rightNameB n.house n.num && (inB n.clock 1 1099511627776 && (inB n.day 0 99999 && (!(refersB n != namedB n) && (!(refersB n && !rightNameB n.refH n.refN) &&
  (if n.kind = 6 then decide (n.fix = 0) && sameB (bareR 0 n) zeroN else if n.kind = 5 then rightB f n.fix n && sameB (bareR n.fix n) zeroN
   else decide (n.fix = 0) && (rightB f n.kind n && sameB (bareR n.kind n) zeroN))))))
theorem cell_or {f : FrV} (hv : f.valid = true) (x : Int) : (decide (x = -1) || cellB f x) = inB x (-1) (f.rings * f.sectors - 1) := by
  have hvf : 1 ≤ f.rings ∧ f.rings ≤ 24 ∧ 2 ≤ f.sectors ∧ f.sectors ≤ 96 ∧ 1 ≤ f.wide ∧ f.wide ≤ f.sectors := by
    simp only [FrV.valid, Bool.and_eq_true, inB_true] at hv
    omega
  have hm1 : 0 < f.rings * f.sectors := Int.mul_pos (by omega) (by omega)
  rw [Bool.eq_iff_iff]
  simp only [Bool.or_eq_true, decide_eq_true_eq, cellB, inB_true]
  omega
theorem zero14 (x : NoteV) : sameB x zeroN = decide (x.house = 0 ∧ x.num = 0 ∧ x.clock = 0 ∧ x.day = 0 ∧ x.kind = 0 ∧ x.stone = 0 ∧ x.heap = 0 ∧ x.turns = 0 ∧ x.hardLo = 0 ∧ x.hardHi = 0 ∧ x.diffLo = 0 ∧ x.diffHi = 0 ∧ x.a = 0 ∧ x.b = 0 ∧ x.ring = 0 ∧ x.refH = 0 ∧ x.refN = 0 ∧ x.fix = 0 ∧ x.strokes = []) := by
  obtain ⟨x0, x1, x2, x3, x4, x5, x6, x7, x8, x9, x10, x11, x12, x13, x14, x15, x16, x17, l⟩ := x
  simp only [sameB, nums14, zeroN]
  grind
theorem rightName_some {h m : Int} (e : rightNameB h m = true) : ¬ (h = 0 ∧ m = 0) := by
  simp only [rightNameB, Bool.and_eq_true, inB_true] at e
  omega
theorem formed_well {f : FrV} (hv : f.valid = true) (n : NoteV) : formedB f n = wellB f n := by
  have hc := cell_or hv
  have ha : cellB f n.a = inB n.a 0 (f.rings * f.sectors - 1) := rfl
  simp only [formedB, wellB, okB, zero14]
  have hn := @rightName_some n.refH n.refN
  by_cases h1 : n.kind = 1
  · simp [h1, bareN, leftN, saidN, bareR, bare0, saidB, rightB, refersB, namedB]
    grind
  by_cases h2 : n.kind = 2
  · simp [h2, bareN, leftN, saidN, bareR, bare0, saidB, rightB, refersB, namedB]
    grind
  by_cases h3 : n.kind = 3
  · simp [h3, bareN, leftN, saidN, bareR, bare0, saidB, rightB, refersB, namedB, ← hc]
    grind
  by_cases h4 : n.kind = 4
  · simp [h4, bareN, leftN, saidN, bareR, bare0, saidB, rightB, refersB, namedB]
    grind
  by_cases h6 : n.kind = 6
  · simp [h6, bareN, leftN, saidN, bareR, bare0, saidB, rightB, refersB, namedB]
    grind
  by_cases h5 : n.kind = 5
  · by_cases g1 : n.fix = 1
    · simp [h5, g1, bareN, leftN, saidN, bareR, bare0, saidB, rightB, refersB, namedB, inB]
      grind
    by_cases g2 : n.fix = 2
    · simp [h5, g2, bareN, leftN, saidN, bareR, bare0, saidB, rightB, refersB, namedB, inB]
      grind
    by_cases g3 : n.fix = 3
    · simp [h5, g3, bareN, leftN, saidN, bareR, bare0, saidB, rightB, refersB, namedB, ← hc, show inB 3 1 4 = true from rfl]
      grind
    by_cases g4 : n.fix = 4
    · simp [h5, g4, bareN, leftN, saidN, bareR, bare0, saidB, rightB, refersB, namedB, inB]
      grind
    have hf : inB n.fix 1 4 = false := by rw [← Bool.not_eq_true, inB_true]; omega
    simp [h5, g1, g2, g3, g4, rightB, hf]
  simp [h1, h2, h3, h4, h5, h6, saidB, rightB]
end Go.Proofs.YtpjiakgfegnmcaaGreat
namespace Go.Proofs.YtpjiakgfegnmcaaGreat
open Go.RowKit

def U8 (base : Nat) (w : World) (k : Nat) : Prop := base ≤ k ∧ ∃ cur sp, w.heap[k]? = some (.cells cur 5 sp)
structure AppB (base : Nat) (w w' : World) : Prop where
  os : w'.os = w.os
  tape : w'.tape = w.tape
  output : w'.output = w.output
  size : w.heap.size ≤ w'.heap.size
  block : ∀ k, k < w.heap.size → ¬ U8 base w k → w'.heap[k]? = w.heap[k]?
theorem AppB.refl (base : Nat) (w : World) : AppB base w w := ⟨rfl, rfl, rfl, Nat.le_refl _, fun _ _ _ => rfl⟩
theorem AppB.not {base : Nat} {w w' : World} (h : AppB base w w') {k : Nat} (hk : k < w.heap.size) (hn : ¬ U8 base w k) : ¬ U8 base w' k := by
  rintro ⟨h1, cur, sp, h2⟩
  exact hn ⟨h1, cur, sp, by rw [← h.block k hk hn]; exact h2⟩
theorem AppB.trans {base : Nat} {a b c : World} (h : AppB base a b) (k : AppB base b c) : AppB base a c :=
  ⟨k.os.trans h.os, k.tape.trans h.tape, k.output.trans h.output, Nat.le_trans h.size k.size, fun i hi hs => (k.block i (Nat.lt_of_lt_of_le hi h.size) (h.not hi hs)).trans (h.block i hi hs)⟩
theorem AppB.of_below {base : Nat} {w w' : World} (h : Below w.heap.size w w') : AppB base w w' := ⟨h.os, h.tape, h.output, h.size, fun k hk _ => h.block k hk⟩
theorem AppB.mono {base base' : Nat} {w w' : World} (h : AppB base' w w') (hb : base ≤ base') : AppB base w w' :=
  ⟨h.os, h.tape, h.output, h.size, fun k hk hn => h.block k hk (fun ⟨h1, h2⟩ => hn ⟨Nat.le_trans hb h1, h2⟩)⟩
theorem AppB.of_own {base : Nat} {w w' : World} {v : Value} {n : Nat} {xs : List Value} (ho : w.ownsRow base 5 1 v n xs) (hg : w.grownBy w' v.ownBlock) : AppB base w w' := by
  refine ⟨hg.os, hg.tape, hg.output, hg.size, fun k hk hn => hg.block k hk (fun e => hn ?_)⟩
  rcases ho.2 with ⟨rfl, _⟩ | ⟨g, cap, cur, rfl, h1, h2, _⟩
  · cases e
  · simp only [Value.ownBlock, Option.some.injEq] at e
    subst e
    exact ⟨h1, cur, _, h2⟩
theorem AppB.below {base : Nat} {w w' : World} (h : AppB base w w') (hb : base ≤ w.heap.size) : Below base w w' :=
  ⟨h.os, h.tape, h.output, h.size, fun k hk => h.block k (by omega) (fun ⟨h1, _⟩ => by omega)⟩
def Apart (base : Nat) (w : World) (a : Option Addr) : Prop := ∀ b off, a = some ⟨b, off, none⟩ → b < w.heap.size → ¬ U8 base w b
theorem AppB.rd {base : Nat} {w w' : World} (h : AppB base w w') {k : Nat} {a : Option Addr} {n c : Nat} {xs : List Value} (hr : RdA w k a n c xs) (hn : Apart base w a) : RdA w' k a n c xs :=
  hr.of_cells fun b ⟨off, hb⟩ hlt => h.block b hlt (hn b off hb hlt)
end Go.Proofs.YtpjiakgfegnmcaaGreat
namespace Go.Proofs.YtpjiakgfegnmcaaGreat
open Go.RowKit

def RdBB (w : World) (a : Option Addr) (n c : Nat) (ls : List (List UInt8)) : Prop :=
  ∃ vs : List Value, RdA w 1 a n c vs ∧ ls.length = n ∧ ∀ i, i < n → ∃ ai ci, vs[i]? = some (.slice ai (ls[i]?.getD []).length ci) ∧ RdB w ai (ls[i]?.getD []).length ci (ls[i]?.getD [])

theorem RdBB.len {w : World} {a : Option Addr} {n c : Nat} {ls : List (List UInt8)} (h : RdBB w a n c ls) : ls.length = n := by obtain ⟨_, _, h, _⟩ := h; exact h
theorem RdBB.maxn {w : World} {a : Option Addr} {n c : Nat} {ls : List (List UInt8)} (h : RdBB w a n c ls) : n ≤ 9223372036854775807 := by obtain ⟨_, h, _⟩ := h; exact h.maxn
theorem RdBB.below {w w' : World} {a : Option Addr} {n c : Nat} {ls : List (List UInt8)} (h : RdBB w a n c ls) (hb : Below w.heap.size w w') : RdBB w' a n c ls := by
  obtain ⟨vs, h1, h2, h3⟩ := h
  refine ⟨vs, h1.below hb, h2, fun i hi => ?_⟩
  obtain ⟨ai, ci, h4, h5⟩ := h3 i hi
  exact ⟨ai, ci, h4, h5.below hb⟩
theorem RdBB.at {w : World} {a : Option Addr} {n c : Nat} {ls : List (List UInt8)} (h : RdBB w a n c ls) (hn : 0 < n) :
    ∃ b off, a = some ⟨b, off, none⟩ ∧ ∀ i, i < n → ∃ ai ci, w.cell? ⟨b, off + i, none⟩ = some (.slice ai (ls[i]?.getD []).length ci) ∧ RdB w ai (ls[i]?.getD []).length ci (ls[i]?.getD []) := by
  obtain ⟨vs, h1, h2, h3⟩ := h
  obtain ⟨b, off, rfl, h4⟩ := h1.at hn
  refine ⟨b, off, rfl, fun i hi => ?_⟩
  obtain ⟨ai, ci, h5, h6⟩ := h3 i hi
  exact ⟨ai, ci, h4 i _ h5, h6⟩
theorem RdBB.nil (w : World) : RdBB w none 0 0 [] := ⟨[], RdA.nil w 1, rfl, fun i hi => by omega⟩

theorem own_mono {w : World} {B base : Nat} {e : TypeId} {k : Nat} {v : Value} {n : Nat} {xs : List Value} (h : w.ownsRow base e k v n xs) (hB : B ≤ base) : w.ownsRow B e k v n xs := by
  refine ⟨h.1, ?_⟩
  rcases h.2 with h | ⟨g, cap, cur, h, hg, hr⟩
  · exact .inl h
  · exact .inr ⟨g, cap, cur, h, by omega, hr⟩
theorem own_below {w w' : World} {base : Nat} {e : TypeId} {k : Nat} {v : Value} {n : Nat} {xs : List Value} (h : w.ownsRow base e k v n xs) (hb : Below w.heap.size w w') : w'.ownsRow base e k v n xs := by
  refine ⟨h.1, ?_⟩
  rcases h.2 with h | ⟨g, cap, cur, h, hg, hgg, hr⟩
  · exact .inl h
  · exact .inr ⟨g, cap, cur, h, hg, (hb.block g (Array.getElem?_eq_some_iff.1 hgg).1).trans hgg, hr⟩

theorem RdB.of_own {w : World} {base : Nat} {e : TypeId} {a : Option Addr} {n c : Nat} {l : List UInt8} (h : w.ownsRow base e 1 (.slice a n c) n (l.map byteV)) : RdB w a n c l := RdA.of_own h

end Go.Proofs.YtpjiakgfegnmcaaGreat
namespace Go.Proofs.YtpjiakgfegnmcaaGreat
open Go.RowKit
section
attribute [local go_sem] noteA_0 noteA_1 noteA_2 noteA_3 noteA_4 noteA_5 noteA_6 noteA_7 noteA_8 noteA_9 noteA_10 noteA_11 noteA_12 noteA_13 noteA_14 noteA_15 noteA_16 noteA_17 noteA_18 noteA_s0 noteA_s1 noteA_s2 noteA_s3 noteA_s4 noteA_s5 noteA_s6 noteA_s7 noteA_s8 noteA_s9 noteA_s10 noteA_s11 noteA_s12 noteA_s13 noteA_s14 noteA_s15 noteA_s16 noteA_s17 noteA_s18
variable (f : FrV) (n : NoteV) (sa : Option Addr) (sc : Nat) (w : World)
set_option maxHeartbeats 20000000 in
set_option maxRecDepth 100000 in
theorem formed_o (hv : f.valid = true) (hs : RdI w sa n.strokes.length sc n.strokes) (k2 : n.kind ≠ 2) (k5 : n.kind ≠ 5) :
    Calls Tryz.prog 64 #[f.val, .agg (noteA n sa sc)] w fun e w' => e = .returned (.bool (formedB f n)) ∧ Below w.heap.size w w' := by
  have I43 := Lib.hid (show ∀ (m : NoteV) (a : Option Addr) (c : Nat), (Tryz.prog.info? 51).map (·.size) = some (noteA m a c).size from fun m a c => by kernel_rfl)
  have g1 := heap_at (w.alloc (.cells #[.int .i64 f.rings, .int .i64 f.sectors, .int .i64 f.wide] 85)) (.cells (noteA n sa sc) 51) (w.heap.size + 1) (by simp)
  have g0 := heap_before (w.alloc (.cells #[.int .i64 f.rings, .int .i64 f.sectors, .int .i64 f.wide] 85)) (.cells (noteA n sa sc) 51) _ _ (heap_at w (.cells #[.int .i64 f.rings, .int .i64 f.sectors, .int .i64 f.wide] 85) _ rfl)
  have bb : Below w.heap.size w ((w.alloc (.cells #[.int .i64 f.rings, .int .i64 f.sectors, .int .i64 f.wide] 85)).alloc (.cells (noteA n sa sc) 51)) := ((Below.refl _ _).alloc (Nat.le_refl _) _).alloc (by simp) _
  have G1 := Lib.hid g1; clear g1
  have G0 := Lib.hid g0; clear g0
  have BB := Lib.hid bb; clear bb
  go_enter Tryz.func64, Tryz.ntmps64
  unfold FrV.val
  go_wp2_with (refine wpList_load_row rfl 51 _ rfl (w.heap.size + 1) rfl 51 (noteA n sa sc) (0, 0) _ G1.out Tryz.underlying51 rfl (I43.out _ _ _) ?_)
  refine (said_any f n sa sc _ hv (hs.below BB.out) n.kind).mono ?_
  rintro e w1 ⟨ta, tc, rfl, hrd, b1⟩
  have SR := Lib.hid hrd; clear hrd
  have l1 := (Array.getElem?_eq_some_iff.1 G1.out).1
  have z1 := b1.size
  have L1 : Loc3 w (w1.alloc (.cells (noteA (saidN n.kind n) ta tc) 51)) w.heap.size (w.heap.size + 1) w1.heap.size f n sa sc (noteA (saidN n.kind n) ta tc) :=
    ⟨heap_before _ _ _ _ ((b1.block _ (by omega)).trans G0.out), heap_before _ _ _ _ ((b1.block _ (by omega)).trans G1.out), heap_last _ _, (BB.out.trans (b1.mono BB.out.size)).alloc (by omega) _, by omega⟩
  have LL1 := Lib.hid L1; clear L1 l1 z1 b1
  have one1 := noteA_one (saidN n.kind n) ta tc
  have k4 := note_cells LL1.out.e1 4 _ rfl
  simp only [Nat.zero_add] at k4
  have q2 : (n.kind == 2) = false := by simp [k2]
  have q2' : decide (n.kind = 2) = false := by simp [k2]
  have q5 : (n.kind == 5) = false := by simp [k5]
  have q5' : decide (n.kind = 5) = false := by simp [k5]
  have hkind : n.kind ≠ 2 ∧ n.kind ≠ 5 := ⟨k2, k5⟩
  have HK := Lib.hid hkind; clear hkind k2 k5
  go_upto_region 11 with (refine wpList_store_newp w1 rfl 51 _ _ rfl w1.heap.size rfl _ (noteA (saidN n.kind n) ta tc) rfl rfl (I43.out _ _ _) rfl one1 ?_)
  generalize hW2 : w1.alloc (.cells (noteA (saidN n.kind n) ta tc) 51) = W2 at *
  generalize hp0 : w.heap.size = p0 at *
  generalize hp1 : p0 + 1 = p1 at *
  generalize hp2 : w1.heap.size = p2 at *
  have RDb := Lib.hid (show ∀ W', Below p0 w W' → RdI W' ta (saidN n.kind n).strokes.length tc (saidN n.kind n).strokes from fun W' h => said_rd SR.out (hs.below (by rw [hp0]; exact h)))
  have HP0 := Lib.hid hp0; clear hp0 hp1 hp2 hW2 G0 G1 BB SR k4
  have j0 := note_cells LL1.out.e2 0 _ rfl
  simp only [Nat.zero_add] at j0
  have z0 := note_frozen LL1.out.e2 0
  have j1 := note_cells LL1.out.e2 1 _ rfl
  simp only [Nat.zero_add] at j1
  have z1 := note_frozen LL1.out.e2 1
  have j2 := note_cells LL1.out.e2 2 _ rfl
  simp only [Nat.zero_add] at j2
  have z2 := note_frozen LL1.out.e2 2
  have j3 := note_cells LL1.out.e2 3 _ rfl
  simp only [Nat.zero_add] at j3
  have z3 := note_frozen LL1.out.e2 3
  have j4 := note_cells LL1.out.e2 4 _ rfl
  simp only [Nat.zero_add] at j4
  have z4 := note_frozen LL1.out.e2 4
  obtain ⟨N9, HN9⟩ : ∃ N9 : NoteV, Hid (N9 = { saidN n.kind n with house := 0, num := 0, clock := 0, day := 0, kind := 0 }) := ⟨_, Lib.hid rfl⟩
  go_upto_region 12 with fail
  generalize hW : (((((W2.setCell ⟨p2, 0, none⟩ (.int .i64 0)).setCell ⟨p2, 1, none⟩ (.int .i64 0)).setCell ⟨p2, 2, none⟩ (.int .i64 0)).setCell ⟨p2, 3, none⟩ (.int .i64 0)).setCell ⟨p2, 4, none⟩ (.int .i64 0)) = Wf1 at *
  have Lf2 := Lib.hid (show Loc3 w Wf1 p0 p1 p2 f n sa sc (noteA N9 ta tc) from by rw [HN9.out, ← hW]; exact (((((LL1.out.set 0 (.int .i64 0)).set 1 (.int .i64 0)).set 2 (.int .i64 0)).set 3 (.int .i64 0)).set 4 (.int .i64 0)))
  have RDf3 := Lib.hid (show RdI Wf1 ta N9.strokes.length tc N9.strokes from by rw [HN9.out]; exact RDb.out _ Lf2.out.b)
  clear hW
  clear j0 z0 j1 z1 j2 z2 j3 z3 j4 z4
  cases hok : saidB f n.kind n
  · have hR : formedB f n = false := by simp only [formedB, okB, if_neg HK.out.1, if_neg HK.out.2]; simp [HK.out, hok]
    have HRX := Lib.hid hR; clear hR
    go_wp2_with fail
    go_ret
    rw [HRX.out]
    exact ⟨rfl, by rw [HP0.out]; exact Lf2.out.b⟩
  · go_wp2_with (first
      | (refine wpList_load_row rfl 51 _ rfl p1 rfl 51 (noteA n sa sc) (0, 0) _ Lf2.out.e1 Tryz.underlying51 rfl (I43.out _ _ _) ?_)
      | (refine wpList_load_rowG ?hw 51 _ rfl p1 rfl 51 (noteA n sa sc) (0, 0) _ Lf2.out.e1 Tryz.underlying51 rfl (I43.out _ _ _) ?_; case hw => rfl))
    refine (nameOf_any n sa sc _).mono ?_
    rintro e wn4 ⟨rfl, b2⟩
    have LN6 := Lib.hid (Lf2.out.below b2)
    have RD3 := Lib.hid (RDf3.out.below b2)
    clear b2
    go_wp2_with fail
    refine (rightName_any n.house n.num _).mono ?_
    rintro e wr5 ⟨rfl, b2⟩
    have LR7 := Lib.hid (LN6.out.below b2)
    have RD4 := Lib.hid (RD3.out.below b2)
    clear b2 RD3
    cases hrn : rightNameB n.house n.num
    · have hR : formedB f n = false := by simp only [formedB, okB, if_neg HK.out.1, if_neg HK.out.2]; simp [HK.out, hok, hrn]
      have HRX := Lib.hid hR; clear hR
      go_wp2_with fail
      go_ret
      rw [HRX.out]
      exact ⟨rfl, by rw [HP0.out]; exact LR7.out.b⟩
    · have HRN := Lib.hid hrn
      have k2 := note_cells LR7.out.e1 2 _ rfl
      simp only [Nat.zero_add] at k2
      have k3 := note_cells LR7.out.e1 3 _ rfl
      simp only [Nat.zero_add] at k3
      go_wp2_with fail
      refine (hin_any n.clock 1 1099511627776 _).mono ?_
      rintro e w' ⟨rfl, rfl⟩
      cases hcl : inB n.clock 1 1099511627776
      · have hR : formedB f n = false := by simp only [formedB, okB, if_neg HK.out.1, if_neg HK.out.2]; simp [HK.out, hok, hrn, hcl]
        have HRX := Lib.hid hR; clear hR
        go_wp2_with fail
        go_ret
        rw [HRX.out]
        exact ⟨rfl, by rw [HP0.out]; exact LR7.out.b⟩
      · have HCL := Lib.hid hcl
        go_wp2_with fail
        refine (hin_any n.day 0 99999 _).mono ?_
        rintro e w' ⟨rfl, rfl⟩
        cases hda : inB n.day 0 99999
        · have hR : formedB f n = false := by simp only [formedB, okB, if_neg HK.out.1, if_neg HK.out.2]; simp [HK.out, hok, hrn, hcl, hda]
          have HRX := Lib.hid hR; clear hR
          go_wp2_with fail
          go_ret
          rw [HRX.out]
          exact ⟨rfl, by rw [HP0.out]; exact LR7.out.b⟩
        · have HDA := Lib.hid hda
          go_wp2_with (first
            | (refine wpList_load_row rfl 51 _ rfl p2 rfl 51 (noteA N9 ta tc) (0, 0) _ LR7.out.e2 Tryz.underlying51 rfl (I43.out _ _ _) ?_)
            | (refine wpList_load_rowG ?hw 51 _ rfl p2 rfl 51 (noteA N9 ta tc) (0, 0) _ LR7.out.e2 Tryz.underlying51 rfl (I43.out _ _ _) ?_; case hw => rfl))
          refine (same_any N9 zeroN ta tc none 0 _ RD4.out (RdA.nil _ 1)).mono ?_
          rintro e ws ⟨rfl, b2⟩
          have hR : formedB f n = sameB (bareN n) zeroN := by simp only [formedB, okB, if_neg HK.out.1, if_neg HK.out.2]; simp [HK.out, hok, hrn, hcl, hda]
          have hN : bareN n = N9 := by rw [HN9.out]; unfold bareN leftN; rw [if_neg HK.out.1, if_neg HK.out.2]
          have HRX := Lib.hid hR; clear hR
          have HNX := Lib.hid hN; clear hN
          go_wp2_with fail
          go_ret
          rw [HRX.out, HNX.out]
          exact ⟨rfl, by rw [HP0.out]; exact (LR7.out.below b2).b⟩
set_option maxHeartbeats 20000000 in
set_option maxRecDepth 100000 in
theorem formed_2 (hv : f.valid = true) (hs : RdI w sa n.strokes.length sc n.strokes) (k2 : n.kind = 2) :
    Calls Tryz.prog 64 #[f.val, .agg (noteA n sa sc)] w fun e w' => e = .returned (.bool (formedB f n)) ∧ Below w.heap.size w w' := by
  have HK := Lib.hid k2; clear k2
  have I43 := Lib.hid (show ∀ (m : NoteV) (a : Option Addr) (c : Nat), (Tryz.prog.info? 51).map (·.size) = some (noteA m a c).size from fun m a c => by kernel_rfl)
  have g1 := heap_at (w.alloc (.cells #[.int .i64 f.rings, .int .i64 f.sectors, .int .i64 f.wide] 85)) (.cells (noteA n sa sc) 51) (w.heap.size + 1) (by simp)
  have g0 := heap_before (w.alloc (.cells #[.int .i64 f.rings, .int .i64 f.sectors, .int .i64 f.wide] 85)) (.cells (noteA n sa sc) 51) _ _ (heap_at w (.cells #[.int .i64 f.rings, .int .i64 f.sectors, .int .i64 f.wide] 85) _ rfl)
  have bb : Below w.heap.size w ((w.alloc (.cells #[.int .i64 f.rings, .int .i64 f.sectors, .int .i64 f.wide] 85)).alloc (.cells (noteA n sa sc) 51)) := ((Below.refl _ _).alloc (Nat.le_refl _) _).alloc (by simp) _
  have G1 := Lib.hid g1; clear g1
  have G0 := Lib.hid g0; clear g0
  have BB := Lib.hid bb; clear bb
  go_enter Tryz.func64, Tryz.ntmps64
  unfold FrV.val
  go_wp2_with (refine wpList_load_row rfl 51 _ rfl (w.heap.size + 1) rfl 51 (noteA n sa sc) (0, 0) _ G1.out Tryz.underlying51 rfl (I43.out _ _ _) ?_)
  refine (said_any f n sa sc _ hv (hs.below BB.out) n.kind).mono ?_
  rintro e w1 ⟨ta, tc, rfl, hrd, b1⟩
  have SR := Lib.hid hrd; clear hrd
  have l1 := (Array.getElem?_eq_some_iff.1 G1.out).1
  have z1 := b1.size
  have L1 : Loc3 w (w1.alloc (.cells (noteA (saidN n.kind n) ta tc) 51)) w.heap.size (w.heap.size + 1) w1.heap.size f n sa sc (noteA (saidN n.kind n) ta tc) :=
    ⟨heap_before _ _ _ _ ((b1.block _ (by omega)).trans G0.out), heap_before _ _ _ _ ((b1.block _ (by omega)).trans G1.out), heap_last _ _, (BB.out.trans (b1.mono BB.out.size)).alloc (by omega) _, by omega⟩
  have LL1 := Lib.hid L1; clear L1 l1 z1 b1
  have one1 := noteA_one (saidN n.kind n) ta tc
  have k4 : (w1.alloc (.cells (noteA (saidN n.kind n) ta tc) 51)).cell? ⟨w.heap.size + 1, 4, none⟩ = some (.int .i64 2) := by
    have h := note_cells LL1.out.e1 4 _ rfl
    simp only [Nat.zero_add] at h
    rw [h]
    exact congrArg (fun z => some (Value.int .i64 z)) HK.out
  go_upto_region 4 with (refine wpList_store_newp w1 rfl 51 _ _ rfl w1.heap.size rfl _ (noteA (saidN n.kind n) ta tc) rfl rfl (I43.out _ _ _) rfl one1 ?_)
  generalize hW2 : w1.alloc (.cells (noteA (saidN n.kind n) ta tc) 51) = W2 at *
  generalize hp0 : w.heap.size = p0 at *
  generalize hp1 : p0 + 1 = p1 at *
  generalize hp2 : w1.heap.size = p2 at *
  have RDb := Lib.hid (show ∀ W', Below p0 w W' → RdI W' ta (saidN n.kind n).strokes.length tc (saidN n.kind n).strokes from fun W' h => said_rd SR.out (hs.below (by rw [hp0]; exact h)))
  have HP0 := Lib.hid hp0; clear hp0 hp1 hp2 hW2 G0 G1 BB SR k4
  generalize hm : saidN n.kind n = m at *
  have HM := Lib.hid hm; clear hm
  have j16 := note_cells LL1.out.e2 16 _ rfl
  simp only [Nat.zero_add] at j16
  have z16 := note_frozen LL1.out.e2 16
  have j17 := note_cells LL1.out.e2 17 _ rfl
  simp only [Nat.zero_add] at j17
  have z17 := note_frozen LL1.out.e2 17
  go_upto_region 5 with fail
  generalize hW : ((W2.setCell ⟨p2, 16, none⟩ (.int .i64 0)).setCell ⟨p2, 17, none⟩ (.int .i64 0)) = W3 at *
  have L3 := Lib.hid (show Loc3 w W3 p0 p1 p2 f n sa sc (noteA { m with refH := 0, refN := 0 } ta tc) from by rw [← hW]; exact ((LL1.out.set 16 (.int .i64 0)).set 17 (.int .i64 0)))
  clear hW j16 z16 j17 z17
  cases hok0 : saidB f n.kind n
  · go_upto_region 11 with fail
    have j0 := note_cells L3.out.e2 0 _ rfl
    simp only [Nat.zero_add] at j0
    have z0 := note_frozen L3.out.e2 0
    have j1 := note_cells L3.out.e2 1 _ rfl
    simp only [Nat.zero_add] at j1
    have z1 := note_frozen L3.out.e2 1
    have j2 := note_cells L3.out.e2 2 _ rfl
    simp only [Nat.zero_add] at j2
    have z2 := note_frozen L3.out.e2 2
    have j3 := note_cells L3.out.e2 3 _ rfl
    simp only [Nat.zero_add] at j3
    have z3 := note_frozen L3.out.e2 3
    have j4 := note_cells L3.out.e2 4 _ rfl
    simp only [Nat.zero_add] at j4
    have z4 := note_frozen L3.out.e2 4
    obtain ⟨N9, HN9⟩ : ∃ N9 : NoteV, Hid (N9 = { { m with refH := 0, refN := 0 } with house := 0, num := 0, clock := 0, day := 0, kind := 0 }) := ⟨_, Lib.hid rfl⟩
    go_upto_region 12 with fail
    generalize hW : (((((W3.setCell ⟨p2, 0, none⟩ (.int .i64 0)).setCell ⟨p2, 1, none⟩ (.int .i64 0)).setCell ⟨p2, 2, none⟩ (.int .i64 0)).setCell ⟨p2, 3, none⟩ (.int .i64 0)).setCell ⟨p2, 4, none⟩ (.int .i64 0)) = Wf8 at *
    have Lf9 := Lib.hid (show Loc3 w Wf8 p0 p1 p2 f n sa sc (noteA N9 ta tc) from by rw [HN9.out, ← hW]; exact (((((L3.out.set 0 (.int .i64 0)).set 1 (.int .i64 0)).set 2 (.int .i64 0)).set 3 (.int .i64 0)).set 4 (.int .i64 0)))
    have RDf10 := Lib.hid (show RdI Wf8 ta N9.strokes.length tc N9.strokes from by rw [HN9.out]; exact RDb.out _ Lf9.out.b)
    clear hW
    clear j0 z0 j1 z1 j2 z2 j3 z3 j4 z4
    have hR : formedB f n = false := by simp only [formedB, okB, if_pos HK.out]; simp [hok0]
    have HRX := Lib.hid hR; clear hR
    go_wp2_with fail
    go_ret
    rw [HRX.out]
    exact ⟨rfl, by rw [HP0.out]; exact Lf9.out.b⟩
  · have HO0 := Lib.hid hok0
    have k16 := note_cells L3.out.e1 16 _ rfl
    simp only [Nat.zero_add] at k16
    have k17 := note_cells L3.out.e1 17 _ rfl
    simp only [Nat.zero_add] at k17
    go_wp2_with fail
    refine (rightName_any n.refH n.refN _).mono ?_
    rintro e W4 ⟨rfl, b2⟩
    have L4 := Lib.hid (L3.out.below b2)
    clear b2 k16 k17
    go_upto_region 11 with fail
    have j0 := note_cells L4.out.e2 0 _ rfl
    simp only [Nat.zero_add] at j0
    have z0 := note_frozen L4.out.e2 0
    have j1 := note_cells L4.out.e2 1 _ rfl
    simp only [Nat.zero_add] at j1
    have z1 := note_frozen L4.out.e2 1
    have j2 := note_cells L4.out.e2 2 _ rfl
    simp only [Nat.zero_add] at j2
    have z2 := note_frozen L4.out.e2 2
    have j3 := note_cells L4.out.e2 3 _ rfl
    simp only [Nat.zero_add] at j3
    have z3 := note_frozen L4.out.e2 3
    have j4 := note_cells L4.out.e2 4 _ rfl
    simp only [Nat.zero_add] at j4
    have z4 := note_frozen L4.out.e2 4
    obtain ⟨N9, HN9⟩ : ∃ N9 : NoteV, Hid (N9 = { { m with refH := 0, refN := 0 } with house := 0, num := 0, clock := 0, day := 0, kind := 0 }) := ⟨_, Lib.hid rfl⟩
    go_upto_region 12 with fail
    generalize hW : (((((W4.setCell ⟨p2, 0, none⟩ (.int .i64 0)).setCell ⟨p2, 1, none⟩ (.int .i64 0)).setCell ⟨p2, 2, none⟩ (.int .i64 0)).setCell ⟨p2, 3, none⟩ (.int .i64 0)).setCell ⟨p2, 4, none⟩ (.int .i64 0)) = Wf11 at *
    have Lf12 := Lib.hid (show Loc3 w Wf11 p0 p1 p2 f n sa sc (noteA N9 ta tc) from by rw [HN9.out, ← hW]; exact (((((L4.out.set 0 (.int .i64 0)).set 1 (.int .i64 0)).set 2 (.int .i64 0)).set 3 (.int .i64 0)).set 4 (.int .i64 0)))
    have RDf13 := Lib.hid (show RdI Wf11 ta N9.strokes.length tc N9.strokes from by rw [HN9.out]; exact RDb.out _ Lf12.out.b)
    clear hW
    clear j0 z0 j1 z1 j2 z2 j3 z3 j4 z4
    cases hok : rightNameB n.refH n.refN
    · have hR : formedB f n = false := by simp only [formedB, okB, if_pos HK.out]; simp [hok0, hok]
      have HRX := Lib.hid hR; clear hR
      go_wp2_with fail
      go_ret
      rw [HRX.out]
      exact ⟨rfl, by rw [HP0.out]; exact Lf12.out.b⟩
    · go_wp2_with (first
        | (refine wpList_load_row rfl 51 _ rfl p1 rfl 51 (noteA n sa sc) (0, 0) _ Lf12.out.e1 Tryz.underlying51 rfl (I43.out _ _ _) ?_)
        | (refine wpList_load_rowG ?hw 51 _ rfl p1 rfl 51 (noteA n sa sc) (0, 0) _ Lf12.out.e1 Tryz.underlying51 rfl (I43.out _ _ _) ?_; case hw => rfl))
      refine (nameOf_any n sa sc _).mono ?_
      rintro e wn14 ⟨rfl, b2⟩
      have LN16 := Lib.hid (Lf12.out.below b2)
      have RD3 := Lib.hid (RDf13.out.below b2)
      clear b2
      go_wp2_with fail
      refine (rightName_any n.house n.num _).mono ?_
      rintro e wr15 ⟨rfl, b2⟩
      have LR17 := Lib.hid (LN16.out.below b2)
      have RD4 := Lib.hid (RD3.out.below b2)
      clear b2 RD3
      cases hrn : rightNameB n.house n.num
      · have hR : formedB f n = false := by simp only [formedB, okB, if_pos HK.out]; simp [hok0, hok, hrn]
        have HRX := Lib.hid hR; clear hR
        go_wp2_with fail
        go_ret
        rw [HRX.out]
        exact ⟨rfl, by rw [HP0.out]; exact LR17.out.b⟩
      · have HRN := Lib.hid hrn
        have k2 := note_cells LR17.out.e1 2 _ rfl
        simp only [Nat.zero_add] at k2
        have k3 := note_cells LR17.out.e1 3 _ rfl
        simp only [Nat.zero_add] at k3
        go_wp2_with fail
        refine (hin_any n.clock 1 1099511627776 _).mono ?_
        rintro e w' ⟨rfl, rfl⟩
        cases hcl : inB n.clock 1 1099511627776
        · have hR : formedB f n = false := by simp only [formedB, okB, if_pos HK.out]; simp [hok0, hok, hrn, hcl]
          have HRX := Lib.hid hR; clear hR
          go_wp2_with fail
          go_ret
          rw [HRX.out]
          exact ⟨rfl, by rw [HP0.out]; exact LR17.out.b⟩
        · have HCL := Lib.hid hcl
          go_wp2_with fail
          refine (hin_any n.day 0 99999 _).mono ?_
          rintro e w' ⟨rfl, rfl⟩
          cases hda : inB n.day 0 99999
          · have hR : formedB f n = false := by simp only [formedB, okB, if_pos HK.out]; simp [hok0, hok, hrn, hcl, hda]
            have HRX := Lib.hid hR; clear hR
            go_wp2_with fail
            go_ret
            rw [HRX.out]
            exact ⟨rfl, by rw [HP0.out]; exact LR17.out.b⟩
          · have HDA := Lib.hid hda
            go_wp2_with (first
              | (refine wpList_load_row rfl 51 _ rfl p2 rfl 51 (noteA N9 ta tc) (0, 0) _ LR17.out.e2 Tryz.underlying51 rfl (I43.out _ _ _) ?_)
              | (refine wpList_load_rowG ?hw 51 _ rfl p2 rfl 51 (noteA N9 ta tc) (0, 0) _ LR17.out.e2 Tryz.underlying51 rfl (I43.out _ _ _) ?_; case hw => rfl))
            refine (same_any N9 zeroN ta tc none 0 _ RD4.out (RdA.nil _ 1)).mono ?_
            rintro e ws ⟨rfl, b2⟩
            have hR : formedB f n = sameB (bareN n) zeroN := by simp only [formedB, okB, if_pos HK.out]; simp [hok0, hok, hrn, hcl, hda]
            have hN : bareN n = N9 := by rw [HN9.out]; unfold bareN leftN; rw [if_pos HK.out, HM.out]
            have HRX := Lib.hid hR; clear hR
            have HNX := Lib.hid hN; clear hN
            go_wp2_with fail
            go_ret
            rw [HRX.out, HNX.out]
            exact ⟨rfl, by rw [HP0.out]; exact (LR17.out.below b2).b⟩
set_option maxHeartbeats 20000000 in
set_option maxRecDepth 100000 in
theorem formed_5 (hv : f.valid = true) (hs : RdI w sa n.strokes.length sc n.strokes) (k2 : n.kind = 5) :
    Calls Tryz.prog 64 #[f.val, .agg (noteA n sa sc)] w fun e w' => e = .returned (.bool (formedB f n)) ∧ Below w.heap.size w w' := by
  have HK := Lib.hid k2; clear k2
  have I43 := Lib.hid (show ∀ (m : NoteV) (a : Option Addr) (c : Nat), (Tryz.prog.info? 51).map (·.size) = some (noteA m a c).size from fun m a c => by kernel_rfl)
  have g1 := heap_at (w.alloc (.cells #[.int .i64 f.rings, .int .i64 f.sectors, .int .i64 f.wide] 85)) (.cells (noteA n sa sc) 51) (w.heap.size + 1) (by simp)
  have g0 := heap_before (w.alloc (.cells #[.int .i64 f.rings, .int .i64 f.sectors, .int .i64 f.wide] 85)) (.cells (noteA n sa sc) 51) _ _ (heap_at w (.cells #[.int .i64 f.rings, .int .i64 f.sectors, .int .i64 f.wide] 85) _ rfl)
  have bb : Below w.heap.size w ((w.alloc (.cells #[.int .i64 f.rings, .int .i64 f.sectors, .int .i64 f.wide] 85)).alloc (.cells (noteA n sa sc) 51)) := ((Below.refl _ _).alloc (Nat.le_refl _) _).alloc (by simp) _
  have G1 := Lib.hid g1; clear g1
  have G0 := Lib.hid g0; clear g0
  have BB := Lib.hid bb; clear bb
  go_enter Tryz.func64, Tryz.ntmps64
  unfold FrV.val
  go_wp2_with (refine wpList_load_row rfl 51 _ rfl (w.heap.size + 1) rfl 51 (noteA n sa sc) (0, 0) _ G1.out Tryz.underlying51 rfl (I43.out _ _ _) ?_)
  refine (said_any f n sa sc _ hv (hs.below BB.out) n.kind).mono ?_
  rintro e w1 ⟨ta, tc, rfl, hrd, b1⟩
  have SR := Lib.hid hrd; clear hrd
  have l1 := (Array.getElem?_eq_some_iff.1 G1.out).1
  have z1 := b1.size
  have L1 : Loc3 w (w1.alloc (.cells (noteA (saidN n.kind n) ta tc) 51)) w.heap.size (w.heap.size + 1) w1.heap.size f n sa sc (noteA (saidN n.kind n) ta tc) :=
    ⟨heap_before _ _ _ _ ((b1.block _ (by omega)).trans G0.out), heap_before _ _ _ _ ((b1.block _ (by omega)).trans G1.out), heap_last _ _, (BB.out.trans (b1.mono BB.out.size)).alloc (by omega) _, by omega⟩
  have LL1 := Lib.hid L1; clear L1 l1 z1 b1
  have one1 := noteA_one (saidN n.kind n) ta tc
  have k4 : (w1.alloc (.cells (noteA (saidN n.kind n) ta tc) 51)).cell? ⟨w.heap.size + 1, 4, none⟩ = some (.int .i64 5) := by
    have h := note_cells LL1.out.e1 4 _ rfl
    simp only [Nat.zero_add] at h
    rw [h]
    exact congrArg (fun z => some (Value.int .i64 z)) HK.out
  go_upto_region 7 with (refine wpList_store_newp w1 rfl 51 _ _ rfl w1.heap.size rfl _ (noteA (saidN n.kind n) ta tc) rfl rfl (I43.out _ _ _) rfl one1 ?_)
  generalize hW2 : w1.alloc (.cells (noteA (saidN n.kind n) ta tc) 51) = W2 at *
  generalize hp0 : w.heap.size = p0 at *
  generalize hp1 : p0 + 1 = p1 at *
  generalize hp2 : w1.heap.size = p2 at *
  have RDb := Lib.hid (show ∀ W', Below p0 w W' → RdI W' ta (saidN n.kind n).strokes.length tc (saidN n.kind n).strokes from fun W' h => said_rd SR.out (hs.below (by rw [hp0]; exact h)))
  have HP0 := Lib.hid hp0; clear hp0 hp1 hp2 hW2 G0 G1 BB SR k4
  generalize hm : saidN n.kind n = m at *
  have HM := Lib.hid hm; clear hm
  have k18 := note_cells LL1.out.e1 18 _ rfl
  simp only [Nat.zero_add] at k18
  have c0 : W2.cell? ⟨p0, 0, none⟩ = some (.int .i64 f.rings) := by simp [World.cell?, LL1.out.e0]
  have c1 : W2.cell? ⟨p0, 1, none⟩ = some (.int .i64 f.sectors) := by simp [World.cell?, LL1.out.e0]
  have c2 : W2.cell? ⟨p0, 2, none⟩ = some (.int .i64 f.wide) := by simp [World.cell?, LL1.out.e0]
  go_wp2_with (refine wpList_load_row rfl 51 _ rfl p2 rfl 51 (noteA m ta tc) (0, 0) _ LL1.out.e2 Tryz.underlying51 rfl (I43.out _ _ _) ?_)
  refine (said_any f m ta tc _ hv (RDb.out _ LL1.out.b) n.fix).mono ?_
  rintro e w3 ⟨ua, uc, rfl, hrd, b3⟩
  have RDc := Lib.hid (show ∀ W', Below p0 w W' → RdI W' ua (saidN n.fix m).strokes.length uc (saidN n.fix m).strokes from fun W' h => said_rd hrd (RDb.out W' h))
  clear hrd k18 c0 c1 c2
  generalize hm2 : saidN n.fix m = m2 at *
  have HM2 := Lib.hid hm2; clear hm2
  have L3 := Lib.hid (LL1.out.below b3)
  clear b3
  have one2 := noteA_one m2 ua uc
  have g2 := heap_before w3 (.cells (noteA m2 ua uc) 51) _ _ L3.out.e2
  have G2 := Lib.hid g2; clear g2
  go_upto_region 9 with (first
    | (refine wpList_store_newp w3 rfl 51 _ _ rfl w3.heap.size rfl _ (noteA m2 ua uc) rfl rfl (I43.out _ _ _) rfl one2 ?_)
    | (refine wpList_load_row rfl 51 _ rfl w3.heap.size rfl 51 (noteA m2 ua uc) (0, 0) _ (heap_last _ _) Tryz.underlying51 rfl (I43.out _ _ _) ?_)
    | (refine wpList_store_rowN rfl 51 _ _ rfl p2 (noteA m ta tc) (noteA m2 ua uc) 51 rfl rfl G2.out (I43.out _ _ _) rfl one2 ?_))
  have L4 := Lib.hid ((L3.out.alloc (.cells (noteA m2 ua uc) 51)).setRow (noteA m2 ua uc))
  generalize (w3.alloc (.cells (noteA m2 ua uc) 51)).setRow p2 (noteA m2 ua uc) = W4 at *
  clear G2
  cases hok0 : saidB f n.kind n
  · go_upto_region 10 with fail
    have j18 := note_cells L4.out.e2 18 _ rfl
    simp only [Nat.zero_add] at j18
    have z18 := note_frozen L4.out.e2 18
    go_upto_region 11 with fail
    generalize hW : (W4.setCell ⟨p2, 18, none⟩ (.int .i64 0)) = W5 at *
    have L5 := Lib.hid (show Loc3 w W5 p0 p1 p2 f n sa sc (noteA { m2 with fix := 0 } ua uc) from by rw [← hW]; exact (L4.out.set 18 (.int .i64 0)))
    clear hW j18 z18
    have j0 := note_cells L5.out.e2 0 _ rfl
    simp only [Nat.zero_add] at j0
    have z0 := note_frozen L5.out.e2 0
    have j1 := note_cells L5.out.e2 1 _ rfl
    simp only [Nat.zero_add] at j1
    have z1 := note_frozen L5.out.e2 1
    have j2 := note_cells L5.out.e2 2 _ rfl
    simp only [Nat.zero_add] at j2
    have z2 := note_frozen L5.out.e2 2
    have j3 := note_cells L5.out.e2 3 _ rfl
    simp only [Nat.zero_add] at j3
    have z3 := note_frozen L5.out.e2 3
    have j4 := note_cells L5.out.e2 4 _ rfl
    simp only [Nat.zero_add] at j4
    have z4 := note_frozen L5.out.e2 4
    obtain ⟨N9, HN9⟩ : ∃ N9 : NoteV, Hid (N9 = { { m2 with fix := 0 } with house := 0, num := 0, clock := 0, day := 0, kind := 0 }) := ⟨_, Lib.hid rfl⟩
    go_upto_region 12 with fail
    generalize hW : (((((W5.setCell ⟨p2, 0, none⟩ (.int .i64 0)).setCell ⟨p2, 1, none⟩ (.int .i64 0)).setCell ⟨p2, 2, none⟩ (.int .i64 0)).setCell ⟨p2, 3, none⟩ (.int .i64 0)).setCell ⟨p2, 4, none⟩ (.int .i64 0)) = Wf18 at *
    have Lf19 := Lib.hid (show Loc3 w Wf18 p0 p1 p2 f n sa sc (noteA N9 ua uc) from by rw [HN9.out, ← hW]; exact (((((L5.out.set 0 (.int .i64 0)).set 1 (.int .i64 0)).set 2 (.int .i64 0)).set 3 (.int .i64 0)).set 4 (.int .i64 0)))
    have RDf20 := Lib.hid (show RdI Wf18 ua N9.strokes.length uc N9.strokes from by rw [HN9.out]; exact RDc.out _ Lf19.out.b)
    clear hW
    clear j0 z0 j1 z1 j2 z2 j3 z3 j4 z4
    have hR : formedB f n = false := by simp only [formedB, okB, if_neg (show ¬ n.kind = 2 by rw [HK.out]; decide), if_pos HK.out]; simp [hok0]
    have HRX := Lib.hid hR; clear hR
    go_wp2_with fail
    go_ret
    rw [HRX.out]
    exact ⟨rfl, by rw [HP0.out]; exact Lf19.out.b⟩
  · have HO0 := Lib.hid hok0
    cases hfi : saidB f n.fix m
    · go_upto_region 10 with fail
      have j18 := note_cells L4.out.e2 18 _ rfl
      simp only [Nat.zero_add] at j18
      have z18 := note_frozen L4.out.e2 18
      go_upto_region 11 with fail
      generalize hW : (W4.setCell ⟨p2, 18, none⟩ (.int .i64 0)) = W5 at *
      have L5 := Lib.hid (show Loc3 w W5 p0 p1 p2 f n sa sc (noteA { m2 with fix := 0 } ua uc) from by rw [← hW]; exact (L4.out.set 18 (.int .i64 0)))
      clear hW j18 z18
      have j0 := note_cells L5.out.e2 0 _ rfl
      simp only [Nat.zero_add] at j0
      have z0 := note_frozen L5.out.e2 0
      have j1 := note_cells L5.out.e2 1 _ rfl
      simp only [Nat.zero_add] at j1
      have z1 := note_frozen L5.out.e2 1
      have j2 := note_cells L5.out.e2 2 _ rfl
      simp only [Nat.zero_add] at j2
      have z2 := note_frozen L5.out.e2 2
      have j3 := note_cells L5.out.e2 3 _ rfl
      simp only [Nat.zero_add] at j3
      have z3 := note_frozen L5.out.e2 3
      have j4 := note_cells L5.out.e2 4 _ rfl
      simp only [Nat.zero_add] at j4
      have z4 := note_frozen L5.out.e2 4
      obtain ⟨N9, HN9⟩ : ∃ N9 : NoteV, Hid (N9 = { { m2 with fix := 0 } with house := 0, num := 0, clock := 0, day := 0, kind := 0 }) := ⟨_, Lib.hid rfl⟩
      go_upto_region 12 with fail
      generalize hW : (((((W5.setCell ⟨p2, 0, none⟩ (.int .i64 0)).setCell ⟨p2, 1, none⟩ (.int .i64 0)).setCell ⟨p2, 2, none⟩ (.int .i64 0)).setCell ⟨p2, 3, none⟩ (.int .i64 0)).setCell ⟨p2, 4, none⟩ (.int .i64 0)) = Wf21 at *
      have Lf22 := Lib.hid (show Loc3 w Wf21 p0 p1 p2 f n sa sc (noteA N9 ua uc) from by rw [HN9.out, ← hW]; exact (((((L5.out.set 0 (.int .i64 0)).set 1 (.int .i64 0)).set 2 (.int .i64 0)).set 3 (.int .i64 0)).set 4 (.int .i64 0)))
      have RDf23 := Lib.hid (show RdI Wf21 ua N9.strokes.length uc N9.strokes from by rw [HN9.out]; exact RDc.out _ Lf22.out.b)
      clear hW
      clear j0 z0 j1 z1 j2 z2 j3 z3 j4 z4
      have hR : formedB f n = false := by simp only [formedB, okB, if_neg (show ¬ n.kind = 2 by rw [HK.out]; decide), if_pos HK.out]; simp [hok0, HM.out, hfi]
      have HRX := Lib.hid hR; clear hR
      go_wp2_with fail
      go_ret
      rw [HRX.out]
      exact ⟨rfl, by rw [HP0.out]; exact Lf22.out.b⟩
    · have HFI := Lib.hid hfi
      have k18 := note_cells L4.out.e1 18 _ rfl
      simp only [Nat.zero_add] at k18
      go_wp2_with fail
      refine (hin_any n.fix 1 4 _).mono ?_
      rintro e W6 ⟨rfl, rfl⟩
      clear k18
      go_upto_region 10 with fail
      have j18 := note_cells L4.out.e2 18 _ rfl
      simp only [Nat.zero_add] at j18
      have z18 := note_frozen L4.out.e2 18
      go_upto_region 11 with fail
      generalize hW : (W4.setCell ⟨p2, 18, none⟩ (.int .i64 0)) = W5 at *
      have L5 := Lib.hid (show Loc3 w W5 p0 p1 p2 f n sa sc (noteA { m2 with fix := 0 } ua uc) from by rw [← hW]; exact (L4.out.set 18 (.int .i64 0)))
      clear hW j18 z18
      have j0 := note_cells L5.out.e2 0 _ rfl
      simp only [Nat.zero_add] at j0
      have z0 := note_frozen L5.out.e2 0
      have j1 := note_cells L5.out.e2 1 _ rfl
      simp only [Nat.zero_add] at j1
      have z1 := note_frozen L5.out.e2 1
      have j2 := note_cells L5.out.e2 2 _ rfl
      simp only [Nat.zero_add] at j2
      have z2 := note_frozen L5.out.e2 2
      have j3 := note_cells L5.out.e2 3 _ rfl
      simp only [Nat.zero_add] at j3
      have z3 := note_frozen L5.out.e2 3
      have j4 := note_cells L5.out.e2 4 _ rfl
      simp only [Nat.zero_add] at j4
      have z4 := note_frozen L5.out.e2 4
      obtain ⟨N9, HN9⟩ : ∃ N9 : NoteV, Hid (N9 = { { m2 with fix := 0 } with house := 0, num := 0, clock := 0, day := 0, kind := 0 }) := ⟨_, Lib.hid rfl⟩
      go_upto_region 12 with fail
      generalize hW : (((((W5.setCell ⟨p2, 0, none⟩ (.int .i64 0)).setCell ⟨p2, 1, none⟩ (.int .i64 0)).setCell ⟨p2, 2, none⟩ (.int .i64 0)).setCell ⟨p2, 3, none⟩ (.int .i64 0)).setCell ⟨p2, 4, none⟩ (.int .i64 0)) = Wf24 at *
      have Lf25 := Lib.hid (show Loc3 w Wf24 p0 p1 p2 f n sa sc (noteA N9 ua uc) from by rw [HN9.out, ← hW]; exact (((((L5.out.set 0 (.int .i64 0)).set 1 (.int .i64 0)).set 2 (.int .i64 0)).set 3 (.int .i64 0)).set 4 (.int .i64 0)))
      have RDf26 := Lib.hid (show RdI Wf24 ua N9.strokes.length uc N9.strokes from by rw [HN9.out]; exact RDc.out _ Lf25.out.b)
      clear hW
      clear j0 z0 j1 z1 j2 z2 j3 z3 j4 z4
      cases hok : inB n.fix 1 4
      · have hR : formedB f n = false := by simp only [formedB, okB, if_neg (show ¬ n.kind = 2 by rw [HK.out]; decide), if_pos HK.out]; simp [hok0, HM.out, hfi, hok]
        have HRX := Lib.hid hR; clear hR
        go_wp2_with fail
        go_ret
        rw [HRX.out]
        exact ⟨rfl, by rw [HP0.out]; exact Lf25.out.b⟩
      · go_wp2_with (first
          | (refine wpList_load_row rfl 51 _ rfl p1 rfl 51 (noteA n sa sc) (0, 0) _ Lf25.out.e1 Tryz.underlying51 rfl (I43.out _ _ _) ?_)
          | (refine wpList_load_rowG ?hw 51 _ rfl p1 rfl 51 (noteA n sa sc) (0, 0) _ Lf25.out.e1 Tryz.underlying51 rfl (I43.out _ _ _) ?_; case hw => rfl))
        refine (nameOf_any n sa sc _).mono ?_
        rintro e wn27 ⟨rfl, b2⟩
        have LN29 := Lib.hid (Lf25.out.below b2)
        have RD3 := Lib.hid (RDf26.out.below b2)
        clear b2
        go_wp2_with fail
        refine (rightName_any n.house n.num _).mono ?_
        rintro e wr28 ⟨rfl, b2⟩
        have LR30 := Lib.hid (LN29.out.below b2)
        have RD4 := Lib.hid (RD3.out.below b2)
        clear b2 RD3
        cases hrn : rightNameB n.house n.num
        · have hR : formedB f n = false := by simp only [formedB, okB, if_neg (show ¬ n.kind = 2 by rw [HK.out]; decide), if_pos HK.out]; simp [hok0, HM.out, hfi, hok, hrn]
          have HRX := Lib.hid hR; clear hR
          go_wp2_with fail
          go_ret
          rw [HRX.out]
          exact ⟨rfl, by rw [HP0.out]; exact LR30.out.b⟩
        · have HRN := Lib.hid hrn
          have k2 := note_cells LR30.out.e1 2 _ rfl
          simp only [Nat.zero_add] at k2
          have k3 := note_cells LR30.out.e1 3 _ rfl
          simp only [Nat.zero_add] at k3
          go_wp2_with fail
          refine (hin_any n.clock 1 1099511627776 _).mono ?_
          rintro e w' ⟨rfl, rfl⟩
          cases hcl : inB n.clock 1 1099511627776
          · have hR : formedB f n = false := by simp only [formedB, okB, if_neg (show ¬ n.kind = 2 by rw [HK.out]; decide), if_pos HK.out]; simp [hok0, HM.out, hfi, hok, hrn, hcl]
            have HRX := Lib.hid hR; clear hR
            go_wp2_with fail
            go_ret
            rw [HRX.out]
            exact ⟨rfl, by rw [HP0.out]; exact LR30.out.b⟩
          · have HCL := Lib.hid hcl
            go_wp2_with fail
            refine (hin_any n.day 0 99999 _).mono ?_
            rintro e w' ⟨rfl, rfl⟩
            cases hda : inB n.day 0 99999
            · have hR : formedB f n = false := by simp only [formedB, okB, if_neg (show ¬ n.kind = 2 by rw [HK.out]; decide), if_pos HK.out]; simp [hok0, HM.out, hfi, hok, hrn, hcl, hda]
              have HRX := Lib.hid hR; clear hR
              go_wp2_with fail
              go_ret
              rw [HRX.out]
              exact ⟨rfl, by rw [HP0.out]; exact LR30.out.b⟩
            · have HDA := Lib.hid hda
              go_wp2_with (first
                | (refine wpList_load_row rfl 51 _ rfl p2 rfl 51 (noteA N9 ua uc) (0, 0) _ LR30.out.e2 Tryz.underlying51 rfl (I43.out _ _ _) ?_)
                | (refine wpList_load_rowG ?hw 51 _ rfl p2 rfl 51 (noteA N9 ua uc) (0, 0) _ LR30.out.e2 Tryz.underlying51 rfl (I43.out _ _ _) ?_; case hw => rfl))
              refine (same_any N9 zeroN ua uc none 0 _ RD4.out (RdA.nil _ 1)).mono ?_
              rintro e ws ⟨rfl, b2⟩
              have hR : formedB f n = sameB (bareN n) zeroN := by simp only [formedB, okB, if_neg (show ¬ n.kind = 2 by rw [HK.out]; decide), if_pos HK.out]; simp [hok0, HM.out, hfi, hok, hrn, hcl, hda]
              have hN : bareN n = N9 := by rw [HN9.out]; unfold bareN leftN; rw [if_neg (show ¬ n.kind = 2 by rw [HK.out]; decide), if_pos HK.out, HM.out, HM2.out]
              have HRX := Lib.hid hR; clear hR
              have HNX := Lib.hid hN; clear hN
              go_wp2_with fail
              go_ret
              rw [HRX.out, HNX.out]
              exact ⟨rfl, by rw [HP0.out]; exact (LR30.out.below b2).b⟩
end
theorem formed_any (f : FrV) (n : NoteV) (sa : Option Addr) (sc : Nat) (w : World) (hv : f.valid = true) (hs : RdI w sa n.strokes.length sc n.strokes) :
    Calls Tryz.prog 64 #[f.val, .agg (noteA n sa sc)] w fun e w' => e = .returned (.bool (formedB f n)) ∧ Below w.heap.size w w' := by
  by_cases k2 : n.kind = 2
  · exact formed_2 f n sa sc w hv hs k2
  · by_cases k5 : n.kind = 5
    · exact formed_5 f n sa sc w hv hs k5
    · exact formed_o f n sa sc w hv hs k2 k5
end Go.Proofs.YtpjiakgfegnmcaaGreat
namespace Go.Proofs.YtpjiakgfegnmcaaGreat
open Go.RowKit

theorem cell_of {W : World} {p : Nat} {A : Array Value} {t : TypeId} {sp : Nat × Nat} (h : W.heap[p]? = some (.cells A t sp)) (j : Nat) (v : Value) (hv : A[j]? = some v) : W.cell? ⟨p, j, none⟩ = some v := by
  simp [World.cell?, h, hv]
section
variable (n : NoteV) (sa : Option Addr) (sc : Nat) (w : World)
end
end Go.Proofs.YtpjiakgfegnmcaaGreat
namespace Go.Proofs.YtpjiakgfegnmcaaGreat
open Go.RowKit

def LoopAt (rec : LoopState → Option Code → Loop) (D : Nat) (st : LoopState) (pe : Option Code) (W : World) : Prop :=
  W.heap[D + 1]? = some (.loop (rec st pe)) ∧ W.heap[D]? = some (.deferred (some []))

theorem LoopAt.kept {rec : LoopState → Option Code → Loop} {D : Nat} {st : LoopState} {pe : Option Code} {W W' : World} (h : LoopAt rec D st pe W) (hk : KeepsFrom D W W') : LoopAt rec D st pe W' :=
  ⟨hk.same _ _ (by omega) h.1 rfl, hk.same _ _ (Nat.le_refl _) h.2 rfl⟩

def roundEnd (D : Nat) (B : World → Prop) (X : Code → World → Prop) (W : World) : Exit → Act → World → Prop
  | .normal, _, W' => KeepsFrom D W W' ∧ B W'
  | .ret, _, W' => KeepsFrom D W W' ∧ X .ret W'
  | .exit id, _, W' => KeepsFrom D W W' ∧ X (.exit id) W'
  | .goto t, _, W' => KeepsFrom D W W' ∧ X (.goto t) W'
  | .panic _, _, _ => False
  | .outgrown, _, _ => False

end Go.Proofs.YtpjiakgfegnmcaaGreat
namespace Go.Proofs.YtpjiakgfegnmcaaGreat
open Go.RowKit
attribute [local go_sem] Oper.semAt_some

structure Same (S : Nat → Prop) (W W' : World) : Prop where
  os : W'.os = W.os
  tape : W'.tape = W.tape
  output : W'.output = W.output
  size : W.heap.size ≤ W'.heap.size
  block : ∀ k, k < W.heap.size → ¬ S k → W'.heap[k]? = W.heap[k]?

theorem Same.of_below {S : Nat → Prop} {W W' : World} (h : Below W.heap.size W W') : Same S W W' := ⟨h.os, h.tape, h.output, h.size, fun k hk _ => h.block k hk⟩
theorem Same.of_grown {S : Nat → Prop} {W W' : World} {row : Option Nat} (h : W.grownBy W' row) (hr : ∀ k, row = some k → S k) : Same S W W' :=
  ⟨h.os, h.tape, h.output, h.size, fun k hk hs => h.block k hk (fun e => hs (hr k e.symm))⟩
theorem Same.trans {S : Nat → Prop} {A B C : World} (h : Same S A B) (k : Same S B C) : Same S A C :=
  ⟨k.os.trans h.os, k.tape.trans h.tape, k.output.trans h.output, Nat.le_trans h.size k.size, fun i hi hs => (k.block i (Nat.lt_of_lt_of_le hi h.size) hs).trans (h.block i hi hs)⟩
theorem Same.below {S : Nat → Prop} {B : Nat} {A W W' : World} (h : Same S W W') (hb : Below B A W) (hB : B ≤ W.heap.size) (hs : ∀ k, S k → B ≤ k) : Below B A W' :=
  hb.trans ⟨h.os, h.tape, h.output, h.size, fun k hk => h.block k (by omega) (fun e => by have := hs k e; omega)⟩

def Box (W : World) (b : Nat) (t : TypeId) (v : Value) : Prop := W.heap[b]? = some (.cells #[v] t (0, 0))
theorem Box.cell {W : World} {b : Nat} {t : TypeId} {v : Value} (h : Box W b t v) : W.cell? ⟨b, 0, none⟩ = some v := cell_of_one h
theorem Box.free {W : World} {b : Nat} {t : TypeId} {v : Value} (h : Box W b t v) : W.frozen? ⟨b, 0, none⟩ = false := free_of_one h
theorem Box.same {S : Nat → Prop} {W W' : World} {b : Nat} {t : TypeId} {v : Value} (h : Box W b t v) (hs : Same S W W') (hn : ¬ S b) : Box W' b t v :=
  (hs.block b (Array.getElem?_eq_some_iff.1 h).1 hn).trans h

theorem Box.new (W : World) (t : TypeId) (v : Value) {b : Nat} (hb : b = W.heap.size) : Box (W.alloc (.cells #[v] t)) b t v := by subst hb; exact heap_alloc_new W _
theorem Box.alloc {W : World} {b : Nat} {t : TypeId} {v : Value} (h : Box W b t v) (o : Obj) : Box (W.alloc o) b t v := h.same (Same.of_below (S := fun _ => False) ((Below.refl _ _).alloc (Nat.le_refl _) o)) id
theorem Box.set {W : World} {b : Nat} {t : TypeId} {v : Value} (h : Box W b t v) (u : Value) : Box (W.setCell ⟨b, 0, none⟩ u) b t u := one_setCell h
theorem Same.setCell {S : Nat → Prop} {W : World} {b : Nat} (u : Value) (h : S b) : Same S W (W.setCell ⟨b, 0, none⟩ u) := Same.of_grown (grownBy_setCell' W b u) (fun k e => by cases e; exact h)

theorem LoopAt.below {rec : LoopState → Option Code → Loop} {D : Nat} {st : LoopState} {pe : Option Code} {W W' : World} (h : LoopAt rec D st pe W) (hb : Below W.heap.size W W') : LoopAt rec D st pe W' :=
  ⟨(hb.block _ (Array.getElem?_eq_some_iff.1 h.1).1).trans h.1, (hb.block _ (Array.getElem?_eq_some_iff.1 h.2).1).trans h.2⟩

end Go.Proofs.YtpjiakgfegnmcaaGreat
namespace Go.Proofs.YtpjiakgfegnmcaaGreat
open Go.RowKit

theorem frozen_of {W : World} {p : Nat} {A : Array Value} {t : TypeId} (h : W.heap[p]? = some (.cells A t (0, 0))) (j : Nat) : W.frozen? ⟨p, j, none⟩ = false := by
  simp [World.frozen?, h]
end Go.Proofs.YtpjiakgfegnmcaaGreat
namespace Go.Proofs.YtpjiakgfegnmcaaGreat
open Go.RowKit

end Go.Proofs.YtpjiakgfegnmcaaGreat
namespace Go.Proofs.YtpjiakgfegnmcaaGreat
open Go.RowKit
section
variable {wf W W' : World} {rp nb B : Nat} {m : NoteV} {sa : Option Addr} {sc : Nat} {t : List UInt8} {a : Option Addr} {n c : Nat}
end
theorem infoInt : (Tryz.prog.info? 3).map (fun i => (i.zero, i.size, i.bytes)) = some (some (.int .i64 0), 1, 8) := by kernel_rfl
section
attribute [local go_sem] noteA_0 noteA_1 noteA_2 noteA_3 noteA_4 noteA_5 noteA_6 noteA_7 noteA_8 noteA_9 noteA_10 noteA_11 noteA_12 noteA_13 noteA_14 noteA_15 noteA_16 noteA_17 noteA_18
end
end Go.Proofs.YtpjiakgfegnmcaaGreat
namespace Go.Proofs.YtpjiakgfegnmcaaGreat
open Go.RowKit

section
variable {W W' : World} {rp : Nat} {l : List UInt8} {a : Option Addr} {n c at_ : Nat} {bad : Bool}
theorem Same.refl (S : Nat → Prop) (W : World) : Same S W W := ⟨rfl, rfl, rfl, Nat.le_refl _, fun _ _ _ => rfl⟩
end
end Go.Proofs.YtpjiakgfegnmcaaGreat
namespace Go.Proofs.YtpjiakgfegnmcaaGreat
open Go.RowKit

theorem app_ints (w : World) {ops : Array Oper} {rest : List Oper} {o : Oper} {a : Act} {Q : Exit → Act → World → Prop} (hgd : o.guard = none) (s x : Operand)
    (ho : o.op = .call { callee := .builtin .append, args := #[s, x], argTypes := #[38, 38] }) (base : Nat)
    (sa : Option Addr) (sn sc : Nat) (xs : List Int) (hs : a.eval s = .slice sa sn sc) (hown : w.ownsRow base 3 1 (.slice sa sn sc) sn (xs.map intV))
    (xa : Option Addr) (m xc : Nat) (ys : List Int) (hx : a.eval x = .slice xa m xc) (hrd : RdI w xa m xc ys) (hbytes : (sn + m) * 8 ≤ 140737488355328) (hbase : base ≤ w.heap.size)
    (h : ∀ a' c' w', w'.ownsRow base 3 1 (.slice a' (sn + m) c') (sn + m) ((xs ++ ys).map intV) → w.grownBy w' (Value.ownBlock (.slice sa sn sc)) → wpList Tryz.prog ops Q rest (a.put o.dst (.slice a' (sn + m) c')) w') :
    wpList Tryz.prog ops Q (o :: rest) a w := by
  obtain ⟨i, hi, hz0, hz1, hz2⟩ := info_parts infoInt
  exact wpList_append_rd w hgd s x 38 ho base 3 i (.int .i64 0) 1 8 Tryz.underlying38 hi hz0 hz1 hz2 rfl (by decide) sa sn sc _ hs hown xa m xc _ hx hrd (intV_one _) (by unfold maxLen; omega) hbytes hbase
    (fun a' c' w' h1 h2 => h a' c' w' (by rw [List.map_append]; exact h1) h2)
end Go.Proofs.YtpjiakgfegnmcaaGreat
namespace Go.Proofs.YtpjiakgfegnmcaaGreat
open Go.RowKit

theorem run_append_loc {P : Program} (w : World) (base : Nat) (t ty e : TypeId) (i : TypeInfo) (z : Value) (size bytes : Nat) (ht : P.underlying t = some (.slice e)) (hi : P.info? e = some i) (hz : i.zero = some z)
    (hsize : i.size = size) (hby : i.bytes = bytes)
    (sa : Option Addr) (sn sc : Nat) (xs : List Value) (hown : w.ownsRow base e size (.slice sa sn sc) sn xs)
    (xa : Option Addr) (m xc : Nat) (ys : List Value) (hrd : RdA w size xa m xc ys) (h1 : ∀ u ∈ ys, u.oneCell' = true)
    (h63 : sn + m ≤ maxLen) (hbytes : (sn + m) * bytes ≤ 140737488355328) (v : Value) (w' : World) (hr : (Builtin.append_ #[t, t] ty #[.slice sa sn sc, .slice xa m xc]).run P w = .ok v w') :
    (∃ n' c', v = .slice sa n' c') ∨ ∃ n' c', v = .slice (some ⟨w.heap.size, 0, none⟩) n' c' := by
  subst hsize
  subst hby
  have hsmall : ((sn + m : Nat) : Int) ≤ 9223372036854775807 := by simp only [maxLen] at h63; omega
  have hkind : (xa = none ∧ m = 0 ∧ xc = 0) ∨ ∃ ad, xa = some ad ∧ ∀ j u, ys[j]? = some u → w.cell? (ad.add j) = some u := by
    rcases hrd.2.2.2 with rfl | ⟨b, off, rfl, h4⟩
    · have hm : m = 0 := by have := hrd.2.1; omega
      subst hm
      have hy : ys = [] := List.eq_nil_of_length_eq_zero (by simpa using hrd.1)
      cases xa with
      | none => exact .inl ⟨rfl, rfl, rfl⟩
      | some ad => exact .inr ⟨ad, rfl, fun j u hu => by rw [hy] at hu; simp at hu⟩
    · exact .inr ⟨_, rfl, fun j u hu => by rw [Addr.add_lit]; exact h4 j u hu⟩
  rcases hkind with ⟨rfl, rfl, rfl⟩ | ⟨ad, rfl, hnews⟩
  · rw [run_append_owned_none (P := P) (w := w) base t ty e i i.size ht hi _ sn xs hown] at hr
    cases hr
    exact .inl ⟨_, _, rfl⟩
  · rcases hown.2 with ⟨h2, rfl⟩ | ⟨g, cap, cur, h2, hbg, hg, hnc, hcm, hcs, htake⟩
    · simp only [Value.slice.injEq] at h2
      obtain ⟨rfl, _, rfl⟩ := h2
      by_cases hm : m = 0
      · subst hm
        have hy : ys = [] := List.eq_nil_of_length_eq_zero (by simpa using hrd.1)
        have hr' : (Builtin.append_ #[t, t] ty #[.slice none 0 0, .slice (some ad) 0 xc]).run P w = .ok (.slice none 0 0) w := by
          simp [Builtin.append_, run_underlying ht, sizeOf, typeInfo, hi, Builtin.lenOf, Builtin.firstCells, loadCells, loadCellsFrom]
        rw [hr'] at hr
        cases hr
        exact .inl ⟨_, _, rfl⟩
      · rw [run_append_nil (P := P) w t ty e i z ht hi hz ad m xc ys hrd.1 hnews (by omega) (by omega) (by have hb := hbytes; simp only [Nat.zero_add] at hb; omega)] at hr
        cases hr
        exact .inr ⟨_, _, rfl⟩
    · simp only [Value.slice.injEq] at h2
      obtain ⟨rfl, _, rfl⟩ := h2
      by_cases hroom : sn + m ≤ sc
      · have hfit : sn * i.size + ys.length ≤ cur.size := by rw [hrd.1, hcs, ← Nat.add_mul]; exact Nat.mul_le_mul_right _ hroom
        rw [run_append_room (P := P) w t ty e i ht hi g sn sc cur hg ad m xc ys hrd.1 hnews h1 hroom hfit] at hr
        cases hr
        exact .inl ⟨_, _, rfl⟩
      · have holds : ∀ j u, xs[j]? = some u → w.cell? ((⟨g, 0, none⟩ : Addr).add j) = some u := hown.cells (g := g) rfl
        rw [run_append_grow (P := P) w t ty e i z ht hi hz ⟨g, 0, none⟩ sn sc xs hown.1 holds ad m xc ys hrd.1 hnews (by omega) hsmall (growslice_fits (by omega) hbytes)] at hr
        cases hr
        exact .inr ⟨_, _, rfl⟩

theorem own_keep {S : Nat → Prop} {W W' : World} {base : Nat} {e : TypeId} {k : Nat} {v : Value} {n : Nat} {xs : List Value} (h : W.ownsRow base e k v n xs) (hs : Same S W W')
    (hd : ∀ b, v.ownBlock = some b → ¬ S b) : W'.ownsRow base e k v n xs := by
  refine ⟨h.1, ?_⟩
  rcases h.2 with h | ⟨g, cap, cur, rfl, hg, hgg, hr⟩
  · exact .inl h
  · exact .inr ⟨g, cap, cur, rfl, hg, (hs.block g (Array.getElem?_eq_some_iff.1 hgg).1 (hd g rfl)).trans hgg, hr⟩

end Go.Proofs.YtpjiakgfegnmcaaGreat
namespace Go.Proofs.YtpjiakgfegnmcaaGreat
open Go.RowKit

theorem RdB.lit (w : World) (l : List UInt8) (hl : l.length ≤ 1000000) : RdB (w.alloc (.cells (l.map byteV).toArray 5)) (some ⟨w.heap.size, 0, none⟩) l.length l.length l := by
  have h := World.ownsRow_lit (base := w.heap.size) (e := 5) (size := 1) w (l.map byteV).toArray l.length (Nat.le_refl _) (by unfold maxLen; omega) (by simp)
  exact RdA.of_own h

end Go.Proofs.YtpjiakgfegnmcaaGreat
