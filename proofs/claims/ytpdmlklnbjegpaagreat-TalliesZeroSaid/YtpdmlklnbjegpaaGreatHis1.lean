/- The program's small tests of notes: in, rightName, nameOf, valid, cell, spans, strokes. -/
import Derived.Test.YtpdmlklnbjegpaaGreatNoteA
import Derived.Test.YtpdmlklnbjegpaaGreatBytes
import Derived.Handy
namespace Go.Proofs.YtpdmlklnbjegpaaGreat
open Go.RowKit

def inB (x lo hi : Int) : Bool := decide (lo ≤ x) && decide (x ≤ hi)
theorem inB_true {x lo hi : Int} : inB x lo hi = true ↔ lo ≤ x ∧ x ≤ hi := by simp [inB]
theorem inB_false {x lo hi : Int} : inB x lo hi = false ↔ ¬ (lo ≤ x ∧ x ≤ hi) := by rw [← inB_true]; simp

theorem hin_any (x lo hi : Int) (w : World) : Calls Tryz.prog 100 #[.int .i64 x, .int .i64 lo, .int .i64 hi] w fun e w' => e = .returned (.bool (inB x lo hi)) ∧ w = w' := by
  by_cases h1 : lo ≤ x
  · have t1 : decide (lo ≤ x) = true := by simp; omega
    by_cases h2 : x ≤ hi
    · have t2 : decide (x ≤ hi) = true := by simp; omega
      have t3 : inB x lo hi = true := inB_true.2 ⟨h1, h2⟩
      rw [t3]; clear t3
      go_enter Tryz.func100, Tryz.ntmps100
      go_wp2_with fail
      go_ret
      exact ⟨rfl, rfl⟩
    · have t2 : decide (x ≤ hi) = false := by simp; omega
      have t3 : inB x lo hi = false := inB_false.2 (fun h => h2 h.2)
      rw [t3]; clear t3
      go_enter Tryz.func100, Tryz.ntmps100
      go_wp2_with fail
      go_ret
      exact ⟨rfl, rfl⟩
  · have t1 : decide (lo ≤ x) = false := by simp; omega
    have t3 : inB x lo hi = false := inB_false.2 (fun h => h1 h.1)
    rw [t3]; clear t3
    go_enter Tryz.func100, Tryz.ntmps100
    go_wp2_with fail
    go_ret
    exact ⟨rfl, rfl⟩

def rightNameB (h m : Int) : Bool := inB h 1 8 && inB m 1 400
theorem rightName_any (h m : Int) (w : World) : Calls Tryz.prog 102 #[.agg #[.int .i64 h, .int .i64 m]] w fun e w' => e = .returned (.bool (rightNameB h m)) ∧ Below w.heap.size w w' := by
  have hb := (Below.refl w.heap.size w).alloc (Nat.le_refl _) (.cells #[.int .i64 h, .int .i64 m] 45)
  unfold rightNameB
  cases h1 : inB h 1 8
  · go_enter Tryz.func102, Tryz.ntmps102
    go_wp2_with fail
    refine (hin_any h 1 8 _).mono ?_
    rintro e w' ⟨rfl, rfl⟩
    rw [h1]
    go_wp2_with fail
    go_ret
    exact ⟨rfl, hb⟩
  · go_enter Tryz.func102, Tryz.ntmps102
    go_wp2_with fail
    refine (hin_any h 1 8 _).mono ?_
    rintro e w' ⟨rfl, rfl⟩
    rw [h1]
    go_wp2_with fail
    refine (hin_any m 1 400 _).mono ?_
    rintro e w' ⟨rfl, rfl⟩
    go_wp2_with fail
    go_ret
    exact ⟨rfl, hb⟩

structure FrV where
  rings : Int
  sectors : Int
  wide : Int
def FrV.val (f : FrV) : Value := .agg #[.int .i64 f.rings, .int .i64 f.sectors, .int .i64 f.wide]
def FrV.valid (f : FrV) : Bool := inB f.rings 1 24 && (inB f.sectors 2 96 && inB f.wide 1 f.sectors)

theorem valid_any (r s d : Int) (w : World) : Calls Tryz.prog 64 #[.agg #[.int .i64 r, .int .i64 s, .int .i64 d]] w fun e w' => e = .returned (.bool (FrV.valid ⟨r, s, d⟩)) ∧ Below w.heap.size w w' := by
  have hb := (Below.refl w.heap.size w).alloc (Nat.le_refl _) (.cells #[.int .i64 r, .int .i64 s, .int .i64 d] 131)
  unfold FrV.valid
  cases h1 : inB r 1 24
  · go_enter Tryz.func64, Tryz.ntmps64
    go_wp2_with fail
    refine (hin_any r 1 24 _).mono ?_
    rintro e w' ⟨rfl, rfl⟩
    rw [h1]
    go_wp2_with fail
    go_ret
    exact ⟨rfl, hb⟩
  · cases h2 : inB s 2 96
    · go_enter Tryz.func64, Tryz.ntmps64
      go_wp2_with fail
      refine (hin_any r 1 24 _).mono ?_
      rintro e w' ⟨rfl, rfl⟩
      rw [h1]
      go_wp2_with fail
      refine (hin_any s 2 96 _).mono ?_
      rintro e w' ⟨rfl, rfl⟩
      rw [h2]
      go_wp2_with fail
      go_ret
      exact ⟨rfl, hb⟩
    · go_enter Tryz.func64, Tryz.ntmps64
      go_wp2_with fail
      refine (hin_any r 1 24 _).mono ?_
      rintro e w' ⟨rfl, rfl⟩
      rw [h1]
      go_wp2_with fail
      refine (hin_any s 2 96 _).mono ?_
      rintro e w' ⟨rfl, rfl⟩
      rw [h2]
      go_wp2_with fail
      refine (hin_any d 1 s _).mono ?_
      rintro e w' ⟨rfl, rfl⟩
      go_wp2_with fail
      go_ret
      exact ⟨rfl, hb⟩

def spansB (a b lo hi : Int) : Bool := decide (lo ≤ a) && (decide (a ≤ b) && decide (b ≤ hi))
theorem spans_any (a b lo hi : Int) (w : World) : Calls Tryz.prog 132 #[.agg #[.int .i64 a, .int .i64 b], .int .i64 lo, .int .i64 hi] w fun e w' => e = .returned (.bool (spansB a b lo hi)) ∧ Below w.heap.size w w' := by
  have hb := (Below.refl w.heap.size w).alloc (Nat.le_refl _) (.cells #[.int .i64 a, .int .i64 b] 43)
  unfold spansB
  cases h1 : decide (lo ≤ a)
  · go_enter Tryz.func132, Tryz.ntmps132
    go_wp2_with fail
    go_ret
    exact ⟨rfl, hb⟩
  · cases h2 : decide (a ≤ b)
    · go_enter Tryz.func132, Tryz.ntmps132
      go_wp2_with fail
      go_ret
      exact ⟨rfl, hb⟩
    · go_enter Tryz.func132, Tryz.ntmps132
      go_wp2_with fail
      go_ret
      exact ⟨rfl, hb⟩

theorem cell_any (r s d x : Int) (w : World) (hr : 1 ≤ r ∧ r ≤ 24) (hs : 2 ≤ s ∧ s ≤ 96) : Calls Tryz.prog 133 #[.agg #[.int .i64 r, .int .i64 s, .int .i64 d], .int .i64 x] w fun e w' => e = .returned (.bool (inB x 0 (r * s - 1))) ∧ Below w.heap.size w w' := by
  have hb := (Below.refl w.heap.size w).alloc (Nat.le_refl _) (.cells #[.int .i64 r, .int .i64 s, .int .i64 d] 131)
  have h1 : 0 ≤ r * s := Int.mul_nonneg (by omega) (by omega)
  have h2 : r * s ≤ 24 * 96 := Int.mul_le_mul hr.2 hs.2 (by omega) (by omega)
  go_enter Tryz.func133, Tryz.ntmps133
  go_wp2_with fail
  refine (hin_any x 0 (r * s - 1) _).mono ?_
  rintro e w' ⟨rfl, rfl⟩
  go_wp2_with fail
  go_ret
  exact ⟨rfl, hb⟩
section
attribute [local go_sem] noteA_0 noteA_1
theorem nameOf_any (n : NoteV) (sa : Option Addr) (sc : Nat) (w : World) : Calls Tryz.prog 103 #[.agg (noteA n sa sc)] w fun e w' => e = .returned (.agg #[.int .i64 n.house, .int .i64 n.num]) ∧ Below w.heap.size w w' := by
  have hb := (Below.refl w.heap.size w).alloc (Nat.le_refl _) (.cells (noteA n sa sc) 47)
  go_enter Tryz.func103, Tryz.ntmps103
  go_wp2_with fail
  go_returns
  exact ⟨rfl, hb.alloc hb.size _⟩
end
end Go.Proofs.YtpdmlklnbjegpaaGreat
