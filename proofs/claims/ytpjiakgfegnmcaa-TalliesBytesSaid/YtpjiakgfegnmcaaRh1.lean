/- The reference's small tests of notes. -/
import Derived.Test.YtpjiakgfegnmcaaHis1
namespace Go.Proofs.Ytpjiakgfegnmcaa
open Go.RowKit

theorem rin_any (x lo hi : Int) (w : World) : Calls Try.prog 111 #[.int .i64 x, .int .i64 lo, .int .i64 hi] w fun e w' => e = .returned (.bool (inB x lo hi)) ∧ w = w' := by
  by_cases h1 : lo ≤ x
  · have t1 : decide (lo ≤ x) = true := by simp; omega
    by_cases h2 : x ≤ hi
    · have t2 : decide (x ≤ hi) = true := by simp; omega
      have t3 : inB x lo hi = true := inB_true.2 ⟨h1, h2⟩
      rw [t3]; clear t3
      go_enter Try.func111, Try.ntmps111
      go_wp2_with fail
      go_ret
      exact ⟨rfl, rfl⟩
    · have t2 : decide (x ≤ hi) = false := by simp; omega
      have t3 : inB x lo hi = false := inB_false.2 (fun h => h2 h.2)
      rw [t3]; clear t3
      go_enter Try.func111, Try.ntmps111
      go_wp2_with fail
      go_ret
      exact ⟨rfl, rfl⟩
  · have t1 : decide (lo ≤ x) = false := by simp; omega
    have t3 : inB x lo hi = false := inB_false.2 (fun h => h1 h.1)
    rw [t3]; clear t3
    go_enter Try.func111, Try.ntmps111
    go_wp2_with fail
    go_ret
    exact ⟨rfl, rfl⟩

theorem rrightName_any (h m : Int) (w : World) : Calls Try.prog 112 #[.agg #[.int .i64 h, .int .i64 m]] w fun e w' => e = .returned (.bool (rightNameB h m)) ∧ Below w.heap.size w w' := by
  have hb := (Below.refl w.heap.size w).alloc (Nat.le_refl _) (.cells #[.int .i64 h, .int .i64 m] 41)
  unfold rightNameB
  cases h1 : inB h 1 8
  · go_enter Try.func112, Try.ntmps112
    go_wp2_with fail
    refine (rin_any h 1 8 _).mono ?_
    rintro e w' ⟨rfl, rfl⟩
    rw [h1]
    go_wp2_with fail
    go_ret
    exact ⟨rfl, hb⟩
  · go_enter Try.func112, Try.ntmps112
    go_wp2_with fail
    refine (rin_any h 1 8 _).mono ?_
    rintro e w' ⟨rfl, rfl⟩
    rw [h1]
    go_wp2_with fail
    refine (rin_any m 1 400 _).mono ?_
    rintro e w' ⟨rfl, rfl⟩
    go_wp2_with fail
    go_ret
    exact ⟨rfl, hb⟩

theorem validFrame_any (r s d : Int) (w : World) : Calls Try.prog 82 #[.agg #[.int .i64 r, .int .i64 s, .int .i64 d]] w fun e w' => e = .returned (.bool (FrV.valid ⟨r, s, d⟩)) ∧ Below w.heap.size w w' := by
  have hb := (Below.refl w.heap.size w).alloc (Nat.le_refl _) (.cells #[.int .i64 r, .int .i64 s, .int .i64 d] 61)
  unfold FrV.valid
  cases h1 : inB r 1 24
  · go_enter Try.func82, Try.ntmps82
    go_wp2_with fail
    refine (rin_any r 1 24 _).mono ?_
    rintro e w' ⟨rfl, rfl⟩
    rw [h1]
    go_wp2_with fail
    go_ret
    exact ⟨rfl, hb⟩
  · cases h2 : inB s 2 96
    · go_enter Try.func82, Try.ntmps82
      go_wp2_with fail
      refine (rin_any r 1 24 _).mono ?_
      rintro e w' ⟨rfl, rfl⟩
      rw [h1]
      go_wp2_with fail
      refine (rin_any s 2 96 _).mono ?_
      rintro e w' ⟨rfl, rfl⟩
      rw [h2]
      go_wp2_with fail
      go_ret
      exact ⟨rfl, hb⟩
    · go_enter Try.func82, Try.ntmps82
      go_wp2_with fail
      refine (rin_any r 1 24 _).mono ?_
      rintro e w' ⟨rfl, rfl⟩
      rw [h1]
      go_wp2_with fail
      refine (rin_any s 2 96 _).mono ?_
      rintro e w' ⟨rfl, rfl⟩
      rw [h2]
      go_wp2_with fail
      refine (rin_any d 1 s _).mono ?_
      rintro e w' ⟨rfl, rfl⟩
      go_wp2_with fail
      go_ret
      exact ⟨rfl, hb⟩

theorem spanned_any (a b lo hi : Int) (w : World) : Calls Try.prog 141 #[.agg #[.int .i64 a, .int .i64 b], .int .i64 lo, .int .i64 hi] w fun e w' => e = .returned (.bool (spansB a b lo hi)) ∧ Below w.heap.size w w' := by
  have hb := (Below.refl w.heap.size w).alloc (Nat.le_refl _) (.cells #[.int .i64 a, .int .i64 b] 39)
  unfold spansB
  cases h1 : decide (lo ≤ a)
  · go_enter Try.func141, Try.ntmps141
    go_wp2_with fail
    go_ret
    exact ⟨rfl, hb⟩
  · cases h2 : decide (a ≤ b)
    · go_enter Try.func141, Try.ntmps141
      go_wp2_with fail
      go_ret
      exact ⟨rfl, hb⟩
    · go_enter Try.func141, Try.ntmps141
      go_wp2_with fail
      go_ret
      exact ⟨rfl, hb⟩

section
attribute [local go_sem] noteA_0 noteA_1
theorem rNameOf_any (n : NoteV) (sa : Option Addr) (sc : Nat) (w : World) : Calls Try.prog 113 #[.agg (noteA n sa sc)] w fun e w' => e = .returned (.agg #[.int .i64 n.house, .int .i64 n.num]) ∧ Below w.heap.size w w' := by
  have hb := (Below.refl w.heap.size w).alloc (Nat.le_refl _) (.cells (noteA n sa sc) 43)
  go_enter Try.func113, Try.ntmps113
  go_wp2_with fail
  go_returns
  exact ⟨rfl, hb.alloc hb.size _⟩
end
end Go.Proofs.Ytpjiakgfegnmcaa
