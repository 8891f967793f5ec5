/- The program's contents of notes. -/
import Derived.Test.YtpdmlklnbjegpaaGreatHis3
namespace Go.Proofs.YtpdmlklnbjegpaaGreat
open Go.RowKit
section
attribute [local go_sem] noteA_0 noteA_1 noteA_2 noteA_3 noteA_4 noteA_5 noteA_6 noteA_7 noteA_8 noteA_9 noteA_10 noteA_11 noteA_12 noteA_13 noteA_14 noteA_15 noteA_16 noteA_17 noteA_18
variable (n : NoteV) (sa : Option Addr) (sc : Nat) (w : World)
theorem content1 : Calls Tryz.prog 131 #[.int .i64 1, .agg (noteA n sa sc)] w fun e w' => e = .returned (.iface 198 (.agg #[.int .i64 n.hardLo, .int .i64 n.hardHi])) ∧ Below w.heap.size w w' := by
  have hb := (Below.refl w.heap.size w).alloc (Nat.le_refl _) (.cells (noteA n sa sc) 47)
  go_enter Tryz.func131, Tryz.ntmps131
  go_wp2_with fail
  go_ret
  exact ⟨rfl, hb⟩
theorem content2 : Calls Tryz.prog 131 #[.int .i64 2, .agg (noteA n sa sc)] w fun e w' => e = .returned (.iface 201 (.agg #[.int .i64 n.turns])) ∧ Below w.heap.size w w' := by
  have hb := (Below.refl w.heap.size w).alloc (Nat.le_refl _) (.cells (noteA n sa sc) 47)
  go_enter Tryz.func131, Tryz.ntmps131
  go_wp2_with fail
  go_ret
  exact ⟨rfl, hb⟩
theorem content3 : Calls Tryz.prog 131 #[.int .i64 3, .agg (noteA n sa sc)] w fun e w' => e = .returned (.iface 203 (.agg #[.int .i64 n.stone, .int .i64 n.a, .int .i64 n.b])) ∧ Below w.heap.size w w' := by
  have hb := (Below.refl w.heap.size w).alloc (Nat.le_refl _) (.cells (noteA n sa sc) 47)
  go_enter Tryz.func131, Tryz.ntmps131
  go_wp2_with fail
  go_ret
  exact ⟨rfl, hb⟩
theorem content4 : Calls Tryz.prog 131 #[.int .i64 4, .agg (noteA n sa sc)] w fun e w' => e = .returned (.iface 206 (.agg #[.int .i64 n.stone, .int .i64 n.ring])) ∧ Below w.heap.size w w' := by
  have hb := (Below.refl w.heap.size w).alloc (Nat.le_refl _) (.cells (noteA n sa sc) 47)
  go_enter Tryz.func131, Tryz.ntmps131
  go_wp2_with fail
  go_ret
  exact ⟨rfl, hb⟩
theorem content5 : Calls Tryz.prog 131 #[.int .i64 5, .agg (noteA n sa sc)] w fun e w' => e = .returned (.iface 208 (.agg #[.int .i64 n.refH, .int .i64 n.refN])) ∧ Below w.heap.size w w' := by
  have hb := (Below.refl w.heap.size w).alloc (Nat.le_refl _) (.cells (noteA n sa sc) 47)
  go_enter Tryz.func131, Tryz.ntmps131
  go_wp2_with fail
  go_ret
  exact ⟨rfl, hb⟩
theorem content6 : Calls Tryz.prog 131 #[.int .i64 6, .agg (noteA n sa sc)] w fun e w' => e = .returned (.iface 208 (.agg #[.int .i64 n.refH, .int .i64 n.refN])) ∧ Below w.heap.size w w' := by
  have hb := (Below.refl w.heap.size w).alloc (Nat.le_refl _) (.cells (noteA n sa sc) 47)
  go_enter Tryz.func131, Tryz.ntmps131
  go_wp2_with fail
  go_ret
  exact ⟨rfl, hb⟩
theorem content0 (k : Int) (h : ¬ (1 ≤ k ∧ k ≤ 6)) : Calls Tryz.prog 131 #[.int .i64 k, .agg (noteA n sa sc)] w fun e w' => e = .returned .nilIface ∧ Below w.heap.size w w' := by
  have hb := (Below.refl w.heap.size w).alloc (Nat.le_refl _) (.cells (noteA n sa sc) 47)
  have q1 : (k == 1) = false := by simp; omega
  have r1 : decide (k = 1) = false := by simp; omega
  have q2 : (k == 2) = false := by simp; omega
  have r2 : decide (k = 2) = false := by simp; omega
  have q3 : (k == 3) = false := by simp; omega
  have r3 : decide (k = 3) = false := by simp; omega
  have q4 : (k == 4) = false := by simp; omega
  have r4 : decide (k = 4) = false := by simp; omega
  have q5 : (k == 5) = false := by simp; omega
  have r5 : decide (k = 5) = false := by simp; omega
  have q6 : (k == 6) = false := by simp; omega
  have r6 : decide (k = 6) = false := by simp; omega
  clear h
  go_enter Tryz.func131, Tryz.ntmps131
  go_wp2_with fail
  go_ret
  exact ⟨rfl, hb⟩
end
end Go.Proofs.YtpdmlklnbjegpaaGreat
