/- The reference's bare: a note without its name, times, references, and the content of a kind. -/
import Derived.Test.YtpjiakgfegnmcaaHis6
import Derived.Test.YtpjiakgfegnmcaaRh1
namespace Go.Proofs.Ytpjiakgfegnmcaa
open Go.RowKit

def bare0 (n : NoteV) : NoteV := { n with house := 0, num := 0, clock := 0, day := 0, kind := 0, refH := 0, refN := 0, fix := 0 }
def bareR (k : Int) (n : NoteV) : NoteV :=
  if k = 1 then { bare0 n with hardLo := 0, hardHi := 0 } else if k = 2 then { bare0 n with turns := 0 } else if k = 3 then { bare0 n with stone := 0, a := 0, b := 0, diffLo := 0, diffHi := 0 }
  else if k = 4 then { bare0 n with stone := 0, ring := 0, strokes := [] } else bare0 n
/-- Three blocks made one behind the other: the note, the result, what is left (its cells are C). -/
structure Loc2 (w W : World) (p0 p1 p2 : Nat) (C : Array Value) : Prop where
  e1 : W.heap[p1]? = some (.cells (noteA zeroN none 0) 43 (0, 0))
  e2 : W.heap[p2]? = some (.cells C 43 (0, 0))
  b : Below p0 w W
  lt : p0 < p1 ∧ p1 < p2
theorem Loc2.set {w W : World} {p0 p1 p2 : Nat} {C : Array Value} (h : Loc2 w W p0 p1 p2 C) (j : Nat) (v : Value) : Loc2 w (W.setCell ⟨p2, j, none⟩ v) p0 p1 p2 (C.setIfInBounds j v) := by
  have g : ∀ {k : Nat}, k ≠ p2 → (W.setCell ⟨p2, j, none⟩ v).heap[k]? = W.heap[k]? := fun {k} hk => Below.heap_setCell W ⟨p2, j, none⟩ v k hk
  have hl := h.lt
  exact ⟨(g (by omega)).trans h.e1, heap_setCell_same W p2 j C 43 v h.e2, h.b.trans ⟨rfl, rfl, rfl, by simp [World.setCell], fun k hk => g (by omega)⟩, h.lt⟩
theorem Loc2.done {w W : World} {p0 p1 p2 : Nat} {C : Array Value} (h : Loc2 w W p0 p1 p2 C) (C' : Array Value) : (W.setRow p1 C').heap[p1]? = some (.cells C' 43 (0, 0)) ∧ Below p0 w (W.setRow p1 C') := by
  have hl := h.lt
  exact ⟨setRow_heap W p1 _ C' _ _ h.e1, h.b.trans ⟨rfl, rfl, rfl, by simp, fun k hk => setRow_other W p1 k C' (by omega)⟩⟩

section
attribute [local go_sem] noteA_0 noteA_1 noteA_2 noteA_3 noteA_4 noteA_5 noteA_6 noteA_7 noteA_8 noteA_9 noteA_10 noteA_11 noteA_12 noteA_13 noteA_14 noteA_15 noteA_16 noteA_17 noteA_18 noteA_s0 noteA_s1 noteA_s2 noteA_s3 noteA_s4 noteA_s5 noteA_s6 noteA_s7 noteA_s8 noteA_s9 noteA_s10 noteA_s11 noteA_s12 noteA_s13 noteA_s14 noteA_s15 noteA_s16 noteA_s17 noteA_s18
variable (n : NoteV) (sa : Option Addr) (sc : Nat) (w : World)
set_option maxHeartbeats 2000000 in
set_option maxRecDepth 100000 in
theorem bare_1 : Calls Try.prog 114 #[.int .i64 1, .agg (noteA n sa sc)] w fun e w' => e = .returned (.agg (noteA (bareR 1 n) sa sc)) ∧ Below w.heap.size w w' := by
  have I43 := Lib.hid (show ∀ (m : NoteV) (a : Option Addr) (c : Nat), (Try.prog.info? 43).map (·.size) = some (noteA m a c).size from fun m a c => by kernel_rfl)
  have one1 := noteA_one n sa sc
  have g1 := heap_before (w.alloc (.cells (noteA n sa sc) 43)) (.cells (noteA zeroN none 0) 43) _ _ (heap_last w (.cells (noteA n sa sc) 43))
  have G1 := Lib.hid g1; clear g1
  go_enter Try.func114, Try.ntmps114
  have one2 := noteA_one (bareR 1 n) sa sc
  go_wp2_with (first
    | (refine wpList_load_row rfl 43 _ rfl w.heap.size rfl 43 (noteA n sa sc) (0, 0) _ G1.out Try.underlying43 rfl (I43.out _ _ _) ?_)
    | (refine wpList_store_newp _ rfl 43 _ _ rfl (w.heap.size + 1 + 1) ?hp _ (noteA n sa sc) rfl rfl (I43.out _ _ _) rfl one1 ?_; case hp => simp)
    | (refine wpList_load_row rfl 43 _ rfl (w.heap.size + 1 + 1) rfl 43 (noteA (bareR 1 n) sa sc) (0, 0) _ ?hg Try.underlying43 rfl (I43.out _ _ _) ?_; case hg => exact heap_at _ _ _ (by simp))
    | (refine wpList_store_rowN rfl 43 _ _ rfl (w.heap.size + 1) (noteA zeroN none 0) (noteA (bareR 1 n) sa sc) 43 rfl rfl ?hg (I43.out _ _ _) rfl one2 ?_; case hg => exact heap_before _ _ _ _ (heap_at _ _ _ (by simp))))
  refine bodyPost_ret (results_cell_row rfl _ _ (w.heap.size + 1) 43 (noteA (bareR 1 n) sa sc) (0, 0) _ rfl ?hg Try.underlying43 rfl (I43.out _ _ _)) rfl ?_
  case hg => exact setRow_heap _ _ _ _ _ _ (heap_before _ _ _ _ (heap_at _ _ _ (by simp)))
  refine ⟨rfl, ?_⟩
  refine (((Below.refl w.heap.size w).alloc (Nat.le_refl _) _).alloc (by simp) _).alloc (by simp; omega) _ |>.trans ⟨rfl, rfl, rfl, by simp, fun k hk => setRow_other _ _ k _ (by omega)⟩
set_option maxHeartbeats 2000000 in
set_option maxRecDepth 100000 in
theorem bare_2 : Calls Try.prog 114 #[.int .i64 2, .agg (noteA n sa sc)] w fun e w' => e = .returned (.agg (noteA (bareR 2 n) sa sc)) ∧ Below w.heap.size w w' := by
  have I43 := Lib.hid (show ∀ (m : NoteV) (a : Option Addr) (c : Nat), (Try.prog.info? 43).map (·.size) = some (noteA m a c).size from fun m a c => by kernel_rfl)
  have one1 := noteA_one n sa sc
  have g1 := heap_before (w.alloc (.cells (noteA n sa sc) 43)) (.cells (noteA zeroN none 0) 43) _ _ (heap_last w (.cells (noteA n sa sc) 43))
  have G1 := Lib.hid g1; clear g1
  go_enter Try.func114, Try.ntmps114
  have one2 := noteA_one (bareR 2 n) sa sc
  go_wp2_with (first
    | (refine wpList_load_row rfl 43 _ rfl w.heap.size rfl 43 (noteA n sa sc) (0, 0) _ G1.out Try.underlying43 rfl (I43.out _ _ _) ?_)
    | (refine wpList_store_newp _ rfl 43 _ _ rfl (w.heap.size + 1 + 1) ?hp _ (noteA n sa sc) rfl rfl (I43.out _ _ _) rfl one1 ?_; case hp => simp)
    | (refine wpList_load_row rfl 43 _ rfl (w.heap.size + 1 + 1) rfl 43 (noteA (bareR 2 n) sa sc) (0, 0) _ ?hg Try.underlying43 rfl (I43.out _ _ _) ?_; case hg => exact heap_at _ _ _ (by simp))
    | (refine wpList_store_rowN rfl 43 _ _ rfl (w.heap.size + 1) (noteA zeroN none 0) (noteA (bareR 2 n) sa sc) 43 rfl rfl ?hg (I43.out _ _ _) rfl one2 ?_; case hg => exact heap_before _ _ _ _ (heap_at _ _ _ (by simp))))
  refine bodyPost_ret (results_cell_row rfl _ _ (w.heap.size + 1) 43 (noteA (bareR 2 n) sa sc) (0, 0) _ rfl ?hg Try.underlying43 rfl (I43.out _ _ _)) rfl ?_
  case hg => exact setRow_heap _ _ _ _ _ _ (heap_before _ _ _ _ (heap_at _ _ _ (by simp)))
  refine ⟨rfl, ?_⟩
  refine (((Below.refl w.heap.size w).alloc (Nat.le_refl _) _).alloc (by simp) _).alloc (by simp; omega) _ |>.trans ⟨rfl, rfl, rfl, by simp, fun k hk => setRow_other _ _ k _ (by omega)⟩
set_option maxHeartbeats 2000000 in
set_option maxRecDepth 100000 in
theorem bare_3 : Calls Try.prog 114 #[.int .i64 3, .agg (noteA n sa sc)] w fun e w' => e = .returned (.agg (noteA (bareR 3 n) sa sc)) ∧ Below w.heap.size w w' := by
  have I43 := Lib.hid (show ∀ (m : NoteV) (a : Option Addr) (c : Nat), (Try.prog.info? 43).map (·.size) = some (noteA m a c).size from fun m a c => by kernel_rfl)
  have one1 := noteA_one n sa sc
  have g1 := heap_before (w.alloc (.cells (noteA n sa sc) 43)) (.cells (noteA zeroN none 0) 43) _ _ (heap_last w (.cells (noteA n sa sc) 43))
  have G1 := Lib.hid g1; clear g1
  go_enter Try.func114, Try.ntmps114
  have one2 := noteA_one (bareR 3 n) sa sc
  go_wp2_with (first
    | (refine wpList_load_row rfl 43 _ rfl w.heap.size rfl 43 (noteA n sa sc) (0, 0) _ G1.out Try.underlying43 rfl (I43.out _ _ _) ?_)
    | (refine wpList_store_newp _ rfl 43 _ _ rfl (w.heap.size + 1 + 1) ?hp _ (noteA n sa sc) rfl rfl (I43.out _ _ _) rfl one1 ?_; case hp => simp)
    | (refine wpList_load_row rfl 43 _ rfl (w.heap.size + 1 + 1) rfl 43 (noteA (bareR 3 n) sa sc) (0, 0) _ ?hg Try.underlying43 rfl (I43.out _ _ _) ?_; case hg => exact heap_at _ _ _ (by simp))
    | (refine wpList_store_rowN rfl 43 _ _ rfl (w.heap.size + 1) (noteA zeroN none 0) (noteA (bareR 3 n) sa sc) 43 rfl rfl ?hg (I43.out _ _ _) rfl one2 ?_; case hg => exact heap_before _ _ _ _ (heap_at _ _ _ (by simp))))
  refine bodyPost_ret (results_cell_row rfl _ _ (w.heap.size + 1) 43 (noteA (bareR 3 n) sa sc) (0, 0) _ rfl ?hg Try.underlying43 rfl (I43.out _ _ _)) rfl ?_
  case hg => exact setRow_heap _ _ _ _ _ _ (heap_before _ _ _ _ (heap_at _ _ _ (by simp)))
  refine ⟨rfl, ?_⟩
  refine (((Below.refl w.heap.size w).alloc (Nat.le_refl _) _).alloc (by simp) _).alloc (by simp; omega) _ |>.trans ⟨rfl, rfl, rfl, by simp, fun k hk => setRow_other _ _ k _ (by omega)⟩
set_option maxHeartbeats 2000000 in
set_option maxRecDepth 100000 in
theorem bare_4 : Calls Try.prog 114 #[.int .i64 4, .agg (noteA n sa sc)] w fun e w' => e = .returned (.agg (noteA (bareR 4 n) none 0)) ∧ Below w.heap.size w w' := by
  have I43 := Lib.hid (show ∀ (m : NoteV) (a : Option Addr) (c : Nat), (Try.prog.info? 43).map (·.size) = some (noteA m a c).size from fun m a c => by kernel_rfl)
  have one1 := noteA_one n sa sc
  have g1 := heap_before (w.alloc (.cells (noteA n sa sc) 43)) (.cells (noteA zeroN none 0) 43) _ _ (heap_last w (.cells (noteA n sa sc) 43))
  have G1 := Lib.hid g1; clear g1
  go_enter Try.func114, Try.ntmps114
  have one2 := noteA_one (bareR 4 n) none 0
  go_wp2_with (first
    | (refine wpList_load_row rfl 43 _ rfl w.heap.size rfl 43 (noteA n sa sc) (0, 0) _ G1.out Try.underlying43 rfl (I43.out _ _ _) ?_)
    | (refine wpList_store_newp _ rfl 43 _ _ rfl (w.heap.size + 1 + 1) ?hp _ (noteA n sa sc) rfl rfl (I43.out _ _ _) rfl one1 ?_; case hp => simp)
    | (refine wpList_load_row rfl 43 _ rfl (w.heap.size + 1 + 1) rfl 43 (noteA (bareR 4 n) none 0) (0, 0) _ ?hg Try.underlying43 rfl (I43.out _ _ _) ?_; case hg => exact heap_at _ _ _ (by simp))
    | (refine wpList_store_rowN rfl 43 _ _ rfl (w.heap.size + 1) (noteA zeroN none 0) (noteA (bareR 4 n) none 0) 43 rfl rfl ?hg (I43.out _ _ _) rfl one2 ?_; case hg => exact heap_before _ _ _ _ (heap_at _ _ _ (by simp))))
  refine bodyPost_ret (results_cell_row rfl _ _ (w.heap.size + 1) 43 (noteA (bareR 4 n) none 0) (0, 0) _ rfl ?hg Try.underlying43 rfl (I43.out _ _ _)) rfl ?_
  case hg => exact setRow_heap _ _ _ _ _ _ (heap_before _ _ _ _ (heap_at _ _ _ (by simp)))
  refine ⟨rfl, ?_⟩
  refine (((Below.refl w.heap.size w).alloc (Nat.le_refl _) _).alloc (by simp) _).alloc (by simp; omega) _ |>.trans ⟨rfl, rfl, rfl, by simp, fun k hk => setRow_other _ _ k _ (by omega)⟩
set_option maxHeartbeats 2000000 in
set_option maxRecDepth 100000 in
theorem bare_o (k : Int) (hk : ¬ (1 ≤ k ∧ k ≤ 4)) : Calls Try.prog 114 #[.int .i64 k, .agg (noteA n sa sc)] w fun e w' => e = .returned (.agg (noteA (bare0 n) sa sc)) ∧ Below w.heap.size w w' := by
  have I43 := Lib.hid (show ∀ (m : NoteV) (a : Option Addr) (c : Nat), (Try.prog.info? 43).map (·.size) = some (noteA m a c).size from fun m a c => by kernel_rfl)
  have q1 : (k == 1) = false := by simp; omega
  have r1 : decide (k = 1) = false := by simp; omega
  have q2 : (k == 2) = false := by simp; omega
  have r2 : decide (k = 2) = false := by simp; omega
  have q3 : (k == 3) = false := by simp; omega
  have r3 : decide (k = 3) = false := by simp; omega
  have q4 : (k == 4) = false := by simp; omega
  have r4 : decide (k = 4) = false := by simp; omega
  clear hk
  have one1 := noteA_one n sa sc
  have g1 := heap_before (w.alloc (.cells (noteA n sa sc) 43)) (.cells (noteA zeroN none 0) 43) _ _ (heap_last w (.cells (noteA n sa sc) 43))
  have G1 := Lib.hid g1; clear g1
  go_enter Try.func114, Try.ntmps114
  have one2 := noteA_one (bare0 n) sa sc
  go_wp2_with (first
    | (refine wpList_load_row rfl 43 _ rfl w.heap.size rfl 43 (noteA n sa sc) (0, 0) _ G1.out Try.underlying43 rfl (I43.out _ _ _) ?_)
    | (refine wpList_store_newp _ rfl 43 _ _ rfl (w.heap.size + 1 + 1) ?hp _ (noteA n sa sc) rfl rfl (I43.out _ _ _) rfl one1 ?_; case hp => simp)
    | (refine wpList_load_row rfl 43 _ rfl (w.heap.size + 1 + 1) rfl 43 (noteA (bare0 n) sa sc) (0, 0) _ ?hg Try.underlying43 rfl (I43.out _ _ _) ?_; case hg => exact heap_at _ _ _ (by simp))
    | (refine wpList_store_rowN rfl 43 _ _ rfl (w.heap.size + 1) (noteA zeroN none 0) (noteA (bare0 n) sa sc) 43 rfl rfl ?hg (I43.out _ _ _) rfl one2 ?_; case hg => exact heap_before _ _ _ _ (heap_at _ _ _ (by simp))))
  refine bodyPost_ret (results_cell_row rfl _ _ (w.heap.size + 1) 43 (noteA (bare0 n) sa sc) (0, 0) _ rfl ?hg Try.underlying43 rfl (I43.out _ _ _)) rfl ?_
  case hg => exact setRow_heap _ _ _ _ _ _ (heap_before _ _ _ _ (heap_at _ _ _ (by simp)))
  refine ⟨rfl, ?_⟩
  refine (((Below.refl w.heap.size w).alloc (Nat.le_refl _) _).alloc (by simp) _).alloc (by simp; omega) _ |>.trans ⟨rfl, rfl, rfl, by simp, fun k hk => setRow_other _ _ k _ (by omega)⟩
end
end Go.Proofs.Ytpjiakgfegnmcaa
