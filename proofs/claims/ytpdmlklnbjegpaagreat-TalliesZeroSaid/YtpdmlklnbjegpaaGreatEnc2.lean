/- The program's fields, encoded, Encode. -/
import Derived.Test.YtpdmlklnbjegpaaGreatEnc1
import Derived.StillTailTactics
import Derived.BigRegion
import Derived.RegionTactic
namespace Go.Proofs.YtpdmlklnbjegpaaGreat
open Go.RowKit

/-- Pointers to cells of one block. -/
def ptrL (p : Nat) (l : List Nat) : List Value := l.map fun k => .pointer (some ⟨p, k, none⟩)
def aheadK : List Nat := [0, 1, 2, 3, 4, 5, 6, 7, 8, 9, 10, 11, 12, 13, 14]
def behindK : List Nat := [16, 17, 18]
section
variable (p : Nat) (w : World)
set_option maxHeartbeats 4000000 in
set_option maxRecDepth 100000 in
theorem fields_any :
    Calls Tryz.prog 104 #[.pointer (some ⟨p, 0, none⟩)] w fun e w' => e = .returned (.tuple #[.slice (some ⟨w.heap.size, 0, none⟩) 15 15, .slice (some ⟨w.heap.size + 1, 0, none⟩) 3 3]) ∧
      w'.heap[w.heap.size]? = some (.cells (ptrL p aheadK).toArray 167 (0, 0)) ∧ w'.heap[w.heap.size + 1]? = some (.cells (ptrL p behindK).toArray 167 (0, 0)) ∧ Below w.heap.size w w' := by
  go_enter Tryz.func104, Tryz.ntmps104
  go_wp2_with fail
  go_still_tail 49, (by kernel_rfl)
  change wpList _ _ _ _ _ w.drew
  generalize hw2 : w.drew = w2
  go_wp2_with fail
  generalize hw3 : World.alloc _ _ = w3
  go_region
  go_wp2_with fail
  go_returns
  have hs2 : w2.heap.size = w.heap.size := by rw [← hw2]; rfl
  have b2 : Below w.heap.size w w2 := by rw [← hw2]; exact ⟨rfl, rfl, rfl, Nat.le_refl _, fun _ _ => rfl⟩
  have hs3 : w3.heap.size = w.heap.size + 1 := by rw [← hw3]; simp [hs2]
  have b3 : Below w.heap.size w w3 := by rw [← hw3]; exact b2.alloc (by omega) _
  have e3 : w3.heap[w.heap.size]? = some (.cells (ptrL p aheadK).toArray 167 (0, 0)) := by rw [← hw3, ← hs2]; exact heap_last _ _
  have l3 : w.heap.size < w3.heap.size := by omega
  clear hw2 hw3
  refine ⟨by rw [← hs3, ← hs2]; rfl, ?_, ?_, ?_⟩
  · exact heap_before w3 _ _ _ e3
  · rw [← hs3]; exact heap_last w3 _
  · have b4 := b3.alloc (by omega) (.cells (ptrL p behindK).toArray 167)
    exact ⟨b4.os, b4.tape, b4.output, b4.size, b4.block⟩
end
end Go.Proofs.YtpdmlklnbjegpaaGreat
