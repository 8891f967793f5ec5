/- The reference's fields and encode. -/
import Derived.Test.YtpdmlklnbjegpaaGreatEnc4b
import Derived.Deep.RegionHeld3
namespace Go.Proofs.YtpdmlklnbjegpaaGreat
open Go.RowKit

theorem two_new {w W : World} {A B : Array Value} {s t : TypeId} (hb : Below w.heap.size w W) : ((W.alloc (.cells A s)).alloc (.cells B t)).drew.heap[W.heap.size]? = some (.cells A s (0, 0)) ∧ ((W.alloc (.cells A s)).alloc (.cells B t)).drew.heap[W.heap.size + 1]? = some (.cells B t (0, 0)) ∧ Below w.heap.size w ((W.alloc (.cells A s)).alloc (.cells B t)).drew := by
  refine ⟨heap_before _ _ _ _ (heap_last _ _), ?_, ?_⟩
  · have := heap_last (W.alloc (.cells A s)) (.cells B t)
    have e : (W.alloc (.cells A s)).heap.size = W.heap.size + 1 := by simp
    rw [e] at this
    exact this
  · have b := (hb.alloc hb.size (.cells A s)).alloc (Nat.le_trans hb.size (by simp)) (.cells B t)
    exact ⟨b.os, b.tape, b.output, b.size, b.block⟩
set_option maxHeartbeats 4000000 in
set_option maxRecDepth 100000 in
theorem rfields_any (n : NoteV) (sa : Option Addr) (sc : Nat) (w : World) :
    Calls Tryz.prog 115 #[.agg (noteA n sa sc)] w fun e w' => ∃ P Q, e = .returned (.tuple #[.slice (some ⟨P, 0, none⟩) 15 15, .slice (some ⟨Q, 0, none⟩) 3 3]) ∧
      w'.heap[P]? = some (.cells ((aheadN n).map intV).toArray 3 (0, 0)) ∧ w'.heap[Q]? = some (.cells ((behindN n).map intV).toArray 3 (0, 0)) ∧ w.heap.size ≤ P ∧ w.heap.size ≤ Q ∧ Below w.heap.size w w' := by
  have hlast := heap_last w (.cells (noteA n sa sc) 47)
  have bb : Below w.heap.size w (w.alloc (.cells (noteA n sa sc) 47)) := (Below.refl _ _).alloc (Nat.le_refl _) _
  have hz : w.heap.size < (w.alloc (.cells (noteA n sa sc) 47)).heap.size := by simp
  have k0 := cell_of hlast 0 (.int .i64 n.house) rfl
  have k1 := cell_of hlast 1 (.int .i64 n.num) rfl
  have k2 := cell_of hlast 2 (.int .i64 n.clock) rfl
  have k3 := cell_of hlast 3 (.int .i64 n.day) rfl
  have k4 := cell_of hlast 4 (.int .i64 n.kind) rfl
  have k5 := cell_of hlast 5 (.int .i64 n.stone) rfl
  have k6 := cell_of hlast 6 (.int .i64 n.heap) rfl
  have k7 := cell_of hlast 7 (.int .i64 n.turns) rfl
  have k8 := cell_of hlast 8 (.int .i64 n.hardLo) rfl
  have k9 := cell_of hlast 9 (.int .i64 n.hardHi) rfl
  have k10 := cell_of hlast 10 (.int .i64 n.diffLo) rfl
  have k11 := cell_of hlast 11 (.int .i64 n.diffHi) rfl
  have k12 := cell_of hlast 12 (.int .i64 n.a) rfl
  have k13 := cell_of hlast 13 (.int .i64 n.b) rfl
  have k14 := cell_of hlast 14 (.int .i64 n.ring) rfl
  have k16 := cell_of hlast 16 (.int .i64 n.refH) rfl
  have k17 := cell_of hlast 17 (.int .i64 n.refN) rfl
  have k18 := cell_of hlast 18 (.int .i64 n.fix) rfl
  have BB := Lib.hid bb; clear bb
  have HZ := Lib.hid hz; clear hz
  have HL := Lib.hid hlast; clear hlast
  go_enter Tryz.func115, Tryz.ntmps115
  go_upto_region 1 with fail
  generalize w.alloc (.cells (noteA n sa sc) 47) = W at *
  generalize hp : w.heap.size = p at *
  have HP := Lib.hid hp; clear hp
  have hk0 : (fun w' : World => w'.cell? ⟨p, 0, none⟩ = some (.int .i64 n.house) ∧ w'.cell? ⟨p, 1, none⟩ = some (.int .i64 n.num) ∧ w'.cell? ⟨p, 2, none⟩ = some (.int .i64 n.clock) ∧ w'.cell? ⟨p, 3, none⟩ = some (.int .i64 n.day) ∧ w'.cell? ⟨p, 4, none⟩ = some (.int .i64 n.kind) ∧ w'.cell? ⟨p, 5, none⟩ = some (.int .i64 n.stone) ∧ w'.cell? ⟨p, 6, none⟩ = some (.int .i64 n.heap) ∧ w'.cell? ⟨p, 7, none⟩ = some (.int .i64 n.turns) ∧ w'.cell? ⟨p, 8, none⟩ = some (.int .i64 n.hardLo) ∧ w'.cell? ⟨p, 9, none⟩ = some (.int .i64 n.hardHi) ∧ w'.cell? ⟨p, 10, none⟩ = some (.int .i64 n.diffLo) ∧ w'.cell? ⟨p, 11, none⟩ = some (.int .i64 n.diffHi) ∧ w'.cell? ⟨p, 12, none⟩ = some (.int .i64 n.a) ∧ w'.cell? ⟨p, 13, none⟩ = some (.int .i64 n.b) ∧ w'.cell? ⟨p, 14, none⟩ = some (.int .i64 n.ring) ∧ w'.cell? ⟨p, 16, none⟩ = some (.int .i64 n.refH) ∧ w'.cell? ⟨p, 17, none⟩ = some (.int .i64 n.refN) ∧ w'.cell? ⟨p, 18, none⟩ = some (.int .i64 n.fix)) W := ⟨cell_of (HL.out) 0 _ rfl, cell_of (HL.out) 1 _ rfl, cell_of (HL.out) 2 _ rfl, cell_of (HL.out) 3 _ rfl, cell_of (HL.out) 4 _ rfl, cell_of (HL.out) 5 _ rfl, cell_of (HL.out) 6 _ rfl, cell_of (HL.out) 7 _ rfl, cell_of (HL.out) 8 _ rfl, cell_of (HL.out) 9 _ rfl, cell_of (HL.out) 10 _ rfl, cell_of (HL.out) 11 _ rfl, cell_of (HL.out) 12 _ rfl, cell_of (HL.out) 13 _ rfl, cell_of (HL.out) 14 _ rfl, cell_of (HL.out) 16 _ rfl, cell_of (HL.out) 17 _ rfl, cell_of (HL.out) 18 _ rfl⟩
  have hk1 : ∀ o, (fun w' : World => w'.cell? ⟨p, 0, none⟩ = some (.int .i64 n.house) ∧ w'.cell? ⟨p, 1, none⟩ = some (.int .i64 n.num) ∧ w'.cell? ⟨p, 2, none⟩ = some (.int .i64 n.clock) ∧ w'.cell? ⟨p, 3, none⟩ = some (.int .i64 n.day) ∧ w'.cell? ⟨p, 4, none⟩ = some (.int .i64 n.kind) ∧ w'.cell? ⟨p, 5, none⟩ = some (.int .i64 n.stone) ∧ w'.cell? ⟨p, 6, none⟩ = some (.int .i64 n.heap) ∧ w'.cell? ⟨p, 7, none⟩ = some (.int .i64 n.turns) ∧ w'.cell? ⟨p, 8, none⟩ = some (.int .i64 n.hardLo) ∧ w'.cell? ⟨p, 9, none⟩ = some (.int .i64 n.hardHi) ∧ w'.cell? ⟨p, 10, none⟩ = some (.int .i64 n.diffLo) ∧ w'.cell? ⟨p, 11, none⟩ = some (.int .i64 n.diffHi) ∧ w'.cell? ⟨p, 12, none⟩ = some (.int .i64 n.a) ∧ w'.cell? ⟨p, 13, none⟩ = some (.int .i64 n.b) ∧ w'.cell? ⟨p, 14, none⟩ = some (.int .i64 n.ring) ∧ w'.cell? ⟨p, 16, none⟩ = some (.int .i64 n.refH) ∧ w'.cell? ⟨p, 17, none⟩ = some (.int .i64 n.refN) ∧ w'.cell? ⟨p, 18, none⟩ = some (.int .i64 n.fix)) (W.alloc o) := fun o => ⟨cell_of (heap_before W o _ _ HL.out) 0 _ rfl, cell_of (heap_before W o _ _ HL.out) 1 _ rfl, cell_of (heap_before W o _ _ HL.out) 2 _ rfl, cell_of (heap_before W o _ _ HL.out) 3 _ rfl, cell_of (heap_before W o _ _ HL.out) 4 _ rfl, cell_of (heap_before W o _ _ HL.out) 5 _ rfl, cell_of (heap_before W o _ _ HL.out) 6 _ rfl, cell_of (heap_before W o _ _ HL.out) 7 _ rfl, cell_of (heap_before W o _ _ HL.out) 8 _ rfl, cell_of (heap_before W o _ _ HL.out) 9 _ rfl, cell_of (heap_before W o _ _ HL.out) 10 _ rfl, cell_of (heap_before W o _ _ HL.out) 11 _ rfl, cell_of (heap_before W o _ _ HL.out) 12 _ rfl, cell_of (heap_before W o _ _ HL.out) 13 _ rfl, cell_of (heap_before W o _ _ HL.out) 14 _ rfl, cell_of (heap_before W o _ _ HL.out) 16 _ rfl, cell_of (heap_before W o _ _ HL.out) 17 _ rfl, cell_of (heap_before W o _ _ HL.out) 18 _ rfl⟩
  have hk2 : ∀ o o', (fun w' : World => w'.cell? ⟨p, 0, none⟩ = some (.int .i64 n.house) ∧ w'.cell? ⟨p, 1, none⟩ = some (.int .i64 n.num) ∧ w'.cell? ⟨p, 2, none⟩ = some (.int .i64 n.clock) ∧ w'.cell? ⟨p, 3, none⟩ = some (.int .i64 n.day) ∧ w'.cell? ⟨p, 4, none⟩ = some (.int .i64 n.kind) ∧ w'.cell? ⟨p, 5, none⟩ = some (.int .i64 n.stone) ∧ w'.cell? ⟨p, 6, none⟩ = some (.int .i64 n.heap) ∧ w'.cell? ⟨p, 7, none⟩ = some (.int .i64 n.turns) ∧ w'.cell? ⟨p, 8, none⟩ = some (.int .i64 n.hardLo) ∧ w'.cell? ⟨p, 9, none⟩ = some (.int .i64 n.hardHi) ∧ w'.cell? ⟨p, 10, none⟩ = some (.int .i64 n.diffLo) ∧ w'.cell? ⟨p, 11, none⟩ = some (.int .i64 n.diffHi) ∧ w'.cell? ⟨p, 12, none⟩ = some (.int .i64 n.a) ∧ w'.cell? ⟨p, 13, none⟩ = some (.int .i64 n.b) ∧ w'.cell? ⟨p, 14, none⟩ = some (.int .i64 n.ring) ∧ w'.cell? ⟨p, 16, none⟩ = some (.int .i64 n.refH) ∧ w'.cell? ⟨p, 17, none⟩ = some (.int .i64 n.refN) ∧ w'.cell? ⟨p, 18, none⟩ = some (.int .i64 n.fix)) ((W.alloc o).alloc o') := fun o o' => ⟨cell_of (heap_before _ o' _ _ (heap_before W o _ _ HL.out)) 0 _ rfl, cell_of (heap_before _ o' _ _ (heap_before W o _ _ HL.out)) 1 _ rfl, cell_of (heap_before _ o' _ _ (heap_before W o _ _ HL.out)) 2 _ rfl, cell_of (heap_before _ o' _ _ (heap_before W o _ _ HL.out)) 3 _ rfl, cell_of (heap_before _ o' _ _ (heap_before W o _ _ HL.out)) 4 _ rfl, cell_of (heap_before _ o' _ _ (heap_before W o _ _ HL.out)) 5 _ rfl, cell_of (heap_before _ o' _ _ (heap_before W o _ _ HL.out)) 6 _ rfl, cell_of (heap_before _ o' _ _ (heap_before W o _ _ HL.out)) 7 _ rfl, cell_of (heap_before _ o' _ _ (heap_before W o _ _ HL.out)) 8 _ rfl, cell_of (heap_before _ o' _ _ (heap_before W o _ _ HL.out)) 9 _ rfl, cell_of (heap_before _ o' _ _ (heap_before W o _ _ HL.out)) 10 _ rfl, cell_of (heap_before _ o' _ _ (heap_before W o _ _ HL.out)) 11 _ rfl, cell_of (heap_before _ o' _ _ (heap_before W o _ _ HL.out)) 12 _ rfl, cell_of (heap_before _ o' _ _ (heap_before W o _ _ HL.out)) 13 _ rfl, cell_of (heap_before _ o' _ _ (heap_before W o _ _ HL.out)) 14 _ rfl, cell_of (heap_before _ o' _ _ (heap_before W o _ _ HL.out)) 16 _ rfl, cell_of (heap_before _ o' _ _ (heap_before W o _ _ HL.out)) 17 _ rfl, cell_of (heap_before _ o' _ _ (heap_before W o _ _ HL.out)) 18 _ rfl⟩
  go_region_held3 (fun w' => w'.cell? ⟨p, 0, none⟩ = some (.int .i64 n.house) ∧ w'.cell? ⟨p, 1, none⟩ = some (.int .i64 n.num) ∧ w'.cell? ⟨p, 2, none⟩ = some (.int .i64 n.clock) ∧ w'.cell? ⟨p, 3, none⟩ = some (.int .i64 n.day) ∧ w'.cell? ⟨p, 4, none⟩ = some (.int .i64 n.kind) ∧ w'.cell? ⟨p, 5, none⟩ = some (.int .i64 n.stone) ∧ w'.cell? ⟨p, 6, none⟩ = some (.int .i64 n.heap) ∧ w'.cell? ⟨p, 7, none⟩ = some (.int .i64 n.turns) ∧ w'.cell? ⟨p, 8, none⟩ = some (.int .i64 n.hardLo) ∧ w'.cell? ⟨p, 9, none⟩ = some (.int .i64 n.hardHi) ∧ w'.cell? ⟨p, 10, none⟩ = some (.int .i64 n.diffLo) ∧ w'.cell? ⟨p, 11, none⟩ = some (.int .i64 n.diffHi) ∧ w'.cell? ⟨p, 12, none⟩ = some (.int .i64 n.a) ∧ w'.cell? ⟨p, 13, none⟩ = some (.int .i64 n.b) ∧ w'.cell? ⟨p, 14, none⟩ = some (.int .i64 n.ring) ∧ w'.cell? ⟨p, 16, none⟩ = some (.int .i64 n.refH) ∧ w'.cell? ⟨p, 17, none⟩ = some (.int .i64 n.refN) ∧ w'.cell? ⟨p, 18, none⟩ = some (.int .i64 n.fix)) (first | exact hk0 | exact hk1 _ | exact hk2 _ _) (fail)
  all_goals clear hk0 hk1 hk2 k0 k1 k2 k3 k4 k5 k6 k7 k8 k9 k10 k11 k12 k13 k14 k16 k17 k18
  all_goals go_wp2_with fail
  all_goals go_returns
  all_goals have hb : Below w.heap.size w W := by rw [HP.out]; exact BB.out
  all_goals have hs := hb.size
  · exact ⟨W.heap.size, W.heap.size + 1, rfl, (two_new hb).1, (two_new hb).2.1, hs, Nat.le_succ_of_le hs, (two_new hb).2.2⟩
  · exact ⟨W.heap.size + 1, W.heap.size, rfl, (two_new hb).2.1, (two_new hb).1, Nat.le_succ_of_le hs, hs, (two_new hb).2.2⟩
end Go.Proofs.YtpdmlklnbjegpaaGreat
