/- The reference's Encode. -/
import Derived.Test.YtpjiakgfegnmcaaRh7
import Derived.Test.YtpjiakgfegnmcaaEnc5
namespace Go.Proofs.Ytpjiakgfegnmcaa
open Go.RowKit
section
attribute [local go_sem] noteA_0 noteA_1 noteA_2 noteA_3 noteA_4 noteA_5 noteA_6 noteA_7 noteA_8 noteA_9 noteA_10 noteA_11 noteA_12 noteA_13 noteA_14 noteA_15 noteA_16 noteA_17 noteA_18
variable (f : FrV) (n : NoteV) (sa : Option Addr) (sc : Nat) (w : World)
set_option maxHeartbeats 2000000 in
set_option maxRecDepth 100000 in
theorem rencode_any (hs : RdI w sa n.strokes.length sc n.strokes) :
    Calls Try.prog 29 #[f.val, .agg (noteA n sa sc)] w fun e w' => (checkN f n ≠ 0 ∧ e = .returned (.tuple #[.slice none 0 0, .int .i64 80]) ∧ Below w.heap.size w w') ∨
      (checkN f n = 0 ∧ ∃ a' c', e = .returned (.tuple #[.slice a' (encN n).length c', .int .i64 0]) ∧ w'.ownsRow w.heap.size 5 1 (.slice a' (encN n).length c') (encN n).length ((encN n).map byteV) ∧ Below w.heap.size w w') := by
  have I43 := Lib.hid (show ∀ (m : NoteV) (a : Option Addr) (c : Nat), (Try.prog.info? 43).map (·.size) = some (noteA m a c).size from fun m a c => by kernel_rfl)
  have g1 := heap_at (w.alloc (.cells #[.int .i64 f.rings, .int .i64 f.sectors, .int .i64 f.wide] 61)) (.cells (noteA n sa sc) 43) (w.heap.size + 1) (by simp)
  have g0 := heap_before (w.alloc (.cells #[.int .i64 f.rings, .int .i64 f.sectors, .int .i64 f.wide] 61)) (.cells (noteA n sa sc) 43) _ _ (heap_at w (.cells #[.int .i64 f.rings, .int .i64 f.sectors, .int .i64 f.wide] 61) _ rfl)
  have bb : Below w.heap.size w ((w.alloc (.cells #[.int .i64 f.rings, .int .i64 f.sectors, .int .i64 f.wide] 61)).alloc (.cells (noteA n sa sc) 43)) := ((Below.refl _ _).alloc (Nat.le_refl _) _).alloc (by simp) _
  have L0 : Hid (LocF w ((w.alloc (.cells #[.int .i64 f.rings, .int .i64 f.sectors, .int .i64 f.wide] 61)).alloc (.cells (noteA n sa sc) 43)) w.heap.size (w.heap.size + 1) f n sa sc) := Lib.hid ⟨g0, g1, bb, by omega⟩
  clear g0 g1 bb
  unfold FrV.val
  go_enter Try.func29, Try.ntmps29
  go_upto_region 1 with fail
  generalize hW0 : (w.alloc (.cells #[.int .i64 f.rings, .int .i64 f.sectors, .int .i64 f.wide] 61)).alloc (.cells (noteA n sa sc) 43) = W0 at *
  generalize hp0 : w.heap.size = p0 at *
  generalize hp1 : p0 + 1 = p1 at *
  have RDb := Lib.hid (show ∀ W', Below p0 w W' → RdI W' sa n.strokes.length sc n.strokes from fun W' h => hs.below (by rw [hp0]; exact h))
  have HP0 := Lib.hid hp0; clear hp0 hp1 hW0
  have c0 := cell_of L0.out.e0 0 _ rfl
  have c1 := cell_of L0.out.e0 1 _ rfl
  have c2 := cell_of L0.out.e0 2 _ rfl
  go_wp2_with   (first
      | (refine wpList_load_row rfl 43 _ rfl p1 rfl 43 (noteA n sa sc) (0, 0) _ L0.out.e1 Try.underlying43 rfl (I43.out _ _ _) ?_)
      | (refine wpList_load_rowG ?hw 43 _ rfl p1 rfl 43 (noteA n sa sc) (0, 0) _ L0.out.e1 Try.underlying43 rfl (I43.out _ _ _) ?_; case hw => rfl))
  refine (rcheckNote_any f n sa sc _ (RDb.out _ L0.out.b)).mono ?_
  rintro e w1 ⟨rfl, b1⟩
  have L1 := Lib.hid (L0.out.below b1); clear b1 c0 c1 c2
  by_cases hc : checkN f n = 0
  · have hq : (checkN f n != 0) = false := by simp [hc]
    have HC := Lib.hid hc; clear hc
    have HSM := Lib.hid (small_of HC.out)
    go_wp2_with     (first
        | (refine wpList_load_row rfl 43 _ rfl p1 rfl 43 (noteA n sa sc) (0, 0) _ L1.out.e1 Try.underlying43 rfl (I43.out _ _ _) ?_)
        | (refine wpList_load_rowG ?hw 43 _ rfl p1 rfl 43 (noteA n sa sc) (0, 0) _ L1.out.e1 Try.underlying43 rfl (I43.out _ _ _) ?_; case hw => rfl))
    refine (rencd_any n sa sc _ (RDb.out _ L1.out.b) HSM.out (len_of HC.out)).mono ?_
    rintro e w2 ⟨a', c', rfl, h1, b2⟩
    have L2 := Lib.hid (L1.out.below b2); clear b2
    have H1 := Lib.hid (own_mono h1 (show p0 ≤ w1.heap.size from Nat.le_of_lt (Array.getElem?_eq_some_iff.1 L1.out.e0).1)); clear h1
    go_wp2_with fail
    go_returns
    exact .inr ⟨HC.out, a', c', rfl, by rw [HP0.out]; exact H1.out, by rw [HP0.out]; exact L2.out.b⟩
  · have hq : (checkN f n != 0) = true := by simp [hc]
    have HC := Lib.hid hc; clear hc
    go_wp2_with fail
    go_returns
    exact .inl ⟨HC.out, rfl, by rw [HP0.out]; exact L1.out.b⟩
end
end Go.Proofs.Ytpjiakgfegnmcaa
