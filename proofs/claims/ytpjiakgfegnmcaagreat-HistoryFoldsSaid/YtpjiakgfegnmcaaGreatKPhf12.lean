/- Parts of the proof, in this order: The order of names and notes in the reference: order, compareNames, known, Before; Which note comes first: known and Before of the reference, Before of the program; The reference's judges and judgeOf; The plain law of Chain: the corrections and withdrawals of a note, as they became known; The reference's find; The reference's counted; The reference's events; The reference's CheckSet. -/
import Derived.Test.YtpjiakgfegnmcaaGreatKPhf11
set_option linter.unusedSimpArgs false
set_option linter.unusedVariables false
open List renaming getElem_toArray → lq0, getElem_cons_succ → lq1, getElem_cons_zero → lq2, setIfInBounds_toArray → lq3, set_cons_zero → lq4, set_cons_succ → lq5
namespace Go.Proofs.YtpjiakgfegnmcaaGreat
set_option linter.unusedSimpArgs false
open Go.RowKit

theorem rorder_any (x y : Int) (w : World) : Calls Tryz.prog 68 #[.int .i64 x, .int .i64 y] w fun e w' => e = .returned (.int .i64 (cmpI x y)) ∧ w = w' := by
  have hc : cmpI x y = if x < y then -1 else if y < x then 1 else 0 := rfl
  by_cases h1 : x < y
  · have t1 : decide (x < y) = true := by simp [h1]
    rw [if_pos h1] at hc
    have HC := Lib.hid hc; clear hc h1
    go_enter Tryz.func68, Tryz.ntmps68
    go_wp2_with fail
    go_ret
    exact ⟨by rw [HC.out]; rfl, rfl⟩
  · have t1 : decide (x < y) = false := by simp; omega
    rw [if_neg h1] at hc
    by_cases h2 : y < x
    · have t2 : decide (y < x) = true := by simp [h2]
      rw [if_pos h2] at hc
      have HC := Lib.hid hc; clear hc h1 h2
      go_enter Tryz.func68, Tryz.ntmps68
      go_wp2_with fail
      go_ret
      exact ⟨by rw [HC.out]; rfl, rfl⟩
    · have t2 : decide (y < x) = false := by simp; omega
      rw [if_neg h2] at hc
      have HC := Lib.hid hc; clear hc h1 h2
      go_enter Tryz.func68, Tryz.ntmps68
      go_wp2_with fail
      go_ret
      exact ⟨by rw [HC.out]; rfl, rfl⟩
theorem rcmp_any (x m y k : Int) (w : World) : Calls Tryz.prog 66 #[.agg #[.int .i64 x, .int .i64 m], .agg #[.int .i64 y, .int .i64 k]] w fun e w' => e = .returned (.int .i64 (namesC x m y k)) ∧ Below w.heap.size w w' := by
  have g1 := heap_before _ (.cells (#[.int .i64 y, .int .i64 k]) 29) _ _ (heap_last w (.cells (#[.int .i64 x, .int .i64 m]) 29))
  have g2 := heap_at (w.alloc (.cells (#[.int .i64 x, .int .i64 m]) 29)) (.cells (#[.int .i64 y, .int .i64 k]) 29) (w.heap.size + 1) (by simp)
  have bb : Below w.heap.size w ((w.alloc (.cells (#[.int .i64 x, .int .i64 m]) 29)).alloc (.cells (#[.int .i64 y, .int .i64 k]) 29)) := ((Below.refl _ _).alloc (Nat.le_refl _) _).alloc (by simp) _
  have BB := Lib.hid bb; clear bb
  have a0 := cell_of g1 0 (.int .i64 x) rfl
  have a1 := cell_of g1 1 (.int .i64 m) rfl
  have b0 := cell_of g2 0 (.int .i64 y) rfl
  have b1 := cell_of g2 1 (.int .i64 k) rfl
  clear g1 g2
  have hc : namesC x m y k = if cmpI x y = 0 then cmpI m k else cmpI x y := rfl
  have hz := cmpI_zero x y
  by_cases h1 : x = y
  · have t1 : (x != y) = false := by simp [h1]
    rw [if_pos (hz.2 h1)] at hc
    have HC := Lib.hid hc; clear hc h1 hz
    go_enter Tryz.func66, Tryz.ntmps66
    go_wp2_with fail
    refine (rorder_any _ _ _).mono ?_
    rintro e w1 ⟨rfl, rfl⟩
    go_wp2_with fail
    go_ret
    exact ⟨by rw [HC.out]; rfl, BB.out⟩
  · have t1 : (x != y) = true := by simp [h1]
    rw [if_neg (fun h => h1 (hz.1 h))] at hc
    have HC := Lib.hid hc; clear hc h1 hz
    go_enter Tryz.func66, Tryz.ntmps66
    go_wp2_with fail
    refine (rorder_any _ _ _).mono ?_
    rintro e w1 ⟨rfl, rfl⟩
    go_wp2_with fail
    go_ret
    exact ⟨by rw [HC.out]; rfl, BB.out⟩
end Go.Proofs.YtpjiakgfegnmcaaGreat
namespace Go.Proofs.YtpjiakgfegnmcaaGreat
set_option linter.unusedSimpArgs false
open Go.RowKit

section
attribute [local go_sem] noteA_0
set_option maxHeartbeats 4000000 in
set_option maxRecDepth 100000 in
theorem rknown_any (n r : NoteV) (sa : Option Addr) (sc : Nat) (ta : Option Addr) (tc : Nat) (w : World) : Calls Tryz.prog 69 #[.agg (noteA n sa sc), .agg (noteA r ta tc)] w fun e w' => e = .returned (.bool (decide (knownC n r < 0))) ∧ Below w.heap.size w w' := by
  have I43 := Lib.hid (show ∀ (m : NoteV) (a : Option Addr) (c : Nat), (Tryz.prog.info? 51).map (·.size) = some (noteA m a c).size from fun m a c => by kernel_rfl)
  have g1 := heap_before _ (.cells (noteA r ta tc) 51) _ _ (heap_last w (.cells (noteA n sa sc) 51))
  have g2 := heap_at (w.alloc (.cells (noteA n sa sc) 51)) (.cells (noteA r ta tc) 51) (w.heap.size + 1) (by simp)
  have bb : Below w.heap.size w ((w.alloc (.cells (noteA n sa sc) 51)).alloc (.cells (noteA r ta tc) 51)) := ((Below.refl _ _).alloc (Nat.le_refl _) _).alloc (by simp) _
  have T0 : Hid (TwoC w ((w.alloc (.cells (noteA n sa sc) 51)).alloc (.cells (noteA r ta tc) 51)) w.heap.size (w.heap.size + 1) (noteA n sa sc) (noteA r ta tc) 51) := Lib.hid ⟨g1, g2, bb, by omega⟩
  clear g1 g2 bb
  go_enter Tryz.func69, Tryz.ntmps69
  go_upto_region 1 with fail
  generalize (w.alloc (.cells (noteA n sa sc) 51)).alloc (.cells (noteA r ta tc) 51) = W0 at *
  obtain ⟨p, hp⟩ : ∃ p, Hid (w.heap.size = p) := ⟨_, Lib.hid rfl⟩
  obtain ⟨q, hq⟩ : ∃ q, Hid (w.heap.size + 1 = q) := ⟨_, Lib.hid rfl⟩
  rw [hq.out, hp.out] at T0
  rw [hq.out, hp.out]
  have a2 := cell_of T0.out.e1 2 (.int .i64 n.clock) rfl
  have b2 := cell_of T0.out.e2 2 (.int .i64 r.clock) rfl
  have BW : Hid (Below w.heap.size w W0) := Lib.hid (by rw [hp.out]; exact T0.out.b)
  go_wp2_with fail
  refine (rorder_any _ _ _).mono ?_
  rintro e w1 ⟨rfl, rfl⟩
  have hz := cmpI_zero n.clock r.clock
  have hc : knownC n r = if cmpI n.clock r.clock = 0 then namesC n.house n.num r.house r.num else cmpI n.clock r.clock := rfl
  obtain ⟨z, hZ⟩ : ∃ z, Hid (cmpI n.clock r.clock = z) := ⟨_, Lib.hid rfl⟩
  rw [hZ.out] at hz hc ⊢
  by_cases h0 : z = 0
  · have t1 : (z == 0) = true := by simp [h0]
    rw [if_pos h0] at hc
    have HC := Lib.hid hc; clear hc hz h0
    go_upto_region 3 with fail
    have hC0 : Below W0.heap.size W0 W0.drew := (Below.refl _ _).drew
    have LP := Lib.hid (show ∀ w0, Below W0.heap.size W0 w0 → w0.heap[p]? = some (.cells (noteA n sa sc) 51 (0, 0)) from fun w0 h => below_blk h T0.out.e1)
    have LQ := Lib.hid (show ∀ w0, Below W0.heap.size W0 w0 → w0.heap[q]? = some (.cells (noteA r ta tc) 51 (0, 0)) from fun w0 h => below_blk h T0.out.e2)
    refine wp_region_quiet (C := fun w' : World => Below W0.heap.size W0 w') (by kernel_rfl) (by kernel_rfl) hC0 ?_
    show wpQuiet _ _ _ _ (_ :: _) _
    go_big_quiet_want
    refine ⟨.agg (noteA n sa sc), fun w0 hC => quiet_load43 (.tmp 2) rfl p rfl n sa sc (LP.out w0 hC), ?_⟩
    simp only [Act.put, lq3, lq4, lq5]
    go_big_quiet_on
    go_big_quiet_want
    refine ⟨.agg #[.int .i64 n.house, .int .i64 n.num], fun w0 hC => ?_, ?_⟩
    · go_simp
      refine (rNameOf_any n sa sc w0).mono ?_
      rintro e w1 ⟨rfl, b1⟩
      exact ⟨rfl, hC.trans (b1.mono hC.size)⟩
    simp only [Act.put, lq3, lq4, lq5]
    go_big_quiet_on
    go_big_quiet_want
    refine ⟨.agg (noteA r ta tc), fun w0 hC => quiet_load43 (.tmp 3) rfl q rfl r ta tc (LQ.out w0 hC), ?_⟩
    simp only [Act.put, lq3, lq4, lq5]
    go_big_quiet_on
    go_big_quiet_want
    refine ⟨.agg #[.int .i64 r.house, .int .i64 r.num], fun w0 hC => ?_, ?_⟩
    · go_simp
      refine (rNameOf_any r ta tc w0).mono ?_
      rintro e w1 ⟨rfl, b1⟩
      exact ⟨rfl, hC.trans (b1.mono hC.size)⟩
    simp only [Act.put, lq3, lq4, lq5]
    go_big_quiet_on
    go_big_quiet_want
    refine ⟨.int .i64 (namesC n.house n.num r.house r.num), fun w0 hC => ?_, ?_⟩
    · go_simp
      refine (rcmp_any _ _ _ _ w0).mono ?_
      rintro e w1 ⟨rfl, b1⟩
      exact ⟨rfl, hC.trans (b1.mono hC.size)⟩
    simp only [Act.put, lq3, lq4, lq5]
    go_big_quiet_on
    go_big_quiet_want
    go_big_quiet_op
    go_big_quiet_on
    refine wpQuiet_nil ?_
    intro w' hC
    have B1 := Lib.hid (BW.out.trans (hC.mono BW.out.size))
    clear hC
    go_wp2_with fail
    go_ret
    exact ⟨by rw [HC.out]; rfl, B1.out⟩
  · have t1 : (z == 0) = false := by simp [h0]
    rw [if_neg h0] at hc
    have HC := Lib.hid hc; clear hc hz h0
    go_wp2_with fail
    go_ret
    exact ⟨by rw [HC.out]; rfl, BW.out⟩
set_option maxHeartbeats 4000000 in
set_option maxRecDepth 100000 in
theorem rbefore_any (n r : NoteV) (sa : Option Addr) (sc : Nat) (ta : Option Addr) (tc : Nat) (w : World) : Calls Tryz.prog 27 #[.agg (noteA n sa sc), .agg (noteA r ta tc)] w fun e w' => e = .returned (.bool (decide (whenC n r < 0))) ∧ Below w.heap.size w w' := by
  have I43 := Lib.hid (show ∀ (m : NoteV) (a : Option Addr) (c : Nat), (Tryz.prog.info? 51).map (·.size) = some (noteA m a c).size from fun m a c => by kernel_rfl)
  have g1 := heap_before _ (.cells (noteA r ta tc) 51) _ _ (heap_last w (.cells (noteA n sa sc) 51))
  have g2 := heap_at (w.alloc (.cells (noteA n sa sc) 51)) (.cells (noteA r ta tc) 51) (w.heap.size + 1) (by simp)
  have bb : Below w.heap.size w ((w.alloc (.cells (noteA n sa sc) 51)).alloc (.cells (noteA r ta tc) 51)) := ((Below.refl _ _).alloc (Nat.le_refl _) _).alloc (by simp) _
  have T0 : Hid (TwoC w ((w.alloc (.cells (noteA n sa sc) 51)).alloc (.cells (noteA r ta tc) 51)) w.heap.size (w.heap.size + 1) (noteA n sa sc) (noteA r ta tc) 51) := Lib.hid ⟨g1, g2, bb, by omega⟩
  clear g1 g2 bb
  go_enter Tryz.func27, Tryz.ntmps27
  go_upto_region 1 with fail
  generalize (w.alloc (.cells (noteA n sa sc) 51)).alloc (.cells (noteA r ta tc) 51) = W0 at *
  obtain ⟨p, hp⟩ : ∃ p, Hid (w.heap.size = p) := ⟨_, Lib.hid rfl⟩
  obtain ⟨q, hq⟩ : ∃ q, Hid (w.heap.size + 1 = q) := ⟨_, Lib.hid rfl⟩
  rw [hq.out, hp.out] at T0
  rw [hq.out, hp.out]
  have a2 := cell_of T0.out.e1 3 (.int .i64 n.day) rfl
  have b2 := cell_of T0.out.e2 3 (.int .i64 r.day) rfl
  have BW : Hid (Below w.heap.size w W0) := Lib.hid (by rw [hp.out]; exact T0.out.b)
  go_wp2_with fail
  refine (rorder_any _ _ _).mono ?_
  rintro e w1 ⟨rfl, rfl⟩
  have hz := cmpI_zero n.day r.day
  have hc : whenC n r = if cmpI n.day r.day = 0 then knownC n r else cmpI n.day r.day := rfl
  obtain ⟨z, hZ⟩ : ∃ z, Hid (cmpI n.day r.day = z) := ⟨_, Lib.hid rfl⟩
  rw [hZ.out] at hz hc ⊢
  by_cases h0 : z = 0
  · have t1 : (z == 0) = true := by simp [h0]
    rw [if_pos h0] at hc
    have HC := Lib.hid hc; clear hc hz h0
    go_wp2_with (first
      | (go_at_call 69
         refine (rknown_any n r sa sc ta tc _).mono ?_
         rintro e w2 ⟨rfl, hb2⟩
         have B2 := Lib.hid (BW.out.trans (hb2.mono BW.out.size))
         clear hb2
         dsimp only)
      | (refine wpList_load_row rfl 51 _ rfl p rfl 51 (noteA n sa sc) (0, 0) _ T0.out.e1 Tryz.underlying51 rfl (I43.out _ _ _) ?_)
      | (refine wpList_load_row rfl 51 _ rfl q rfl 51 (noteA r ta tc) (0, 0) _ T0.out.e2 Tryz.underlying51 rfl (I43.out _ _ _) ?_)
      | fail)
    go_ret
    exact ⟨by rw [HC.out]; rfl, B2.out⟩
  · have t1 : (z == 0) = false := by simp [h0]
    rw [if_neg h0] at hc
    have HC := Lib.hid hc; clear hc hz h0
    go_wp2_with fail
    go_ret
    exact ⟨by rw [HC.out]; rfl, BW.out⟩
end
end Go.Proofs.YtpjiakgfegnmcaaGreat
namespace Go.Proofs.YtpjiakgfegnmcaaGreat
set_option linter.unusedSimpArgs false
open Go.RowKit

theorem blk_note2 {W : World} {p : Nat} {n : NoteV} {sa : Option Addr} {sc : Nat} {t : TypeId} (h : W.heap[p]? = some (.cells (noteA n sa sc) t (0, 0))) : W.rangeAt p 0 (n.cells sa sc) := fun j v hv => by
  rw [Nat.zero_add]
  exact cell_of h j v (by simpa [noteA] using hv)
set_option maxHeartbeats 8000000 in
set_option maxRecDepth 100000 in
theorem rjudges_any (x r : NoteV) (sa : Option Addr) (sc : Nat) (ta : Option Addr) (tc : Nat) (w : World) :
    Calls Tryz.prog 128 #[.agg (noteA x sa sc), .agg (noteA r ta tc)] w fun e w' => e = .returned (.bool (rjudgesB x r)) ∧ Below w.heap.size w w' := by
  go_enter Tryz.func128, Tryz.ntmps128
  go_upto_region 1 with fail
  have B0 := Lib.hid (((Below.refl w.heap.size w).alloc (Nat.le_refl _) (.cells (noteA x sa sc) 51)).alloc (by simp) (.cells (noteA r ta tc) 51))
  have X0 := Lib.hid (heap_before _ (.cells (noteA r ta tc) 51) _ _ (heap_last w (.cells (noteA x sa sc) 51)))
  have Y0 := Lib.hid (heap_at (w.alloc (.cells (noteA x sa sc) 51)) (.cells (noteA r ta tc) 51) (w.heap.size + 1) (by simp))
  obtain ⟨p2, hp2⟩ : ∃ p, Hid (w.heap.size = p) := ⟨_, Lib.hid rfl⟩
  obtain ⟨p3, hp3⟩ : ∃ p, Hid (w.heap.size + 1 = p) := ⟨_, Lib.hid rfl⟩
  rw [hp2.out] at X0
  rw [hp3.out] at Y0
  rw [hp3.out, hp2.out]
  generalize (w.alloc (.cells (noteA x sa sc) 51)).alloc (.cells (noteA r ta tc) 51) = W0 at *
  have hC0 : Below W0.heap.size W0 W0.drew := (Below.refl _ _).drew
  have LX := Lib.hid (show ∀ w0, Below W0.heap.size W0 w0 → w0.heap[p2]? = some (.cells (noteA x sa sc) 51 (0, 0)) from fun w0 h => below_blk h X0.out)
  have LY := Lib.hid (show ∀ w0, Below W0.heap.size W0 w0 → w0.heap[p3]? = some (.cells (noteA r ta tc) 51 (0, 0)) from fun w0 h => below_blk h Y0.out)
  have XR := Lib.hid (show ∀ w0, Below W0.heap.size W0 w0 → w0.rangeAt p2 0 (x.cells sa sc) from fun w0 h => blk_note2 (LX.out w0 h))
  have YR := Lib.hid (show ∀ w0, Below W0.heap.size W0 w0 → w0.rangeAt p3 0 (r.cells ta tc) from fun w0 h => blk_note2 (LY.out w0 h))
  have GB : Hid (∀ b, (!doneB x && (doneB r && (decide (refOf x = nmOf r) && (decide (x.kind = 6) || (!decide (x.fix = 2) || decide (r.kind = 2)))))) = b → rjudgesB x r = b) := Lib.hid (fun b h => h)
  refine wp_region_quiet (C := fun w' : World => Below W0.heap.size W0 w') (by kernel_rfl) (by kernel_rfl) hC0 ?_
  show wpQuiet _ _ _ _ (_ :: _) _
  go_big_quiet_want
  refine ⟨.agg (noteA x sa sc), fun w0 hC => quiet_load_note (.tmp 2) rfl p2 0 rfl x sa sc (XR.out w0 hC), ?_⟩
  simp only [Act.put, lq3, lq4, lq5]
  go_big_quiet_on
  go_big_quiet_want
  refine ⟨.bool (doneB x), fun w0 hC => ?_, ?_⟩
  · go_simp
    refine (plain_any x sa sc w0).mono ?_
    rintro e w1 ⟨rfl, b1⟩
    exact ⟨rfl, hC.trans (b1.mono hC.size)⟩
  simp only [Act.put, lq3, lq4, lq5]
  go_big_quiet_on
  cases hdx : doneB x
  · go_big_quiet_want
    go_big_quiet_op
    go_big_quiet_on
    go_big_quiet_want
    refine ⟨.agg (noteA r ta tc), fun w0 hC => quiet_load_note (.tmp 3) rfl p3 0 rfl r ta tc (YR.out w0 hC), ?_⟩
    simp only [Act.put, lq3, lq4, lq5]
    go_big_quiet_on
    go_big_quiet_want
    refine ⟨.bool (doneB r), fun w0 hC => ?_, ?_⟩
    · go_simp
      refine (plain_any r ta tc w0).mono ?_
      rintro e w1 ⟨rfl, b1⟩
      exact ⟨rfl, hC.trans (b1.mono hC.size)⟩
    simp only [Act.put, lq3, lq4, lq5]
    go_big_quiet_on
    cases hdr : doneB r
    · go_big_quiet_want
      refine ⟨.bool true, fun w0 hC => ?_, ?_⟩
      · clear hC
        go_simp
      simp only [Act.put, lq3, lq4, lq5]
      go_big_quiet_on
      go_big_quiet_want
      refine ⟨.bool true, fun w0 hC => ?_, ?_⟩
      · clear hC
        go_simp
      simp only [Act.put, lq3, lq4, lq5]
      go_big_quiet_on
      go_big_quiet_want
      go_big_quiet_op
      go_big_quiet_on
      go_big_quiet_skip
      go_big_quiet_skip
      go_big_quiet_skip
      go_big_quiet_skip
      go_big_quiet_skip
      go_big_quiet_want
      refine ⟨.bool true, fun w0 hC => ?_, ?_⟩
      · clear hC
        go_simp
      simp only [Act.put, lq3, lq4, lq5]
      go_big_quiet_on
      refine wpQuiet_nil ?_
      intro w' hC
      have GR := Lib.hid (GB.out false (by simp [hdx, hdr]))
      have B9 := Lib.hid (B0.out.trans (hC.mono B0.out.size))
      clear hC
      go_wp2_with fail
      go_ret
      exact ⟨by rw [GR.out] <;> rfl, B9.out⟩
    · go_big_quiet_want
      refine ⟨.bool false, fun w0 hC => ?_, ?_⟩
      · clear hC
        go_simp
      simp only [Act.put, lq3, lq4, lq5]
      go_big_quiet_on
      go_big_quiet_want
      refine ⟨.bool false, fun w0 hC => ?_, ?_⟩
      · clear hC
        go_simp
      simp only [Act.put, lq3, lq4, lq5]
      go_big_quiet_on
      go_big_quiet_want
      go_big_quiet_op
      go_big_quiet_on
      go_big_quiet_want
      refine ⟨.pointer (some ⟨p2, 16, none⟩), fun w0 hC => ?_, ?_⟩
      · clear hC
        go_simp
      simp only [Act.put, lq3, lq4, lq5]
      go_big_quiet_on
      go_big_quiet_want
      refine ⟨.agg #[.int .i64 x.refH, .int .i64 x.refN], fun w0 hC => ?_, ?_⟩
      · have c16 := cell_of (LX.out w0 hC) 16 (.int .i64 x.refH) rfl
        have c17 := cell_of (LX.out w0 hC) 17 (.int .i64 x.refN) rfl
        clear hC
        go_simp
      simp only [Act.put, lq3, lq4, lq5]
      go_big_quiet_on
      go_big_quiet_want
      refine ⟨.agg (noteA r ta tc), fun w0 hC => quiet_load_note (.tmp 3) rfl p3 0 rfl r ta tc (YR.out w0 hC), ?_⟩
      simp only [Act.put, lq3, lq4, lq5]
      go_big_quiet_on
      go_big_quiet_want
      refine ⟨.agg #[.int .i64 r.house, .int .i64 r.num], fun w0 hC => ?_, ?_⟩
      · go_simp
        refine (rNameOf_any r ta tc w0).mono ?_
        rintro e w1 ⟨rfl, b1⟩
        exact ⟨rfl, hC.trans (b1.mono hC.size)⟩
      simp only [Act.put, lq3, lq4, lq5]
      go_big_quiet_on
      go_big_quiet_want
      refine ⟨.bool (!decide (x.refH = r.house ∧ x.refN = r.num)), fun w0 hC => ?_, ?_⟩
      · clear hC
        go_simp
        try (by_cases h1 : x.refH = r.house <;> by_cases h2 : x.refN = r.num <;> simp [h1, h2])
      simp only [Act.put, lq3, lq4, lq5]
      go_big_quiet_on
      cases hq : decide (x.refH = r.house ∧ x.refN = r.num)
      · go_big_quiet_want
        refine ⟨.bool true, fun w0 hC => ?_, ?_⟩
        · clear hC
          go_simp
        simp only [Act.put, lq3, lq4, lq5]
        go_big_quiet_on
        refine wpQuiet_nil ?_
        intro w' hC
        have GR := Lib.hid (GB.out false (by have h1 : ¬ refOf x = nmOf r := fun e => of_decide_eq_false hq ⟨congrArg Prod.fst e, congrArg Prod.snd e⟩; simp [hdx, hdr, h1]))
        have B9 := Lib.hid (B0.out.trans (hC.mono B0.out.size))
        clear hC
        go_wp2_with fail
        go_ret
        exact ⟨by rw [GR.out] <;> rfl, B9.out⟩
      · go_big_quiet_want
        refine ⟨.bool false, fun w0 hC => ?_, ?_⟩
        · clear hC
          go_simp
        simp only [Act.put, lq3, lq4, lq5]
        go_big_quiet_on
        refine wpQuiet_nil ?_
        intro w' hC
        have B9 := Lib.hid (B0.out.trans (hC.mono B0.out.size))
        have h1 : refOf x = nmOf r := Prod.ext (of_decide_eq_true hq).1 (of_decide_eq_true hq).2
        have GR := Lib.hid (GB.out (decide (x.kind = 6) || (!decide (x.fix = 2) || decide (r.kind = 2))) (by simp [hdx, hdr, h1]))
        have X9 := Lib.hid (LX.out w' hC)
        have Y9 := Lib.hid (LY.out w' hC)
        clear hC hq h1 hdx hdr
        have c4 := cell_of X9.out 4 (.int .i64 x.kind) rfl
        have c18 := cell_of X9.out 18 (.int .i64 x.fix) rfl
        have d4 := cell_of Y9.out 4 (.int .i64 r.kind) rfl
        by_cases k6 : x.kind = 6
        · have e1 : (x.kind == 6) = true := by simp [k6]
          rw [decide_eq_true k6, Bool.true_or] at GR
          clear k6
          go_wp2_with fail
          go_ret
          exact ⟨by rw [GR.out] <;> rfl, B9.out⟩
        · have e1 : (x.kind == 6) = false := by simp [k6]
          rw [decide_eq_false k6, Bool.false_or] at GR
          clear k6
          by_cases k2 : x.fix = 2
          · have e2 : (x.fix == 2) = true := by simp [k2]
            have e3 : (x.fix != 2) = false := by simp [k2]
            rw [decide_eq_true k2, Bool.not_true, Bool.false_or] at GR
            clear k2
            have e4 : decide (r.kind = 2) = (r.kind == 2) := rfl
            rw [e4] at GR
            clear e4
            go_wp2_with fail
            go_ret
            exact ⟨by rw [GR.out] <;> rfl, B9.out⟩
          · have e2 : (x.fix == 2) = false := by simp [k2]
            have e3 : (x.fix != 2) = true := by simp [k2]
            rw [decide_eq_false k2, Bool.not_false, Bool.true_or] at GR
            clear k2
            go_wp2_with fail
            go_ret
            exact ⟨by rw [GR.out] <;> rfl, B9.out⟩
  · go_big_quiet_want
    go_big_quiet_op
    go_big_quiet_on
    go_big_quiet_skip
    go_big_quiet_skip
    go_big_quiet_skip
    go_big_quiet_want
    refine ⟨.bool true, fun w0 hC => ?_, ?_⟩
    · clear hC
      go_simp
    simp only [Act.put, lq3, lq4, lq5]
    go_big_quiet_on
    go_big_quiet_want
    go_big_quiet_op
    go_big_quiet_on
    go_big_quiet_skip
    go_big_quiet_skip
    go_big_quiet_skip
    go_big_quiet_skip
    go_big_quiet_skip
    go_big_quiet_want
    refine ⟨.bool true, fun w0 hC => ?_, ?_⟩
    · clear hC
      go_simp
    simp only [Act.put, lq3, lq4, lq5]
    go_big_quiet_on
    refine wpQuiet_nil ?_
    intro w' hC
    have GR := Lib.hid (GB.out false (by simp [hdx]))
    have B9 := Lib.hid (B0.out.trans (hC.mono B0.out.size))
    clear hC
    go_wp2_with fail
    go_ret
    exact ⟨by rw [GR.out] <;> rfl, B9.out⟩

set_option maxHeartbeats 8000000 in
set_option maxRecDepth 100000 in
theorem rjudgeOf_any (l : List NoteV) (a : Option Addr) (nn nc : Nat) (r : NoteV) (ta : Option Addr) (tc : Nat) (w : World) (hr : RdNs w a nn nc l) (hk : ∀ x ∈ l, 1 ≤ x.kind ∧ x.kind ≤ 6) :
    Calls Tryz.prog 127 #[.slice a nn nc, .agg (noteA r ta tc)] w fun e w' => (∃ i, e = .returned (.int .i64 i) ∧ JdgAt l r l.length i) ∧ Below w.heap.size w w' := by
  have J19 : (Tryz.prog.info? 51).map (·.size) = some 19 := by kernel_rfl
  have hn63 : nn ≤ 9223372036854775807 := by have h1 := hr.2.1; have h2 := hr.2.2.1; unfold maxLen at h2; omega
  obtain ⟨xs, hxs, hrl⟩ := hr.choose
  have RL := Lib.hid hrl
  have HXS := Lib.hid hxs
  have LNX := Lib.hid hrl.1
  have HK := Lib.hid hk
  have HLN := Lib.hid hr.1
  clear hr hk hxs hrl
  have B0 := Lib.hid ((Below.refl w.heap.size w).alloc (Nat.le_refl _) (.cells (noteA r ta tc) 51))
  have R0 := Lib.hid (heap_last w (.cells (noteA r ta tc) 51))
  go_enter Tryz.func127, Tryz.ntmps127
  go_upto_region 1 with fail
  obtain ⟨p3, hp3⟩ : ∃ p, Hid (w.heap.size = p) := ⟨_, Lib.hid rfl⟩
  rw [hp3.out] at R0 ⊢
  generalize w.alloc (.cells (noteA r ta tc) 51) = W0 at *
  go_wp2_with fail
  go_loopw [5, 6] (fun ov i wr => ∃ (k : Nat) (o : Int), ov = .int .i64 o ∧ i = .int .i64 (k : Int) ∧ k ≤ nn ∧ JdgAt l r k o ∧ Hid (Below W0.heap.size W0 wr)) (fun _ i _ => nn - (intOf i).toNat)
  case atStart => exact ⟨0, -1, rfl, rfl, Nat.zero_le _, JdgAt.start l r, Lib.hid (Below.refl _ _)⟩
  case round =>
    obtain ⟨k, jo, rfl, rfl, hk, hj, BB⟩ := hrel
    have HJ := Lib.hid hj; clear hj
    by_cases hlt : k < nn
    · have t0 : decide ((k : Int) < (nn : Int)) = true := by simp; omega
      obtain ⟨x, Hx⟩ : ∃ x, xs[k]? = some x := ⟨_, List.getElem?_eq_getElem (by rw [LNX.out]; exact hlt)⟩
      have HLX := Lib.hid (show l[k]? = some x.n by rw [← HXS.out, List.getElem?_map, Hx]; rfl)
      have BW := Lib.hid (B0.out.trans (BB.out.mono B0.out.size))
      have CJ := Lib.hid (rjudges_eq r (HK.out x.n (List.mem_of_getElem? HLX.out)))
      obtain ⟨b, off, rfl, hat⟩ := (RL.out.below BW.out).at (by omega)
      have HAT := Lib.hid (show ∀ i y, xs[i]? = some y → wr.rangeAt b (off + i * 19) (y.n.cells y.sa y.sc) from fun i y hy => (hat i y hy).1)
      obtain ⟨o, ho⟩ : ∃ o, Hid (off + k * 19 = o) := ⟨_, Lib.hid rfl⟩
      have HX := Lib.hid (HAT.out k x Hx)
      rw [ho.out] at HX
      have HIX := Lib.hid (fun W => idx_off (W := W) (c := nc) (b := b) Tryz.underlying43 J19 hlt ho.out)
      have hk64 : (k : Int) + 1 ≤ 9223372036854775807 := by omega
      have RW := Lib.hid (below_blk BB.out R0.out)
      clear hat Hx
      go_upto_region 5 with fail
      clear t0
      try simp only [Act.put, lq3, lq4, lq5]
      have hC0 : Below wr.heap.size wr wr.drew := (Below.refl _ _).drew
      have LX := Lib.hid (show ∀ w0, Below wr.heap.size wr w0 → w0.rangeAt b o (x.n.cells x.sa x.sc) from fun w0 h => rangeAt_below HX.out h)
      have LR := Lib.hid (show ∀ w0, Below wr.heap.size wr w0 → w0.rangeAt p3 0 (r.cells ta tc) from fun w0 h => blk_note2 (below_blk h RW.out))
      have CJF := Lib.hid (fun W => rjudges_any x.n r x.sa x.sc ta tc W)
      rw [CJ.out] at CJF
      refine wp_region_quiet (C := fun w' : World => Below wr.heap.size wr w') (by kernel_rfl) (by kernel_rfl) hC0 ?_
      show wpQuiet _ _ _ _ (_ :: _) _
      go_big_quiet_want
      go_big_quiet_op
      go_big_quiet_on
      go_big_quiet_want
      go_big_quiet_op
      go_big_quiet_on
      go_big_quiet_want
      refine ⟨.pointer (some ⟨b, o, none⟩), fun w0 hC => ?_, ?_⟩
      · have hix := HIX.out w0
        clear hC
        go_simp
      simp only [Act.put, lq3, lq4, lq5]
      go_big_quiet_on
      go_big_quiet_want
      refine ⟨.agg (noteA x.n x.sa x.sc), fun w0 hC => quiet_load_note (.tmp 15) rfl b o rfl x.n x.sa x.sc (LX.out w0 hC), ?_⟩
      simp only [Act.put, lq3, lq4, lq5]
      go_big_quiet_on
      go_big_quiet_want
      refine ⟨.agg (noteA r ta tc), fun w0 hC => quiet_load_note (.tmp 3) rfl p3 0 rfl r ta tc (LR.out w0 hC), ?_⟩
      simp only [Act.put, lq3, lq4, lq5]
      go_big_quiet_on
      go_big_quiet_want
      refine ⟨.bool (candP r x.n), fun w0 hC => ?_, ?_⟩
      · go_simp
        refine (CJF.out w0).mono ?_
        rintro e w1 ⟨rfl, b1⟩
        exact ⟨rfl, hC.trans (b1.mono hC.size)⟩
      simp only [Act.put, lq3, lq4, lq5]
      go_big_quiet_on
      cases hc : candP r x.n
      · go_big_quiet_want
        go_big_quiet_op
        go_big_quiet_on
        go_big_quiet_skip
        go_big_quiet_skip
        go_big_quiet_skip
        go_big_quiet_skip
        go_big_quiet_skip
        go_big_quiet_skip
        go_big_quiet_skip
        go_big_quiet_skip
        go_big_quiet_skip
        go_big_quiet_skip
        go_big_quiet_skip
        go_big_quiet_skip
        go_big_quiet_skip
        go_big_quiet_want
        refine ⟨.bool false, fun w0 hC => ?_, ?_⟩
        · clear hC
          go_simp
        simp only [Act.put, lq3, lq4, lq5]
        go_big_quiet_on
        refine wpQuiet_nil ?_
        intro w' hC
        have BB2 := Lib.hid (BB.out.trans (hC.mono BB.out.size))
        clear hC
        go_wp2_with fail
        go_roundw
        case rel => exact ⟨k + 1, jo, by go_num, by go_num, by omega, HJ.out.skip HLX.out hc, BB2⟩
        case measure => simp [intOf]; omega
      · go_big_quiet_want
        go_big_quiet_op
        go_big_quiet_on
        go_big_quiet_want
        go_big_quiet_op
        go_big_quiet_on
        by_cases hneg : jo < 0
        · go_big_quiet_want
          refine ⟨.bool true, fun w0 hC => ?_, ?_⟩
          · have hn0 : decide (jo < 0) = true := decide_eq_true hneg
            clear hC
            go_simp
          simp only [Act.put, lq3, lq4, lq5]
          go_big_quiet_on
          go_big_quiet_want
          go_big_quiet_op
          go_big_quiet_on
          go_big_quiet_skip
          go_big_quiet_skip
          go_big_quiet_skip
          go_big_quiet_skip
          go_big_quiet_skip
          go_big_quiet_skip
          go_big_quiet_skip
          go_big_quiet_skip
          go_big_quiet_skip
          go_big_quiet_want
          refine ⟨.bool true, fun w0 hC => ?_, ?_⟩
          · clear hC
            go_simp
          simp only [Act.put, lq3, lq4, lq5]
          go_big_quiet_on
          go_big_quiet_want
          refine ⟨.bool true, fun w0 hC => ?_, ?_⟩
          · clear hC
            go_simp
          simp only [Act.put, lq3, lq4, lq5]
          go_big_quiet_on
          refine wpQuiet_nil ?_
          intro w' hC
          have BB2 := Lib.hid (BB.out.trans (hC.mono BB.out.size))
          clear hC
          go_wp2_with fail
          go_roundw
          case rel => exact ⟨k + 1, (k : Int), by go_num, by go_num, by omega, HJ.out.first hneg HLX.out hc, BB2⟩
          case measure => simp [intOf]; omega
        · obtain ⟨j, y, rfl, Hy, hjl⟩ : ∃ (j : Nat) (y : LN), jo = (j : Int) ∧ xs[j]? = some y ∧ j < nn := by
            rcases HJ.out with ⟨h, _⟩ | ⟨j, y, h1, h2, _⟩
            · omega
            · have hj := (List.getElem?_eq_some_iff.1 h2).1
              rw [← HXS.out, List.getElem?_map] at h2
              cases h3 : xs[j]? with
              | none => rw [h3] at h2; cases h2
              | some z => exact ⟨j, z, h1, h3, by rw [HLN.out] at hj; exact hj⟩
          have HLY := Lib.hid (show l[j]? = some y.n by rw [← HXS.out, List.getElem?_map, Hy]; rfl)
          obtain ⟨oj, hoj⟩ : ∃ o, Hid (off + j * 19 = o) := ⟨_, Lib.hid rfl⟩
          have HY := Lib.hid (HAT.out j y Hy)
          rw [hoj.out] at HY
          have HIY := Lib.hid (fun W => idx_off (W := W) (c := nc) (b := b) Tryz.underlying43 J19 hjl hoj.out)
          have LY := Lib.hid (show ∀ w0, Below wr.heap.size wr w0 → w0.rangeAt b oj (y.n.cells y.sa y.sc) from fun w0 h => rangeAt_below HY.out h)
          clear Hy hneg
          go_big_quiet_want
          refine ⟨.bool false, fun w0 hC => ?_, ?_⟩
          · have hn0 : decide ((j : Int) < 0) = false := by simp
            clear hC
            go_simp
          simp only [Act.put, lq3, lq4, lq5]
          go_big_quiet_on
          go_big_quiet_want
          go_big_quiet_op
          go_big_quiet_on
          go_big_quiet_want
          go_big_quiet_op
          go_big_quiet_on
          go_big_quiet_want
          go_big_quiet_op
          go_big_quiet_on
          go_big_quiet_want
          refine ⟨.pointer (some ⟨b, oj, none⟩), fun w0 hC => ?_, ?_⟩
          · have hix := HIY.out w0
            clear hC
            go_simp
          simp only [Act.put, lq3, lq4, lq5]
          go_big_quiet_on
          go_big_quiet_want
          refine ⟨.agg (noteA y.n y.sa y.sc), fun w0 hC => quiet_load_note (.tmp 25) rfl b oj rfl y.n y.sa y.sc (LY.out w0 hC), ?_⟩
          simp only [Act.put, lq3, lq4, lq5]
          go_big_quiet_on
          go_big_quiet_want
          go_big_quiet_op
          go_big_quiet_on
          go_big_quiet_want
          go_big_quiet_op
          go_big_quiet_on
          go_big_quiet_want
          refine ⟨.pointer (some ⟨b, o, none⟩), fun w0 hC => ?_, ?_⟩
          · have hix := HIX.out w0
            clear hC
            go_simp
          simp only [Act.put, lq3, lq4, lq5]
          go_big_quiet_on
          go_big_quiet_want
          refine ⟨.agg (noteA x.n x.sa x.sc), fun w0 hC => quiet_load_note (.tmp 29) rfl b o rfl x.n x.sa x.sc (LX.out w0 hC), ?_⟩
          simp only [Act.put, lq3, lq4, lq5]
          go_big_quiet_on
          go_big_quiet_want
          refine ⟨.bool (decide (knownC y.n x.n < 0)), fun w0 hC => ?_, ?_⟩
          · go_simp
            refine (rknown_any y.n x.n y.sa y.sc x.sa x.sc w0).mono ?_
            rintro e w1 ⟨rfl, b1⟩
            exact ⟨rfl, hC.trans (b1.mono hC.size)⟩
          simp only [Act.put, lq3, lq4, lq5]
          go_big_quiet_on
          cases hkn : decide (knownC y.n x.n < 0)
          · go_big_quiet_want
            refine ⟨.bool false, fun w0 hC => ?_, ?_⟩
            · clear hC
              go_simp
            simp only [Act.put, lq3, lq4, lq5]
            go_big_quiet_on
            go_big_quiet_want
            refine ⟨.bool false, fun w0 hC => ?_, ?_⟩
            · clear hC
              go_simp
            simp only [Act.put, lq3, lq4, lq5]
            go_big_quiet_on
            refine wpQuiet_nil ?_
            intro w' hC
            have BB2 := Lib.hid (BB.out.trans (hC.mono BB.out.size))
            clear hC
            go_wp2_with fail
            go_roundw
            case rel => exact ⟨k + 1, (j : Int), by go_num, by go_num, by omega, HJ.out.worse HLX.out HLY.out hc (of_decide_eq_false hkn), BB2⟩
            case measure => simp [intOf]; omega
          · go_big_quiet_want
            refine ⟨.bool true, fun w0 hC => ?_, ?_⟩
            · clear hC
              go_simp
            simp only [Act.put, lq3, lq4, lq5]
            go_big_quiet_on
            go_big_quiet_want
            refine ⟨.bool true, fun w0 hC => ?_, ?_⟩
            · clear hC
              go_simp
            simp only [Act.put, lq3, lq4, lq5]
            go_big_quiet_on
            refine wpQuiet_nil ?_
            intro w' hC
            have BB2 := Lib.hid (BB.out.trans (hC.mono BB.out.size))
            clear hC
            go_wp2_with fail
            go_roundw
            case rel => exact ⟨k + 1, (k : Int), by go_num, by go_num, by omega, HJ.out.better HLX.out HLY.out hc (of_decide_eq_true hkn), BB2⟩
            case measure => simp [intOf]; omega
    · have t0 : decide ((k : Int) < (nn : Int)) = false := by simp; omega
      obtain rfl : k = nn := by omega
      rw [← HLN.out] at HJ
      have BW := Lib.hid (B0.out.trans (BB.out.mono B0.out.size))
      go_wp2_with fail
      go_ret
      exact ⟨⟨jo, rfl, HJ.out⟩, BW.out⟩
end Go.Proofs.YtpjiakgfegnmcaaGreat
namespace Go.Proofs.YtpjiakgfegnmcaaGreat
set_option linter.unusedSimpArgs false
set_option linter.unusedVariables false

def knownLt (x y : NoteV) : Bool := decide (knownC x y < 0)
def chB (a : Nm) (x : NoteV) : Bool := !doneB x && decide (refOf x = a)
def sortK (l : List NoteV) : List NoteV := l.foldl (fun out n => insG knownLt n out) []
def chainS (l : List NoteV) (a : Nm) : List NoteV := sortK (l.filter (chB a))
def chTo (l : List NoteV) (a : Nm) (k : Nat) : List NoteV := sortK ((l.take k).filter (chB a))
theorem insG_perm (lt : NoteV → NoteV → Bool) (n : NoteV) : ∀ l : List NoteV, (insG lt n l).Perm (n :: l)
  | [] => List.Perm.refl _
  | y :: ys => by
    unfold insG
    split
    · exact ((insG_perm lt n ys).cons y).trans (List.Perm.swap ..)
    · exact List.Perm.refl _
theorem knownC_tr {a b c : NoteV} (h1 : ¬ knownC b a < 0) (h2 : ¬ knownC c b < 0) : ¬ knownC c a < 0 := by
  rw [knownC_neg] at *
  omega
theorem knownC_asymm {a b : NoteV} (h1 : knownC a b < 0) : ¬ knownC b a < 0 := by
  rw [knownC_neg] at *
  omega
theorem knownC_same {a b : NoteV} (h1 : ¬ knownC a b < 0) (h2 : ¬ knownC b a < 0) : nmOf a = nmOf b := by
  rw [knownC_neg] at *
  show (a.house, a.num) = (b.house, b.num)
  rw [Prod.mk.injEq]
  omega
theorem insK_sorted {n : NoteV} : ∀ {l : List NoteV}, l.Pairwise (fun x y => ¬ knownC y x < 0) → (insG knownLt n l).Pairwise (fun x y => ¬ knownC y x < 0)
  | [], _ => by simp [insG]
  | y :: ys, h => by
    rw [List.pairwise_cons] at h
    unfold insG
    split
    · rename_i hy
      have hy := of_decide_eq_true hy
      refine List.pairwise_cons.2 ⟨fun z hz => ?_, insK_sorted h.2⟩
      rcases List.mem_cons.1 ((insG_perm knownLt n ys).subset hz) with rfl | hz
      · exact knownC_asymm hy
      · exact h.1 z hz
    · rename_i hy
      have hy : ¬ knownC y n < 0 := fun h => hy (decide_eq_true h)
      refine List.pairwise_cons.2 ⟨fun z hz => ?_, List.pairwise_cons.2 h⟩
      rcases List.mem_cons.1 hz with rfl | hz
      · exact hy
      · exact knownC_tr hy (h.1 z hz)
theorem sortKGo (l : List NoteV) : ∀ out : List NoteV, (l.foldl (fun out n => insG knownLt n out) out).Perm (out ++ l) ∧ (out.Pairwise (fun x y => ¬ knownC y x < 0) → (l.foldl (fun out n => insG knownLt n out) out).Pairwise (fun x y => ¬ knownC y x < 0)) := by
  induction l with
  | nil => intro out; exact ⟨by simp, fun h => h⟩
  | cons n l ih =>
    intro out
    rw [List.foldl_cons]
    refine ⟨(ih (insG knownLt n out)).1.trans ?_, fun h => (ih (insG knownLt n out)).2 (insK_sorted h)⟩
    refine ((insG_perm knownLt n out).append_right l).trans ?_
    rw [List.cons_append]
    exact List.perm_middle.symm
theorem sortK_perm (l : List NoteV) : (sortK l).Perm l := (sortKGo l []).1
theorem sortK_sorted (l : List NoteV) : (sortK l).Pairwise (fun x y => ¬ knownC y x < 0) := (sortKGo l []).2 List.Pairwise.nil
theorem chain_eq {l zs : List NoteV} {a : Nm} (hd : (l.map nmOf).Nodup) (hp : zs.Perm (l.filter (chB a))) (hs : zs.Pairwise (fun x y => ¬ knownC y x < 0)) : zs = chainS l a := by
  refine sorted_unique (lt := knownLt) (fun x hx y hy h1 h2 => ?_) (hp.trans (sortK_perm _).symm) (hs.imp (by simp [knownLt])) ((sortK_sorted _).imp (by simp [knownLt]))
  have hn := ((hp.map nmOf).nodup_iff).2 (hd.sublist (List.filter_sublist.map _))
  exact nodup_inj hn hx hy (knownC_same (by simpa [knownLt] using h1) (by simpa [knownLt] using h2))
theorem sortK_snoc (l : List NoteV) (n : NoteV) : sortK (l ++ [n]) = insG knownLt n (sortK l) := by simp [sortK, List.foldl_append]
theorem chTo_skip {l : List NoteV} {a : Nm} {k : Nat} {x : NoteV} (h : l[k]? = some x) (hc : chB a x = false) : chTo l a (k + 1) = chTo l a k := by
  unfold chTo
  rw [take_snoc h, List.filter_append, List.filter_cons_of_neg (by rw [hc]; decide), List.filter_nil, List.append_nil]
theorem chTo_add {l : List NoteV} {a : Nm} {k : Nat} {x : NoteV} (h : l[k]? = some x) (hc : chB a x = true) : chTo l a (k + 1) = insG knownLt x (chTo l a k) := by
  unfold chTo
  rw [take_snoc h, List.filter_append, List.filter_cons_of_pos hc, List.filter_nil, sortK_snoc]
theorem chTo_all (l : List NoteV) (a : Nm) : chTo l a l.length = chainS l a := by
  unfold chTo chainS
  rw [List.take_length]
theorem chTo_len (l : List NoteV) (a : Nm) (k : Nat) : (chTo l a k).length ≤ k := by
  unfold chTo
  rw [(sortK_perm _).length_eq]
  refine Nat.le_trans (List.length_filter_le _ _) ?_
  rw [List.length_take]
  omega
def FindAt (l : List NoteV) (a : Nm) (i : Int) : Prop := (i = -1 ∧ ∀ x ∈ l, nmOf x ≠ a) ∨ ∃ (j : Nat) (x : NoteV), i = (j : Int) ∧ l[j]? = some x ∧ nmOf x = a
end Go.Proofs.YtpjiakgfegnmcaaGreat
namespace Go.Proofs.YtpjiakgfegnmcaaGreat
set_option linter.unusedSimpArgs false
open Go.RowKit

def FindRet (l : List NoteV) (a : Nm) (e : Ending) : Prop := ∃ i, e = .returned (.int .i64 i) ∧ FindAt l a i
set_option maxHeartbeats 8000000 in
set_option maxRecDepth 100000 in
theorem rfind_any (l : List NoteV) (a : Option Addr) (nn nc : Nat) (h m : Int) (w : World) (hr : RdNs w a nn nc l) (hlen : nn ≤ 1000) :
    Calls Tryz.prog 79 #[.slice a nn nc, .agg #[.int .i64 h, .int .i64 m]] w fun e w' => FindRet l (h, m) e ∧ Below w.heap.size w w' := by
  have J19 : (Tryz.prog.info? 51).map (·.size) = some 19 := by kernel_rfl
  obtain ⟨xs, hxs, hrl⟩ := hr.choose
  have RL := Lib.hid hrl
  have HXS := Lib.hid hxs
  have LNX := Lib.hid hrl.1
  have HLN := Lib.hid hr.1
  clear hr hxs hrl
  have B0 := Lib.hid ((Below.refl w.heap.size w).alloc (Nat.le_refl _) (.cells #[.int .i64 h, .int .i64 m] 29))
  have R0 := Lib.hid (heap_last w (.cells #[.int .i64 h, .int .i64 m] 29))
  go_enter Tryz.func79, Tryz.ntmps79
  go_upto_region 1 with fail
  obtain ⟨p3, hp3⟩ : ∃ p, Hid (w.heap.size = p) := ⟨_, Lib.hid rfl⟩
  rw [hp3.out] at R0 ⊢
  generalize w.alloc (.cells #[.int .i64 h, .int .i64 m] 29) = W0 at *
  go_wp2_with fail
  go_loopw [5] (fun i wr => ∃ k : Nat, i = .int .i64 (k : Int) ∧ k ≤ nn ∧ Hid (∀ j y, j < k → l[j]? = some y → nmOf y ≠ (h, m)) ∧ Hid (Below W0.heap.size W0 wr)) (fun i _ => nn - (intOf i).toNat)
  case atStart => exact ⟨0, rfl, Nat.zero_le _, Lib.hid (fun j y h => by omega), Lib.hid (Below.refl _ _)⟩
  case round =>
    obtain ⟨k, rfl, hk, HA, BB⟩ := hrel
    by_cases hlt : k < nn
    · have t0 : decide ((k : Int) < (nn : Int)) = true := by simp; omega
      obtain ⟨x, Hx⟩ : ∃ x, xs[k]? = some x := ⟨_, List.getElem?_eq_getElem (by rw [LNX.out]; exact hlt)⟩
      have HLX := Lib.hid (show l[k]? = some x.n by rw [← HXS.out, List.getElem?_map, Hx]; rfl)
      obtain ⟨b, off, rfl, hat⟩ := (RL.out.below (B0.out.trans (BB.out.mono B0.out.size))).at (by omega)
      have HX := Lib.hid (hat k x Hx).1
      obtain ⟨o, ho⟩ : ∃ o, Hid (off + k * 19 = o) := ⟨_, Lib.hid rfl⟩
      rw [ho.out] at HX
      have HIX := Lib.hid (fun W => idx_off (W := W) (c := nc) (b := b) Tryz.underlying43 J19 hlt ho.out)
      have hk64 : (k : Int) + 1 ≤ 9223372036854775807 := by omega
      have LR := Lib.hid (show ∀ w0, Below wr.heap.size wr w0 → w0.heap[p3]? = some (.cells #[.int .i64 h, .int .i64 m] 29 (0, 0)) from fun w0 hb => below_blk hb (below_blk BB.out R0.out))
      have LX := Lib.hid (show ∀ w0, Below wr.heap.size wr w0 → w0.rangeAt b o (x.n.cells x.sa x.sc) from fun w0 h => rangeAt_below HX.out h)
      have hC0 : Below wr.heap.size wr wr.drew := (Below.refl _ _).drew
      clear hat Hx
      go_upto_region 4 with fail
      clear t0
      try simp only [Act.put, lq3, lq4, lq5]
      refine wp_region_quiet (C := fun w' : World => Below wr.heap.size wr w') (by kernel_rfl) (by kernel_rfl) hC0 ?_
      show wpQuiet _ _ _ _ (_ :: _) _
      go_big_quiet_want
      go_big_quiet_op
      go_big_quiet_on
      go_big_quiet_want
      go_big_quiet_op
      go_big_quiet_on
      go_big_quiet_want
      refine ⟨.pointer (some ⟨b, o, none⟩), fun w0 hC => ?_, ?_⟩
      · have hix := HIX.out w0
        clear hC
        go_simp
      simp only [Act.put, lq3, lq4, lq5]
      go_big_quiet_on
      go_big_quiet_want
      refine ⟨.agg (noteA x.n x.sa x.sc), fun w0 hC => quiet_load_note (.tmp 14) rfl b o rfl x.n x.sa x.sc (LX.out w0 hC), ?_⟩
      simp only [Act.put, lq3, lq4, lq5]
      go_big_quiet_on
      go_big_quiet_want
      refine ⟨.agg #[.int .i64 x.n.house, .int .i64 x.n.num], fun w0 hC => ?_, ?_⟩
      · go_simp
        refine (rNameOf_any x.n x.sa x.sc w0).mono ?_
        rintro e w1 ⟨rfl, b1⟩
        exact ⟨rfl, hC.trans (b1.mono hC.size)⟩
      simp only [Act.put, lq3, lq4, lq5]
      go_big_quiet_on
      go_big_quiet_want
      refine ⟨.agg #[.int .i64 h, .int .i64 m], fun w0 hC => ?_, ?_⟩
      · have c0 := cell_of (LR.out w0 hC) 0 (.int .i64 h) rfl
        have c1 := cell_of (LR.out w0 hC) 1 (.int .i64 m) rfl
        clear hC
        go_simp
      simp only [Act.put, lq3, lq4, lq5]
      go_big_quiet_on
      go_big_quiet_want
      refine ⟨.bool (decide (x.n.house = h ∧ x.n.num = m)), fun w0 hC => ?_, ?_⟩
      · clear hC
        go_simp
        try (by_cases h1 : x.n.house = h <;> by_cases h2 : x.n.num = m <;> simp [h1, h2])
      simp only [Act.put, lq3, lq4, lq5]
      go_big_quiet_on
      refine wpQuiet_nil ?_
      intro w' hC
      have BB2 := Lib.hid (BB.out.trans (hC.mono BB.out.size))
      clear hC LX LR HX BB
      cases hq : decide (x.n.house = h ∧ x.n.num = m)
      · have NE := Lib.hid (of_decide_eq_false hq)
        clear hq
        go_wp2_with fail
        go_roundw
        case rel => exact ⟨k + 1, by go_num, by omega, Lib.hid (fun i z hi hz => by
          rcases Nat.lt_or_ge i k with h' | h'
          · exact HA.out i z h' hz
          · have e : i = k := by omega
            subst e
            rw [HLX.out] at hz
            cases hz
            exact fun e => NE.out ⟨congrArg Prod.fst e, congrArg Prod.snd e⟩), BB2⟩
        case measure => simp [intOf]; omega
      · have EQ : Hid (FindAt l (h, m) (k : Int)) := Lib.hid (.inr ⟨k, x.n, rfl, HLX.out, Prod.ext (of_decide_eq_true hq).1 (of_decide_eq_true hq).2⟩)
        clear hq
        go_wp2_with fail
        go_ret
        exact ⟨⟨_, rfl, EQ.out⟩, B0.out.trans (BB2.out.mono B0.out.size)⟩
    · have t0 : decide ((k : Int) < (nn : Int)) = false := by simp; omega
      have NI : Hid (FindAt l (h, m) (-1)) := Lib.hid (.inl ⟨rfl, fun x hx => by
        obtain ⟨i, hi⟩ := List.getElem?_of_mem hx
        exact HA.out i _ (by have := (List.getElem?_eq_some_iff.1 hi).1; rw [HLN.out] at this; omega) hi⟩)
      go_wp2_with fail
      go_ret
      exact ⟨⟨_, rfl, NI.out⟩, B0.out.trans (BB.out.mono B0.out.size)⟩
end Go.Proofs.YtpjiakgfegnmcaaGreat
namespace Go.Proofs.YtpjiakgfegnmcaaGreat
set_option linter.unusedSimpArgs false
open Go.RowKit

def cntV (l : List NoteV) (r : NoteV) : Option NoteV := match judgeP l r with | none => some r | some j => if j.kind = 6 then none else some (countN r j)
theorem cntV_eq {l : List NoteV} {r : NoteV} (h : doneB r = true) : countP l r = cntV l r := by
  unfold countP cntV
  rw [if_pos h]
  cases judgeP l r <;> rfl
def CntOut (w W : World) (l : List NoteV) (r : NoteV) (v : Value) (b : Bool) : Prop :=
  (cntV l r = none ∧ b = false ∧ v = .agg (noteA zeroN none 0)) ∨ ∃ n ta tc, cntV l r = some n ∧ b = true ∧ v = .agg (noteA n ta tc) ∧ W.ownsRow w.heap.size 3 1 (.slice ta n.strokes.length tc) n.strokes.length (n.strokes.map intV)
def CntRet (w W : World) (l : List NoteV) (r : NoteV) (e : Ending) : Prop := ∃ v b, e = .returned (.tuple #[v, .bool b]) ∧ CntOut w W l r v b
structure CnAt (w W : World) (p3 p4 p7 : Nat) (A M : Array Value) (ja : Option Addr) (jn jc : Nat) (S : List Value) : Prop where
  bel : Below w.heap.size w W
  e3 : W.heap[p3]? = some (.cells A 51 (0, 0))
  e4 : W.heap[p4]? = some (.cells (noteA zeroN none 0) 51 (0, 0))
  e7 : W.heap[p7]? = some (.cells M 51 (0, 0))
  own : W.ownsRow w.heap.size 3 1 (.slice ja jn jc) jn S
  lt : w.heap.size ≤ p4 ∧ p3 < p7 ∧ p4 < p7
theorem CnAt.put {w W : World} {p3 p4 p7 : Nat} {A M : Array Value} {ja : Option Addr} {jn jc : Nat} {S : List Value} (h : CnAt w W p3 p4 p7 A M ja jn jc S) (j : Nat) (v : Value) : CnAt w (W.setCell ⟨p7, j, none⟩ v) p3 p4 p7 A (M.setIfInBounds j v) ja jn jc S := by
  have g := setCell_grown W p7 j v
  have hl := h.lt
  exact ⟨h.bel.grown g h.bel.size (fun k e => by cases e; omega), grown_blk g h.e3 (fun e => by have := Option.some.inj e; omega), grown_blk g h.e4 (fun e => by have := Option.some.inj e; omega), setCell_at h.e7 j v,
    h.own.kept g (.inr (own_no h.own h.e7 (fun cur h => by simp at h)).symm), h.lt⟩
theorem noteA_put0 (n : NoteV) (sa : Option Addr) (sc : Nat) (z : Int) : (noteA n sa sc).setIfInBounds 0 (.int .i64 z) = noteA { n with house := z } sa sc := rfl
theorem noteA_put1 (n : NoteV) (sa : Option Addr) (sc : Nat) (z : Int) : (noteA n sa sc).setIfInBounds 1 (.int .i64 z) = noteA { n with num := z } sa sc := rfl
theorem noteA_put2 (n : NoteV) (sa : Option Addr) (sc : Nat) (z : Int) : (noteA n sa sc).setIfInBounds 2 (.int .i64 z) = noteA { n with clock := z } sa sc := rfl
theorem noteA_put4 (n : NoteV) (sa : Option Addr) (sc : Nat) (z : Int) : (noteA n sa sc).setIfInBounds 4 (.int .i64 z) = noteA { n with kind := z } sa sc := rfl
theorem noteA_put18 (n : NoteV) (sa : Option Addr) (sc : Nat) (z : Int) : (noteA n sa sc).setIfInBounds 18 (.int .i64 z) = noteA { n with fix := z } sa sc := rfl
theorem noteA_put16 (n : NoteV) (sa : Option Addr) (sc : Nat) (y z : Int) : ((noteA n sa sc).setIfInBounds 16 (.int .i64 y)).setIfInBounds 17 (.int .i64 z) = noteA { n with refH := y, refN := z } sa sc := rfl
set_option maxHeartbeats 8000000 in
set_option maxRecDepth 100000 in
theorem rcounted_any (l : List NoteV) (a : Option Addr) (nn nc : Nat) (r : NoteV) (ta : Option Addr) (tc : Nat) (w : World) (hr : RdNs w a nn nc l) (hk : ∀ x ∈ l, 1 ≤ x.kind ∧ x.kind ≤ 6) (hst : ∀ x ∈ l, x.strokes.length ≤ 1000000) (hrs : RdI w ta r.strokes.length tc r.strokes) (hrl : r.strokes.length ≤ 1000000) :
    Calls Tryz.prog 105 #[.slice a nn nc, .agg (noteA r ta tc)] w fun e w' => CntRet w w' l r e ∧ Below w.heap.size w w' := by
  have I43 := Lib.hid (show ∀ (m : NoteV) (a : Option Addr) (c : Nat), (Tryz.prog.info? 51).map (·.size) = some (noteA m a c).size from fun m a c => by kernel_rfl)
  have J19 : (Tryz.prog.info? 51).map (·.size) = some 19 := by kernel_rfl
  have hn63 : nn ≤ 9223372036854775807 := by have h1 := hr.2.1; have h2 := hr.2.2.1; unfold maxLen at h2; omega
  obtain ⟨xs, hxs, hrls⟩ := hr.choose
  have RL := Lib.hid hrls
  have HXS := Lib.hid hxs
  have HK := Lib.hid hk
  have HST := Lib.hid hst
  have RN := Lib.hid hr
  have RR := Lib.hid hrs
  have RRL := Lib.hid hrl
  clear hr hk hst hrs hrl hxs hrls
  have B0 := Lib.hid (((Below.refl w.heap.size w).alloc (Nat.le_refl _) (.cells (noteA r ta tc) 51)).alloc (by simp) (.cells (noteA zeroN none 0) 51))
  have X0 := Lib.hid (heap_before _ (.cells (noteA zeroN none 0) 51) _ _ (heap_last w (.cells (noteA r ta tc) 51)))
  have Y0 := Lib.hid (heap_at (w.alloc (.cells (noteA r ta tc) 51)) (.cells (noteA zeroN none 0) 51) (w.heap.size + 1) (by simp))
  go_enter Tryz.func105, Tryz.ntmps105
  go_upto_region 1 with fail
  rw [← noteA_zero]
  obtain ⟨p3, hp3⟩ : ∃ p, Hid (w.heap.size = p) := ⟨_, Lib.hid rfl⟩
  obtain ⟨p4, hp4⟩ : ∃ p, Hid (w.heap.size + 1 = p) := ⟨_, Lib.hid rfl⟩
  rw [hp3.out] at X0
  rw [hp4.out] at Y0
  rw [hp4.out, hp3.out]
  generalize (w.alloc (.cells (noteA r ta tc) 51)).alloc (.cells (noteA zeroN none 0) 51) = W0 at *
  have LT : Hid (w.heap.size ≤ p4 ∧ p3 < p4) := Lib.hid (by have := hp3.out; have := hp4.out; omega)
  go_wp2_with (refine wpList_load_row rfl 51 _ rfl p3 rfl 51 (noteA r ta tc) (0, 0) _ X0.out Tryz.underlying51 rfl (I43.out _ _ _) ?_)
  refine (rjudgeOf_any l a nn nc r ta tc W0 (RN.out.below B0.out) HK.out).mono ?_
  rintro e W1 ⟨⟨i, rfl, hj⟩, b1⟩
  have X1 := Lib.hid (below_blk b1 X0.out)
  have Y1 := Lib.hid (below_blk b1 Y0.out)
  have B1 := Lib.hid (B0.out.trans (b1.mono B0.out.size))
  have HJ := Lib.hid (show (i = -1 ∧ judgeP l r = none) ∨ ∃ (j : Nat) (x : NoteV), i = (j : Int) ∧ l[j]? = some x ∧ judgeP l r = some x by unfold JdgAt at hj; rwa [List.take_length] at hj)
  clear hj b1 X0 Y0 B0
  rcases HJ.out with ⟨rfl, hn⟩ | ⟨j, x, rfl, hx, hjx⟩
  · have HV := Lib.hid (show cntV l r = some r by unfold cntV; rw [hn])
    clear hn HJ
    go_wp2_with (refine wpList_load_row rfl 51 _ rfl p3 rfl 51 (noteA r ta tc) (0, 0) _ X1.out Tryz.underlying51 rfl (I43.out _ _ _) ?_)
    refine (rcopy_any r ta tc W1 (RR.out.below B1.out) (Nat.le_trans RRL.out (by decide))).mono ?_
    rintro e W2 ⟨ta', tc', rfl, ho, b2⟩
    have Y2 := Lib.hid (below_blk b2 Y1.out)
    have O2 := Lib.hid (own_mono ho B1.out.size)
    have B2 := Lib.hid (B1.out.trans (b2.mono B1.out.size))
    clear ho b2
    have oneN := noteA_one r ta' tc'
    go_wp2_with (refine wpList_store_rowN rfl 51 _ _ rfl p4 (noteA zeroN none 0) (noteA r ta' tc') 51 rfl rfl Y2.out (I43.out _ _ _) rfl oneN ?_)
    go_wp2_with fail
    have hr := setRow_at W2 p4 _ (noteA r ta' tc') _ _ Y2.out
    have G4 := setRow_grown W2 p4 (noteA r ta' tc')
    refine bodyPost_ret (results_cell_row_tmp rfl _ _ p4 51 (noteA r ta' tc') (0, 0) _ rfl hr Tryz.underlying51 rfl (I43.out _ _ _)) rfl ?_
    exact ⟨⟨_, true, rfl, .inr ⟨r, ta', tc', HV.out, rfl, rfl, O2.out.kept G4 (.inr (own_no O2.out Y2.out (fun cur h => by simp at h)).symm)⟩⟩, B2.out.grown G4 B2.out.size (fun q hq => by cases hq; exact LT.out.1)⟩
  have HX := Lib.hid hx
  have HJX := Lib.hid hjx
  clear hx hjx HJ
  obtain ⟨y, Hy⟩ : ∃ y, xs[j]? = some y := by
    have h1 := HX.out
    rw [← HXS.out, List.getElem?_map] at h1
    cases h2 : xs[j]? with
    | none => rw [h2] at h1; cases h1
    | some y => exact ⟨y, rfl⟩
  have HYX : x = y.n := by
    have h1 := HX.out
    rw [← HXS.out, List.getElem?_map, Hy] at h1
    exact (Option.some.inj h1).symm
  subst HYX
  have hjn : j < nn := by have := (List.getElem?_eq_some_iff.1 Hy).1; rw [RL.out.1] at this; exact this
  have YST := Lib.hid (HST.out y.n (List.mem_of_getElem? HX.out))
  obtain ⟨b, off, rfl, hat⟩ := (RL.out.below B1.out).at (by omega)
  obtain ⟨o, ho⟩ : ∃ o, Hid (off + j * 19 = o) := ⟨_, Lib.hid rfl⟩
  have HYA := Lib.hid (hat j y Hy).1
  have HYO := Lib.hid (hat j y Hy).2
  rw [ho.out] at HYA
  have hix := fun W => idx_off (W := W) (c := nc) (b := b) Tryz.underlying43 J19 hjn ho.out
  clear hat Hy
  have tneg : decide ((j : Int) < 0) = false := by simp
  have c4 := HYA.out 4 (.int .i64 y.n.kind) rfl
  by_cases k6 : y.n.kind = 6
  · have t6 : (y.n.kind == 6) = true := by simp [k6]
    have HV := Lib.hid (show cntV l r = none by unfold cntV; rw [HJX.out]; simp only; rw [if_pos k6])
    clear k6
    go_wp2_with (refine wpList_store_rowN rfl 51 _ _ rfl p4 (noteA zeroN none 0) (noteA zeroN none 0) 51 rfl rfl Y1.out (I43.out _ _ _) rfl (noteA_one zeroN none 0) ?_)
    go_wp2_with fail
    have hr := setRow_at W1 p4 _ (noteA zeroN none 0) _ _ Y1.out
    have G4 := setRow_grown W1 p4 (noteA zeroN none 0)
    refine bodyPost_ret (results_cell_row_tmp rfl _ _ p4 51 (noteA zeroN none 0) (0, 0) _ rfl hr Tryz.underlying51 rfl (I43.out _ _ _)) rfl ?_
    exact ⟨⟨_, false, rfl, .inl ⟨HV.out, rfl, rfl⟩⟩, B1.out.grown G4 B1.out.size (fun q hq => by cases hq; exact LT.out.1)⟩
  have t6 : (y.n.kind == 6) = false := by simp [k6]
  have HV := Lib.hid (show cntV l r = some (countN r y.n) by unfold cntV; rw [HJX.out]; simp only; rw [if_neg k6])
  clear k6
  go_wp2_with (refine wpList_load_mid rfl 51 _ rfl b o rfl (y.n.cells y.sa y.sc) _ HYA.out Tryz.underlying51 rfl (size43 y.n y.sa y.sc) ?_)
  refine (rcopy_any y.n y.sa y.sc W1 HYO.out (Nat.le_trans YST.out (by decide))).mono ?_
  rintro e W2 ⟨ja, jc, rfl, ho2, b2⟩
  have X2 := Lib.hid (below_blk b2 X1.out)
  have Y2 := Lib.hid (below_blk b2 Y1.out)
  have O2 := Lib.hid (own_mono ho2 B1.out.size)
  have B2 := Lib.hid (B1.out.trans (b2.mono B1.out.size))
  have HYB := Lib.hid (rangeAt_below HYA.out b2)
  clear ho2 b2 X1 Y1 B1 c4 t6 tneg HYO HYA
  go_upto_region 7 with (refine wpList_store_newp W2 rfl 51 _ _ rfl W2.heap.size rfl _ (noteA y.n ja jc) rfl rfl (I43.out _ _ _) rfl (noteA_one y.n ja jc) ?_)
  have b3 : Below W2.heap.size W2 (W2.alloc (.cells (noteA y.n ja jc) 51)) := (Below.refl _ _).alloc (Nat.le_refl _) _
  have M0 : Hid (CnAt w (W2.alloc (.cells (noteA y.n ja jc) 51)) p3 p4 W2.heap.size (noteA r ta tc) (noteA y.n ja jc) ja y.n.strokes.length jc (y.n.strokes.map intV)) := Lib.hid ⟨B2.out.trans (b3.mono B2.out.size), below_blk b3 X2.out, below_blk b3 Y2.out, heap_last W2 _, own_below O2.out b3, LT.out.1, blk_lt X2.out, blk_lt Y2.out⟩
  have FX : Hid ((W2.alloc (.cells (noteA y.n ja jc) 51)).cell? ⟨b, o + 18, none⟩ = some (.int .i64 y.n.fix) ∧ b < W2.heap.size) := Lib.hid ⟨rangeAt_below HYB.out b3 18 (.int .i64 y.n.fix) rfl, World.block_lt_of_cell? W2 _ (HYB.out 18 (.int .i64 y.n.fix) rfl)⟩
  clear b3 X2 Y2 O2 B2 HYB
  obtain ⟨p7, hp7⟩ : ∃ p, Hid (W2.heap.size = p) := ⟨_, Lib.hid rfl⟩
  rw [hp7.out] at M0 FX ⊢
  generalize W2.alloc (.cells (noteA y.n ja jc) 51) = V0 at *
  have zc := cell_of M0.out.e7 0 _ rfl
  have zf := frozen_of M0.out.e7 0
  have zs := cell_of M0.out.e3 0 (.int .i64 r.house) rfl
  go_upto_region 8 with fail
  have M1 := Lib.hid (M0.out.put 0 (.int .i64 r.house))
  rw [noteA_put0] at M1
  replace FX := Lib.hid (And.intro ((World.cell?_setCell_other V0 ⟨p7, 0, none⟩ ⟨b, o + 18, none⟩ (.int .i64 r.house) (by intro h; simp only [Addr.mk.injEq] at h; have := FX.out.2; omega)).trans FX.out.1) FX.out.2)
  clear zc zf zs M0
  generalize V0.setCell ⟨p7, 0, none⟩ (.int .i64 r.house) = V1 at *
  have zc := cell_of M1.out.e7 1 _ rfl
  have zf := frozen_of M1.out.e7 1
  have zs := cell_of M1.out.e3 1 (.int .i64 r.num) rfl
  go_upto_region 9 with fail
  have M2 := Lib.hid (M1.out.put 1 (.int .i64 r.num))
  rw [noteA_put1] at M2
  replace FX := Lib.hid (And.intro ((World.cell?_setCell_other V1 ⟨p7, 1, none⟩ ⟨b, o + 18, none⟩ (.int .i64 r.num) (by intro h; simp only [Addr.mk.injEq] at h; have := FX.out.2; omega)).trans FX.out.1) FX.out.2)
  clear zc zf zs M1
  generalize V1.setCell ⟨p7, 1, none⟩ (.int .i64 r.num) = V2 at *
  have zc := cell_of M2.out.e7 2 _ rfl
  have zf := frozen_of M2.out.e7 2
  have zs := cell_of M2.out.e3 2 (.int .i64 r.clock) rfl
  go_upto_region 10 with fail
  have M3 := Lib.hid (M2.out.put 2 (.int .i64 r.clock))
  rw [noteA_put2] at M3
  replace FX := Lib.hid (And.intro ((World.cell?_setCell_other V2 ⟨p7, 2, none⟩ ⟨b, o + 18, none⟩ (.int .i64 r.clock) (by intro h; simp only [Addr.mk.injEq] at h; have := FX.out.2; omega)).trans FX.out.1) FX.out.2)
  clear zc zf zs M2
  generalize V2.setCell ⟨p7, 2, none⟩ (.int .i64 r.clock) = V3 at *
  have zc := cell_of M3.out.e7 4 _ rfl
  have zf := frozen_of M3.out.e7 4
  have zs := FX.out.1
  go_upto_region 11 with fail
  have M4 := Lib.hid (M3.out.put 4 (.int .i64 y.n.fix))
  rw [noteA_put4] at M4
  clear FX
  clear zc zf zs M3
  generalize V3.setCell ⟨p7, 4, none⟩ (.int .i64 y.n.fix) = V4 at *
  have zc := cell_of M4.out.e7 18 _ rfl
  have zf := frozen_of M4.out.e7 18
  go_upto_region 12 with fail
  have M5 := Lib.hid (M4.out.put 18 (.int .i64 0))
  rw [noteA_put18] at M5
  clear zc zf  M4
  generalize V4.setCell ⟨p7, 18, none⟩ (.int .i64 0) = V5 at *
  have z16 := cell_of M5.out.e7 16 (.int .i64 y.n.refH) rfl
  have z17 := cell_of M5.out.e7 17 (.int .i64 y.n.refN) rfl
  have f16 := frozen_of M5.out.e7 16
  have f17 := frozen_of M5.out.e7 17
  go_upto_region 13 with fail
  have M6 := Lib.hid ((M5.out.put 16 (.int .i64 0)).put 17 (.int .i64 0))
  rw [noteA_put16] at M6
  clear z16 z17 f16 f17 M5
  generalize (V5.setCell ⟨p7, 16, none⟩ (.int .i64 0)).setCell ⟨p7, 17, none⟩ (.int .i64 0) = V6 at *
  have c4 := cell_of M6.out.e7 4 (.int .i64 y.n.fix) rfl
  by_cases k2 : y.n.fix = 2
  · have t2 : (y.n.fix == 2) = true := by simp [k2]
    have r16 := cell_of M6.out.e3 16 (.int .i64 r.refH) rfl
    have r17 := cell_of M6.out.e3 17 (.int .i64 r.refN) rfl
    have z16 := cell_of M6.out.e7 16 (.int .i64 0) rfl
    have z17 := cell_of M6.out.e7 17 (.int .i64 0) rfl
    have f16 := frozen_of M6.out.e7 16
    have f17 := frozen_of M6.out.e7 17
    have K2 := Lib.hid k2; clear k2
    go_upto_region 15 with fail
    have M7 := Lib.hid ((M6.out.put 16 (.int .i64 r.refH)).put 17 (.int .i64 r.refN))
    rw [noteA_put16] at M7
    clear z16 z17 f16 f17 r16 r17 c4 t2 M6
    have hq : ({ y.n with house := r.house, num := r.num, clock := r.clock, kind := y.n.fix, fix := 0, refH := r.refH, refN := r.refN } : NoteV) = countN r y.n := by simp [countN, K2.out]
    rw [show noteA _ ja jc = noteA (countN r y.n) ja jc from congrArg (fun z => noteA z ja jc) hq] at M7
    have oneN := noteA_one (countN r y.n) ja jc
    go_wp2_with (first
      | (refine wpList_load_row rfl 51 _ rfl p7 rfl 51 (noteA (countN r y.n) ja jc) (0, 0) _ M7.out.e7 Tryz.underlying51 rfl (I43.out _ _ _) ?_)
      | (refine wpList_store_rowN rfl 51 _ _ rfl p4 (noteA zeroN none 0) (noteA (countN r y.n) ja jc) 51 rfl rfl M7.out.e4 (I43.out _ _ _) rfl oneN ?_))
    go_wp2_with fail
    have hr := setRow_at ((V6.setCell ⟨p7, 16, none⟩ (.int .i64 r.refH)).setCell ⟨p7, 17, none⟩ (.int .i64 r.refN)) p4 _ (noteA (countN r y.n) ja jc) _ _ M7.out.e4
    have G4 := setRow_grown ((V6.setCell ⟨p7, 16, none⟩ (.int .i64 r.refH)).setCell ⟨p7, 17, none⟩ (.int .i64 r.refN)) p4 (noteA (countN r y.n) ja jc)
    refine bodyPost_ret (results_cell_row_tmp rfl _ _ p4 51 (noteA (countN r y.n) ja jc) (0, 0) _ rfl hr Tryz.underlying51 rfl (I43.out _ _ _)) rfl ?_
    exact ⟨⟨_, true, rfl, .inr ⟨countN r y.n, ja, jc, HV.out, rfl, rfl, M7.out.own.kept G4 (.inr (own_no M7.out.own M7.out.e4 (fun cur h => by simp at h)).symm)⟩⟩, M7.out.bel.grown G4 M7.out.bel.size (fun q hq => by cases hq; exact LT.out.1)⟩
  · have t2 : (y.n.fix == 2) = false := by simp [k2]
    have hq : ({ y.n with house := r.house, num := r.num, clock := r.clock, kind := y.n.fix, fix := 0, refH := 0, refN := 0 } : NoteV) = countN r y.n := by simp [countN, k2]
    rw [show noteA _ ja jc = noteA (countN r y.n) ja jc from congrArg (fun z => noteA z ja jc) hq] at M6
    clear k2 hq
    have oneN := noteA_one (countN r y.n) ja jc
    go_wp2_with (first
      | (refine wpList_load_row rfl 51 _ rfl p7 rfl 51 (noteA (countN r y.n) ja jc) (0, 0) _ M6.out.e7 Tryz.underlying51 rfl (I43.out _ _ _) ?_)
      | (refine wpList_store_rowN rfl 51 _ _ rfl p4 (noteA zeroN none 0) (noteA (countN r y.n) ja jc) 51 rfl rfl M6.out.e4 (I43.out _ _ _) rfl oneN ?_))
    go_wp2_with fail
    have hr := setRow_at V6 p4 _ (noteA (countN r y.n) ja jc) _ _ M6.out.e4
    have G4 := setRow_grown V6 p4 (noteA (countN r y.n) ja jc)
    refine bodyPost_ret (results_cell_row_tmp rfl _ _ p4 51 (noteA (countN r y.n) ja jc) (0, 0) _ rfl hr Tryz.underlying51 rfl (I43.out _ _ _)) rfl ?_
    exact ⟨⟨_, true, rfl, .inr ⟨countN r y.n, ja, jc, HV.out, rfl, rfl, M6.out.own.kept G4 (.inr (own_no M6.out.own M6.out.e4 (fun cur h => by simp at h)).symm)⟩⟩, M6.out.bel.grown G4 M6.out.bel.size (fun q hq => by cases hq; exact LT.out.1)⟩
end Go.Proofs.YtpjiakgfegnmcaaGreat
namespace Go.Proofs.YtpjiakgfegnmcaaGreat
set_option linter.unusedSimpArgs false
open Go.RowKit

theorem flat_take (k : Nat) : ∀ (rows : List (List Value)), (∀ r ∈ rows, r.length = k) → ∀ q, rows.flatten.take (q * k) = (rows.take q).flatten
  | [], _, q => by simp
  | r :: rows, h, 0 => by simp
  | r :: rows, h, q + 1 => by
    have hr := h r (List.mem_cons_self ..)
    rw [List.flatten_cons, List.take_append, hr, List.take_of_length_le (by rw [hr, Nat.add_mul]; omega), show (q + 1) * k - k = q * k by rw [Nat.add_mul]; omega, flat_take k rows (fun x hx => h x (List.mem_cons_of_mem _ hx)) q]
    rfl
theorem flat_drop (k : Nat) : ∀ (rows : List (List Value)), (∀ r ∈ rows, r.length = k) → ∀ q, rows.flatten.drop (q * k) = (rows.drop q).flatten
  | [], _, q => by simp
  | r :: rows, h, 0 => by simp
  | r :: rows, h, q + 1 => by
    have hr := h r (List.mem_cons_self ..)
    rw [List.flatten_cons, List.drop_append, hr, List.drop_of_length_le (by rw [hr, Nat.add_mul]; omega), show (q + 1) * k - k = q * k by rw [Nat.add_mul]; omega, flat_drop k rows (fun x hx => h x (List.mem_cons_of_mem _ hx)) q]
    rfl
theorem evRows (es : List EvV) : ∀ r ∈ es.map EvV.cells, r.length = 21 := by
  intro r hr; obtain ⟨e, _, rfl⟩ := List.mem_map.1 hr; rfl
theorem evCells_drop (es : List EvV) (q : Nat) : (evCells es).drop (q * 21) = evCells (es.drop q) := by
  rw [evCells, flat_drop 21 _ (evRows es), ← List.map_drop]; rfl
theorem cutR_eq {w : World} {t e : TypeId} {i : TypeInfo} {k : Nat} (ht : Tryz.prog.underlying t = some (.slice e)) (hi' : Tryz.prog.info? e = some i) (hz1 : i.size = k) {xa : Option Addr} {n c : Nat} {xs : List Value} (hrd : RdA w k xa n c xs) (L H : Nat) (lo hi : Option Value)
    (hl : (lo = none ∧ L = 0) ∨ ∃ kd, lo = some (.int kd (L : Int))) (hh : (hi = none ∧ H = n) ∨ ∃ kd, hi = some (.int kd (H : Int))) (h1 : L ≤ H) (h2 : H ≤ n) :
    ∃ a', (∀ W, (Instr.sliceAt t (.slice xa n c) lo hi none).run Tryz.prog W = .ok (.slice a' (H - L) (c - L)) W) ∧ RdA w k a' (H - L) (c - L) ((xs.drop (L * k)).take ((H - L) * k)) := by
  obtain ⟨a', hs, hr⟩ := RdA.sliced hrd L H h1 h2
  have hnc := hrd.2.1
  refine ⟨a', fun W => ?_, hr⟩
  rw [← hs]
  have hel : Tryz.prog.elem t = e := by simp [Program.elem, ht]
  rw [run_sliceAt_slice (P := Tryz.prog) W t _ _ _ _ (by rw [hel]; exact ht), run_slice_any (P := Tryz.prog) W t xa n c (by rw [hel]; exact ht)]
  have hb : (Instr.sliceBounds true n c lo hi none).run Tryz.prog W = .ok (L, H, c) W := by
    rcases hl with ⟨rfl, rfl⟩ | ⟨kd, rfl⟩ <;> rcases hh with ⟨rfl, rfl⟩ | ⟨kd', rfl⟩
    · simp [Instr.sliceBounds]
    · simp [Instr.sliceBounds, run_sliceBound, Result.andThen, (by omega : H ≤ c)]
    · simp [Instr.sliceBounds, run_sliceBound, Result.andThen, h1]
    · simp [Instr.sliceBounds, run_sliceBound, Result.andThen, (by omega : H ≤ c), h1]
  rw [hb, hel]
  simp [Result.andThen, sizeOf, typeInfo, hi', hz1]
theorem info_ev : ∃ i, Tryz.prog.info? 53 = some i ∧ i.size = 21 := by
  obtain ⟨i, hi, _, hz1, _⟩ := info_parts infoEv
  exact ⟨i, hi, hz1⟩
structure EvSt (w W : World) (a : Option Addr) (n c : Nat) (es : List EvV) (l : List NoteV) (k : Nat) : Prop where
  bel : Below w.heap.size w W
  own : W.ownsRow w.heap.size 53 21 (.slice a n c) n (evCells es)
  str : ∀ e ∈ es, W.ownsRow w.heap.size 3 1 (.slice e.x.sa e.x.n.strokes.length e.x.sc) e.x.n.strokes.length (e.x.n.strokes.map intV)
  ev : es.map (fun e => e.x.n) = evTo l k
  nm : ∀ e ∈ es, e.nm = nmOf e.x.n
theorem EvSt.below {w W W' : World} {a : Option Addr} {n c : Nat} {es : List EvV} {l : List NoteV} {k : Nat} (h : EvSt w W a n c es l k) (hb : Below W.heap.size W W') : EvSt w W' a n c es l k :=
  ⟨h.bel.trans (hb.mono h.bel.size), own_below h.own hb, fun e he => own_below (h.str e he) hb, h.ev, h.nm⟩
theorem EvSt.rd {w W : World} {a : Option Addr} {n c : Nat} {es : List EvV} {l : List NoteV} {k : Nat} (h : EvSt w W a n c es l k) : RdA W 21 a n c (evCells es) := RdA.of_own h.own
theorem EvSt.ok {w W : World} {a : Option Addr} {n c : Nat} {es : List EvV} {l : List NoteV} {k : Nat} (h : EvSt w W a n c es l k) : ∀ e ∈ es, e.x.ok W := fun e he => RdA.of_own (h.str e he)
theorem EvSt.start (w : World) (l : List NoteV) : EvSt w w none 0 0 [] l 0 := ⟨Below.refl _ _, World.ownsRow_nil _ _ _ _, fun e h => by simp at h, rfl, fun e h => by simp at h⟩
theorem EvSt.len {w W : World} {a : Option Addr} {n c : Nat} {es : List EvV} {l : List NoteV} {k : Nat} (h : EvSt w W a n c es l k) : es.length = n ∧ n ≤ k := by
  have h1 := h.rd.len
  rw [evCells_len] at h1
  have h2 := congrArg List.length h.ev
  rw [List.length_map] at h2
  have h3 := evTo_len l k
  omega
theorem EvSt.skip {w W : World} {a : Option Addr} {n c : Nat} {es : List EvV} {l : List NoteV} {k : Nat} {x : NoteV} (h : EvSt w W a n c es l k) (hx : l[k]? = some x) (hc : countP l x = none) : EvSt w W a n c es l (k + 1) :=
  ⟨h.bel, h.own, h.str, by rw [evTo_none hx hc]; exact h.ev, h.nm⟩
def EvRet (w W : World) (l : List NoteV) (e : Ending) : Prop := ∃ oa on oc es, e = .returned (.slice oa on oc) ∧ EvSt w W oa on oc es l l.length
def putIn (es : List EvV) (q : Nat) (e : EvV) : List EvV := es.take q ++ (e :: es.drop q)
theorem putIn_ev {es : List EvV} {l : List NoteV} {k q : Nat} {x n : NoteV} {sa : Option Addr} {sc : Nat} (h : es.map (fun e => e.x.n) = evTo l k) (hx : l[k]? = some x) (hc : countP l x = some n) (hq : q ≤ es.length) (h1 : ∀ j y, j < q → es[j]? = some y → whenC y.x.n n < 0) (h2 : ∀ y, es[q]? = some y → ¬ whenC y.x.n n < 0) :
    (putIn es q ⟨nmOf n, ⟨n, sa, sc⟩⟩).map (fun e => e.x.n) = evTo l (k + 1) := by
  rw [evTo_some hx hc, ← h, insP_at n _ q (by rw [List.length_map]; exact hq) (fun j y hj hy => ?_) (fun y hy => ?_)]
  · simp [putIn, List.map_take, List.map_drop]
  · rw [List.getElem?_map] at hy
    cases hz : es[j]? with
    | none => rw [hz] at hy; cases hy
    | some z => rw [hz] at hy; cases hy; exact h1 j z hj hz
  · rw [List.getElem?_map] at hy
    cases hz : es[q]? with
    | none => rw [hz] at hy; cases hy
    | some z => rw [hz] at hy; cases hy; exact h2 z hz
theorem mem_putIn {es : List EvV} {q : Nat} {e y : EvV} (h : y ∈ putIn es q e) : y = e ∨ y ∈ es := by
  unfold putIn at h
  rcases List.mem_append.1 h with h | h
  · exact .inr (List.mem_of_mem_take h)
  · rcases List.mem_cons.1 h with h | h
    · exact .inl h
    · exact .inr (List.mem_of_mem_drop h)
theorem putIn_cells (es : List EvV) (q : Nat) (e : EvV) : evCells (es.take q) ++ e.cells ++ evCells (es.drop q) = evCells (putIn es q e) := by
  simp [putIn, evCells]

set_option maxHeartbeats 16000000 in
set_option maxRecDepth 100000 in
theorem revents_any (l : List NoteV) (a : Option Addr) (nn nc : Nat) (w : World) (hr : RdNs w a nn nc l) (hk : ∀ x ∈ l, 1 ≤ x.kind ∧ x.kind ≤ 6) (hst : ∀ x ∈ l, x.strokes.length ≤ 1000000) (hlen : nn ≤ 1000) :
    Calls Tryz.prog 74 #[.slice a nn nc] w fun e w' => EvRet w w' l e ∧ Below w.heap.size w w' := by
  have I43 := Lib.hid (show ∀ (m : NoteV) (a : Option Addr) (c : Nat), (Tryz.prog.info? 51).map (·.size) = some (noteA m a c).size from fun m a c => by kernel_rfl)
  have J19 : (Tryz.prog.info? 51).map (·.size) = some 19 := by kernel_rfl
  have J21 : (Tryz.prog.info? 53).map (·.size) = some 21 := by kernel_rfl
  have hn63 : nn ≤ 9223372036854775807 := by omega
  obtain ⟨xs, hxs, hrl⟩ := hr.choose
  have RL := Lib.hid hrl
  have HXS := Lib.hid hxs
  have LNX := Lib.hid hrl.1
  have HLN := Lib.hid hr.1
  have RN := Lib.hid hr
  have HNN := Lib.hid hlen
  have CC := Lib.hid (fun (r : NoteV) (ta : Option Addr) (tc : Nat) (W : World) (hb : Below w.heap.size w W) h1 h2 => rcounted_any l a nn nc r ta tc W (hr.below hb) hk hst h1 h2)
  have HST := Lib.hid hst
  clear hr hk hst hxs hrl
  go_enter Tryz.func74, Tryz.ntmps74
  go_wp2_with fail
  go_loopw [3, 4] (fun ov i wr => ∃ (k : Nat) (oa : Option Addr) (on oc : Nat) (es : List EvV), ov = .slice oa on oc ∧ i = .int .i64 (k : Int) ∧ k ≤ nn ∧ Hid (EvSt w wr oa on oc es l k)) (fun _ i _ => nn - (intOf i).toNat)
  case atStart => exact ⟨0, none, 0, 0, [], rfl, rfl, Nat.zero_le _, Lib.hid (EvSt.start w l)⟩
  case round =>
    obtain ⟨k, oa, on, oc, es, rfl, rfl, hk, ST⟩ := hrel
    by_cases hlt : k < nn
    · have t0 : decide ((k : Int) < (nn : Int)) = true := by simp; omega
      obtain ⟨x, Hx⟩ : ∃ x, xs[k]? = some x := ⟨_, List.getElem?_eq_getElem (by rw [LNX.out]; exact hlt)⟩
      have HLX := Lib.hid (show l[k]? = some x.n by rw [← HXS.out, List.getElem?_map, Hx]; rfl)
      obtain ⟨b, off, rfl, hat⟩ := (RL.out.below ST.out.bel).at (by omega)
      obtain ⟨o, ho⟩ : ∃ o, Hid (off + k * 19 = o) := ⟨_, Lib.hid rfl⟩
      have HX := Lib.hid (hat k x Hx).1
      have HXO := Lib.hid (hat k x Hx).2
      rw [ho.out] at HX
      have hix := fun W => idx_off (W := W) (c := nc) (b := b) Tryz.underlying43 J19 hlt ho.out
      have hk64 : (k : Int) + 1 ≤ 9223372036854775807 := by omega
      have XST := Lib.hid (HST.out x.n (List.mem_of_getElem? HLX.out))
      clear hat Hx
      go_wp2_with (refine wpList_load_mid rfl 51 _ rfl b o rfl (x.n.cells x.sa x.sc) _ HX.out Tryz.underlying51 rfl (size43 x.n x.sa x.sc) ?_)
      refine (plain_any x.n x.sa x.sc wr).mono ?_
      rintro e W1 ⟨rfl, b1⟩
      replace ST := Lib.hid (ST.out.below b1)
      replace HX := Lib.hid (rangeAt_below HX.out b1)
      replace HXO := Lib.hid (HXO.out.below b1)
      clear b1
      cases hd : doneB x.n
      · have HC := Lib.hid (show countP l x.n = none by unfold countP; rw [if_neg (by rw [hd]; decide)])
        clear hd
        go_wp2_with fail
        go_roundw
        case rel => exact ⟨k + 1, oa, on, oc, es, by go_num, by go_num, by omega, Lib.hid (ST.out.skip HLX.out HC.out)⟩
        case measure => simp [intOf]; omega
      have CV := Lib.hid (cntV_eq (l := l) hd)
      clear hd
      go_wp2_with (refine wpList_load_mid rfl 51 _ rfl b o rfl (x.n.cells x.sa x.sc) _ HX.out Tryz.underlying51 rfl (size43 x.n x.sa x.sc) ?_)
      refine (CC.out x.n x.sa x.sc W1 ST.out.bel HXO.out XST.out).mono ?_
      rintro e W2 ⟨⟨v, bb, rfl, hv⟩, b2⟩
      have W1S := Lib.hid ST.out.bel.size
      replace ST := Lib.hid (ST.out.below b2)
      clear b2
      rcases hv with ⟨hc, rfl, rfl⟩ | ⟨n, ta, tc, hc, rfl, rfl, how⟩
      · have HC := Lib.hid (CV.out.trans hc)
        clear hc
        go_upto_region 7 with (refine wpList_store_newp W2 rfl 51 _ _ rfl W2.heap.size rfl _ (noteA zeroN none 0) rfl rfl (I43.out _ _ _) rfl (noteA_one zeroN none 0) ?_)
        have b3 : Below W2.heap.size W2 (W2.alloc (.cells (noteA zeroN none 0) 51)) := (Below.refl _ _).alloc (Nat.le_refl _) _
        replace ST := Lib.hid (ST.out.below b3)
        clear b3
        generalize W2.alloc (.cells (noteA zeroN none 0) 51) = W3 at *
        go_wp2_with fail
        go_roundw
        case rel => exact ⟨k + 1, oa, on, oc, es, by go_num, by go_num, by omega, Lib.hid (ST.out.skip HLX.out HC.out)⟩
        case measure => simp [intOf]; omega
      have HC := Lib.hid (CV.out.trans hc)
      have HOW := Lib.hid (own_mono how W1S.out)
      clear hc how hix HX HXO
      go_upto_region 7 with (refine wpList_store_newp W2 rfl 51 _ _ rfl W2.heap.size rfl _ (noteA n ta tc) rfl rfl (I43.out _ _ _) rfl (noteA_one n ta tc) ?_)
      have b3 : Below W2.heap.size W2 (W2.alloc (.cells (noteA n ta tc) 51)) := (Below.refl _ _).alloc (Nat.le_refl _) _
      replace ST := Lib.hid (ST.out.below b3)
      have NB := Lib.hid (heap_last W2 (.cells (noteA n ta tc) 51))
      replace HOW := Lib.hid (own_below HOW.out b3)
      clear b3
      obtain ⟨p5, hp5⟩ : ∃ p, Hid (W2.heap.size = p) := ⟨_, Lib.hid rfl⟩
      rw [hp5.out] at NB ⊢
      generalize W2.alloc (.cells (noteA n ta tc) 51) = W3 at *
      have LEN := Lib.hid ST.out.len
      have hon : on ≤ 9223372036854775807 := by have := LEN.out.2; omega
      go_wp2_with fail
      go_loopw [7] (fun qv wr2 => ∃ q : Nat, qv = .int .i64 (q : Int) ∧ q ≤ on ∧ Hid (∀ j y, j < q → es[j]? = some y → whenC y.x.n n < 0) ∧ Hid (Below W3.heap.size W3 wr2)) (fun qv _ => on - (intOf qv).toNat)
      case atStart => exact ⟨0, rfl, Nat.zero_le _, Lib.hid (fun j y h => by omega), Lib.hid (Below.refl _ _)⟩
      case round =>
        obtain ⟨q, rfl, hq, HJ, BQ⟩ := hrel
        have hq64 : (q : Int) + 1 ≤ 9223372036854775807 := by have h1 := LEN.out.2; have h2 := HNN.out; omega
        have hC0 : Below wr.heap.size wr wr.drew := (Below.refl _ _).drew
        by_cases hql : q < on
        · have HT0 : Hid (decide ((q : Int) < (on : Int)) = true) := Lib.hid (by simp; omega)
          obtain ⟨y, Hy⟩ : ∃ y, es[q]? = some y := ⟨_, List.getElem?_eq_getElem (by rw [LEN.out.1]; exact hql)⟩
          have HY := Lib.hid Hy
          obtain ⟨be, eo, rfl, hat⟩ := (RdEs.of_rd (ST.out.rd.below BQ.out)).at (by omega)
          obtain ⟨oy, hoy⟩ : ∃ o, Hid (eo + q * 21 = o) := ⟨_, Lib.hid rfl⟩
          have HYA := Lib.hid (hat q y Hy)
          rw [hoy.out] at HYA
          have HIY := Lib.hid (fun W => idx_off (W := W) (c := oc) (b := be) Tryz.underlying24 J21 hql hoy.out)
          have LY := Lib.hid (show ∀ w0, Below wr.heap.size wr w0 → w0.rangeAt be (oy + 2) (y.x.n.cells y.x.sa y.x.sc) from fun w0 h => rangeAt_below (ev_rangeN HYA.out) h)
          have LN5 := Lib.hid (show ∀ w0, Below wr.heap.size wr w0 → w0.rangeAt p5 0 (n.cells ta tc) from fun w0 h => blk_note2 (below_blk h (below_blk BQ.out NB.out)))
          clear hat Hy
          go_upto_region 9 with fail
          try simp only [Act.put, lq3, lq4, lq5]
          refine wp_region_quiet (C := fun w' : World => Below wr.heap.size wr w') (by kernel_rfl) (by kernel_rfl) hC0 ?_
          show wpQuiet _ _ _ _ (_ :: _) _
          go_big_quiet_want
          go_big_quiet_op
          go_big_quiet_on
          go_big_quiet_want
          go_big_quiet_op
          go_big_quiet_on
          go_big_quiet_want
          refine ⟨.int .i64 (on : Int), fun w0 hC => ?_, ?_⟩
          · clear hC
            go_simp
          simp only [Act.put, lq3, lq4, lq5]
          go_big_quiet_on
          go_big_quiet_want
          refine ⟨.bool true, fun w0 hC => ?_, ?_⟩
          · have h0 := HT0.out
            clear hC
            go_simp
          simp only [Act.put, lq3, lq4, lq5]
          go_big_quiet_on
          go_big_quiet_want
          go_big_quiet_op
          go_big_quiet_on
          go_big_quiet_want
          go_big_quiet_op
          go_big_quiet_on
          go_big_quiet_want
          go_big_quiet_op
          go_big_quiet_on
          go_big_quiet_want
          refine ⟨.pointer (some ⟨be, oy, none⟩), fun w0 hC => ?_, ?_⟩
          · have hix := HIY.out w0
            clear hC
            go_simp
          simp only [Act.put, lq3, lq4, lq5]
          go_big_quiet_on
          go_big_quiet_want
          refine ⟨.pointer (some ⟨be, oy + 2, none⟩), fun w0 hC => ?_, ?_⟩
          · clear hC
            go_simp
          simp only [Act.put, lq3, lq4, lq5]
          go_big_quiet_on
          go_big_quiet_want
          refine ⟨.agg (noteA y.x.n y.x.sa y.x.sc), fun w0 hC => quiet_load_note (.tmp 40) rfl be (oy + 2) rfl y.x.n y.x.sa y.x.sc (LY.out w0 hC), ?_⟩
          simp only [Act.put, lq3, lq4, lq5]
          go_big_quiet_on
          go_big_quiet_want
          refine ⟨.agg (noteA n ta tc), fun w0 hC => quiet_load_note (.tmp 5) rfl p5 0 rfl n ta tc (LN5.out w0 hC), ?_⟩
          simp only [Act.put, lq3, lq4, lq5]
          go_big_quiet_on
          go_big_quiet_want
          refine ⟨.bool (decide (whenC y.x.n n < 0)), fun w0 hC => ?_, ?_⟩
          · go_simp
            refine (rbefore_any y.x.n n y.x.sa y.x.sc ta tc w0).mono ?_
            rintro e w1 ⟨rfl, b1⟩
            exact ⟨rfl, hC.trans (b1.mono hC.size)⟩
          simp only [Act.put, lq3, lq4, lq5]
          go_big_quiet_on
          cases hw : decide (whenC y.x.n n < 0)
          · go_big_quiet_want
            refine ⟨.bool false, fun w0 hC => ?_, ?_⟩
            · clear hC
              go_simp
            simp only [Act.put, lq3, lq4, lq5]
            go_big_quiet_on
            refine wpQuiet_nil ?_
            intro wq hC
            have QN : Hid (∀ y, es[q]? = some y → ¬ whenC y.x.n n < 0) := Lib.hid (fun z hz => by rw [HY.out] at hz; cases hz; exact of_decide_eq_false hw)
            have BQ2 := Lib.hid (BQ.out.trans (hC.mono BQ.out.size))
            clear hC hw LY LN5 HYA BQ HT0
            replace ST := Lib.hid (ST.out.below BQ2.out)
            replace NB := Lib.hid (below_blk BQ2.out NB.out)
            replace HOW := Lib.hid (own_below HOW.out BQ2.out)
            have QL : Hid (q ≤ on) := Lib.hid (by omega)
            obtain ⟨ia, hi1, hi2⟩ := info_ev
            obtain ⟨a1, hcut1, hrd1⟩ := cutR_eq Tryz.underlying24 hi1 hi2 ST.out.rd 0 q none (some (.int .i64 (q : Int))) (.inl ⟨rfl, rfl⟩) (.inr ⟨_, rfl⟩) (Nat.zero_le _) QL.out
            simp only [Nat.zero_mul, List.drop_zero, Nat.sub_zero, evCells_take] at hcut1 hrd1
            have hbe : Below wq.heap.size wq (wq.alloc (.cells #[] 53)) := (Below.refl _ _).alloc (Nat.le_refl _) _
            have o0 := World.ownsRow_lit (base := wq.heap.size) (e := 53) (size := 21) wq #[] 0 (Nat.le_refl _) (by unfold maxLen; omega) rfl
            obtain ⟨a2, c2, w2, hrun, ho2, hg2, _⟩ := run_app_ev (wq.alloc (.cells #[] 53)) wq.heap.size _ 0 0 _ o0 a1 q oc _ (hrd1.below hbe) (evCells_one _) (by have := HNN.out; have := LEN.out.2; omega) hbe.size
            have hb2 : Below wq.heap.size wq w2 := hbe.grown hg2 hbe.size (fun k hk => (o0.lt k hk).1)
            rw [Nat.zero_add] at hrun ho2
            have O2 : Hid (w2.ownsRow wq.heap.size 53 21 (.slice a2 q c2) q (evCells (es.take q))) := Lib.hid (by simpa using ho2)
            have B2 := Lib.hid hb2
            clear hbe o0 ho2 hg2 hb2 hrd1 hi1 hi2
            go_upto_region 12 with (first
              | (refine wpList_append_eq rfl _ _ _ rfl _ _ _ rfl rfl hrun ?_)
              | fail)
            clear hrun hcut1
            try simp only [Act.put, lq3, lq4, lq5]
            have N2 := Lib.hid (below_blk B2.out NB.out)
            refine wp_region_noPanic ?_
            refine wp_region_held_drew (S := fun w' => w'.heap[p5]? = some (.cells (noteA n ta tc) 51 (0, 0))) (by kernel_rfl) (show w2.drew.heap[p5]? = _ from N2.out) (fun hHeld => ?_)
            have bd := (Below.refl w2.heap.size w2).drew
            replace O2 := Lib.hid (own_below O2.out bd)
            replace N2 := Lib.hid (below_blk bd N2.out)
            replace B2 := Lib.hid (B2.out.trans (bd.mono B2.out.size))
            clear bd
            generalize w2.drew = v2 at *
            refine wpAnyH_take (i := 0) (v := .slice a2 q c2) rfl (by kernel_rfl) (by kernel_rfl) (by kernel_rfl) (fun _ _ _ h => h) (Or.inl ⟨by kernel_rfl, by intro W _; go_simp⟩) (by assumption) ?_
            try simp only [Act.put, lq0, lq1, lq2, lq3, lq4, lq5]
            refine wpAnyH_take (i := 1) (v := .agg (noteA n ta tc)) rfl (by kernel_rfl) (by kernel_rfl) (by kernel_rfl) (fun _ _ _ h => h) (yields_row (by kernel_rfl) 51 _ rfl p5 rfl _ 51 (0, 0) _ (fun W h => h) Tryz.underlying51 rfl (I43.out _ _ _)) (by assumption) ?_
            try simp only [Act.put, lq0, lq1, lq2, lq3, lq4, lq5]
            refine wpAnyH_take (i := 3) (v := .agg (noteA n ta tc)) rfl (by kernel_rfl) (by kernel_rfl) (by kernel_rfl) (fun _ _ _ h => h) (yields_row (by kernel_rfl) 51 _ rfl p5 rfl _ 51 (0, 0) _ (fun W h => h) Tryz.underlying51 rfl (I43.out _ _ _)) (by assumption) ?_
            try simp only [Act.put, lq0, lq1, lq2, lq3, lq4, lq5]
            refine wpAnyH_ready (rs := [2]) (by kernel_rfl) (by simp) ?_
            refine AllReadyH.cons rfl (fun K hK => ?_) AllReadyH.nil
            go_simp
            refine (rNameOf_any n ta tc v2).mono ?_
            rintro e v3 ⟨rfl, b3⟩
            replace O2 := Lib.hid (own_below O2.out b3)
            replace N2 := Lib.hid (below_blk b3 N2.out)
            replace B2 := Lib.hid (B2.out.trans (b3.mono B2.out.size))
            clear b3
            refine hK.out _ _ N2.out (fun hHeld => ?_)
            clear hK K
            try simp only [Act.put, lq0, lq1, lq2, lq3, lq4, lq5]
            refine wpAnyH_take (i := 4) (v := .agg (evA ⟨nmOf n, ⟨n, ta, tc⟩⟩)) rfl (by kernel_rfl) (by kernel_rfl) (by kernel_rfl) (fun _ _ _ h => h) (Or.inl ⟨by kernel_rfl, by intro W h; clear h; go_simp; kernel_rfl⟩) (by assumption) ?_
            try simp only [Act.put, lq0, lq1, lq2, lq3, lq4, lq5]
            refine wpAnyH_ready (rs := [5]) (by kernel_rfl) (by simp) ?_
            refine AllReadyH.cons rfl (fun K hK => ?_) AllReadyH.nil
            have bn : Below v3.heap.size v3 (v3.alloc (.cells (evA ⟨nmOf n, ⟨n, ta, tc⟩⟩) 53)) := (Below.refl _ _).alloc (Nat.le_refl _) _
            have LE := Lib.hid (lit_ev v3 ⟨nmOf n, ⟨n, ta, tc⟩⟩)
            replace O2 := Lib.hid (own_below O2.out bn)
            replace N2 := Lib.hid (below_blk bn N2.out)
            replace B2 := Lib.hid (B2.out.trans (bn.mono B2.out.size))
            clear bn
            refine oper_build_ev _ rfl ⟨nmOf n, ⟨n, ta, tc⟩⟩ rfl ?_
            obtain ⟨p6, hp6⟩ : ∃ p, Hid (v3.heap.size = p) := ⟨_, Lib.hid rfl⟩
            rw [hp6.out] at LE ⊢
            generalize v3.alloc (.cells (evA ⟨nmOf n, ⟨n, ta, tc⟩⟩) 53) = v4 at *
            refine hK.out _ _ N2.out (fun hHeld => ?_)
            clear hK K
            try simp only [Act.put, lq0, lq1, lq2, lq3, lq4, lq5]
            refine wpAnyH_ready (rs := [6]) (by kernel_rfl) (by simp) ?_
            refine AllReadyH.cons rfl (fun K hK => ?_) AllReadyH.nil
            obtain ⟨a4, c4, v5, hrun, ho, hg, _⟩ := run_app_ev v4 wq.heap.size a2 q c2 _ O2.out _ 1 1 _ LE.out (evA_one _) (by have := HNN.out; have := LEN.out.2; have := QL.out; omega) B2.out.size
            have O4 := Lib.hid ho
            have N4 := Lib.hid (grown_blk hg N2.out (own_no O2.out N2.out (fun cur h => by simp at h)))
            have B4 := Lib.hid (B2.out.grown hg B2.out.size (fun k hk => (O2.out.lt k hk).1))
            clear ho hg
            rw [if_pos (by kernel_rfl)]
            refine oper_append _ _ _ rfl _ _ _ rfl rfl hrun ?_
            clear hrun O2 LE
            refine hK.out _ _ N4.out (fun hHeld => ?_)
            clear hK K
            try simp only [Act.put, lq0, lq1, lq2, lq3, lq4, lq5]
            refine wpAnyH_take (i := 7) (oi := { dst := some 8, op := .assign (.tmp 58), type := _, pos := _, after := _, guard := none }) (v := .slice a4 (q + 1) c4) rfl (by kernel_rfl) (by kernel_rfl) (by kernel_rfl) (fun _ _ _ h => h) (Or.inl ⟨by kernel_rfl, by intro W _; go_simp⟩) (by assumption) ?_
            try simp only [Act.put, lq0, lq1, lq2, lq3, lq4, lq5]
            refine wpAnyH_done (by kernel_rfl) ?_ _
            refine NoPanic.normal ?_
            clear N2 N4 B2
            have ST5 := Lib.hid (ST.out.below B4.out)
            obtain ⟨ia, hi1, hi2⟩ := info_ev
            obtain ⟨a6, hcut2, hrd2⟩ := cutR_eq Tryz.underlying24 hi1 hi2 ST5.out.rd q on (some (.int .i64 (q : Int))) none (.inr ⟨_, rfl⟩) (.inl ⟨rfl, rfl⟩) QL.out (Nat.le_refl _)
            rw [evCells_drop, List.take_of_length_le (by rw [evCells_len, List.length_drop, LEN.out.1]; exact Nat.le_refl _)] at hrd2
            obtain ⟨a7, c7, w7, hrun, ho, hg, _⟩ := run_app_ev v5 wq.heap.size a4 (q + 1) c4 _ O4.out a6 (on - q) (oc - q) _ hrd2 (evCells_one _) (by have := HNN.out; have := LEN.out.2; have := QL.out; omega) B4.out.size
            have B7 := Lib.hid (B4.out.grown hg B4.out.size (fun k hk => (O4.out.lt k hk).1))
            have SN : Hid (EvSt w w7 a7 (q + 1 + (on - q)) c7 (putIn es q ⟨nmOf n, ⟨n, ta, tc⟩⟩) l (k + 1)) := Lib.hid ⟨ST.out.bel.trans (B7.out.mono ST.out.bel.size), by rw [← putIn_cells]; exact own_mono ho ST.out.bel.size, fun e he => by
              rcases mem_putIn he with rfl | he
              · exact own_below HOW.out B7.out
              · exact own_below (ST.out.str e he) B7.out, putIn_ev ST.out.ev HLX.out HC.out (by rw [LEN.out.1]; exact QL.out) HJ.out QN.out, fun e he => by
              rcases mem_putIn he with rfl | he
              · rfl
              · exact ST.out.nm e he⟩
            clear ho hg hi1 hi2 hrd2 O4 ST5 B4
            go_upto_region 4 with (first
              | (refine wpList_append_eq rfl _ _ _ rfl _ _ _ rfl rfl hrun ?_)
              | fail)
            clear hrun hcut2
            go_wp2_with fail
            go_roundw
            case rel => exact ⟨k + 1, a7, q + 1 + (on - q), c7, putIn es q ⟨nmOf n, ⟨n, ta, tc⟩⟩, by go_num, by go_num, by omega, SN⟩
            case measure => simp [intOf]; omega
          · go_big_quiet_want
            refine ⟨.bool true, fun w0 hC => ?_, ?_⟩
            · clear hC
              go_simp
            simp only [Act.put, lq3, lq4, lq5]
            go_big_quiet_on
            refine wpQuiet_nil ?_
            intro w' hC
            have BQ2 := Lib.hid (BQ.out.trans (hC.mono BQ.out.size))
            have WT := Lib.hid (of_decide_eq_true hw)
            clear hC hw
            go_wp2_with fail
            go_roundw
            case rel => exact ⟨q + 1, by go_num, by omega, Lib.hid (fun i z hi hz => by
              rcases Nat.lt_or_ge i q with h' | h'
              · exact HJ.out i z h' hz
              · have e : i = q := by omega
                subst e
                rw [HY.out] at hz
                cases hz
                exact WT.out), BQ2⟩
            case measure => simp [intOf]; omega
        · have HT0 : Hid (decide ((q : Int) < (on : Int)) = false) := Lib.hid (by simp; omega)
          go_upto_region 9 with fail
          try simp only [Act.put, lq3, lq4, lq5]
          refine wp_region_quiet (C := fun w' : World => Below wr.heap.size wr w') (by kernel_rfl) (by kernel_rfl) hC0 ?_
          show wpQuiet _ _ _ _ (_ :: _) _
          go_big_quiet_want
          go_big_quiet_op
          go_big_quiet_on
          go_big_quiet_want
          go_big_quiet_op
          go_big_quiet_on
          go_big_quiet_want
          refine ⟨.int .i64 (on : Int), fun w0 hC => ?_, ?_⟩
          · clear hC
            go_simp
          simp only [Act.put, lq3, lq4, lq5]
          go_big_quiet_on
          go_big_quiet_want
          refine ⟨.bool false, fun w0 hC => ?_, ?_⟩
          · have h0 := HT0.out
            clear hC
            go_simp
          simp only [Act.put, lq3, lq4, lq5]
          go_big_quiet_on
          go_big_quiet_want
          go_big_quiet_op
          go_big_quiet_on
          go_big_quiet_skip
          go_big_quiet_skip
          go_big_quiet_skip
          go_big_quiet_skip
          go_big_quiet_skip
          go_big_quiet_skip
          go_big_quiet_skip
          go_big_quiet_want
          refine ⟨.bool false, fun w0 hC => ?_, ?_⟩
          · clear hC
            go_simp
          simp only [Act.put, lq3, lq4, lq5]
          go_big_quiet_on
          refine wpQuiet_nil ?_
          intro wq hC
          have QN : Hid (∀ y, es[q]? = some y → ¬ whenC y.x.n n < 0) := Lib.hid (fun z hz => by have := (List.getElem?_eq_some_iff.1 hz).1; have := LEN.out.1; omega)
          have BQ2 := Lib.hid (BQ.out.trans (hC.mono BQ.out.size))
          clear hC BQ HT0
          replace ST := Lib.hid (ST.out.below BQ2.out)
          replace NB := Lib.hid (below_blk BQ2.out NB.out)
          replace HOW := Lib.hid (own_below HOW.out BQ2.out)
          have QL : Hid (q ≤ on) := Lib.hid (by omega)
          obtain ⟨ia, hi1, hi2⟩ := info_ev
          obtain ⟨a1, hcut1, hrd1⟩ := cutR_eq Tryz.underlying24 hi1 hi2 ST.out.rd 0 q none (some (.int .i64 (q : Int))) (.inl ⟨rfl, rfl⟩) (.inr ⟨_, rfl⟩) (Nat.zero_le _) QL.out
          simp only [Nat.zero_mul, List.drop_zero, Nat.sub_zero, evCells_take] at hcut1 hrd1
          have hbe : Below wq.heap.size wq (wq.alloc (.cells #[] 53)) := (Below.refl _ _).alloc (Nat.le_refl _) _
          have o0 := World.ownsRow_lit (base := wq.heap.size) (e := 53) (size := 21) wq #[] 0 (Nat.le_refl _) (by unfold maxLen; omega) rfl
          obtain ⟨a2, c2, w2, hrun, ho2, hg2, _⟩ := run_app_ev (wq.alloc (.cells #[] 53)) wq.heap.size _ 0 0 _ o0 a1 q oc _ (hrd1.below hbe) (evCells_one _) (by have := HNN.out; have := LEN.out.2; omega) hbe.size
          have hb2 : Below wq.heap.size wq w2 := hbe.grown hg2 hbe.size (fun k hk => (o0.lt k hk).1)
          rw [Nat.zero_add] at hrun ho2
          have O2 : Hid (w2.ownsRow wq.heap.size 53 21 (.slice a2 q c2) q (evCells (es.take q))) := Lib.hid (by simpa using ho2)
          have B2 := Lib.hid hb2
          clear hbe o0 ho2 hg2 hb2 hrd1 hi1 hi2
          go_upto_region 12 with (first
            | (refine wpList_append_eq rfl _ _ _ rfl _ _ _ rfl rfl hrun ?_)
            | fail)
          clear hrun hcut1
          try simp only [Act.put, lq3, lq4, lq5]
          have N2 := Lib.hid (below_blk B2.out NB.out)
          refine wp_region_noPanic ?_
          refine wp_region_held_drew (S := fun w' => w'.heap[p5]? = some (.cells (noteA n ta tc) 51 (0, 0))) (by kernel_rfl) (show w2.drew.heap[p5]? = _ from N2.out) (fun hHeld => ?_)
          have bd := (Below.refl w2.heap.size w2).drew
          replace O2 := Lib.hid (own_below O2.out bd)
          replace N2 := Lib.hid (below_blk bd N2.out)
          replace B2 := Lib.hid (B2.out.trans (bd.mono B2.out.size))
          clear bd
          generalize w2.drew = v2 at *
          refine wpAnyH_take (i := 0) (v := .slice a2 q c2) rfl (by kernel_rfl) (by kernel_rfl) (by kernel_rfl) (fun _ _ _ h => h) (Or.inl ⟨by kernel_rfl, by intro W _; go_simp⟩) (by assumption) ?_
          try simp only [Act.put, lq0, lq1, lq2, lq3, lq4, lq5]
          refine wpAnyH_take (i := 1) (v := .agg (noteA n ta tc)) rfl (by kernel_rfl) (by kernel_rfl) (by kernel_rfl) (fun _ _ _ h => h) (yields_row (by kernel_rfl) 51 _ rfl p5 rfl _ 51 (0, 0) _ (fun W h => h) Tryz.underlying51 rfl (I43.out _ _ _)) (by assumption) ?_
          try simp only [Act.put, lq0, lq1, lq2, lq3, lq4, lq5]
          refine wpAnyH_take (i := 3) (v := .agg (noteA n ta tc)) rfl (by kernel_rfl) (by kernel_rfl) (by kernel_rfl) (fun _ _ _ h => h) (yields_row (by kernel_rfl) 51 _ rfl p5 rfl _ 51 (0, 0) _ (fun W h => h) Tryz.underlying51 rfl (I43.out _ _ _)) (by assumption) ?_
          try simp only [Act.put, lq0, lq1, lq2, lq3, lq4, lq5]
          refine wpAnyH_ready (rs := [2]) (by kernel_rfl) (by simp) ?_
          refine AllReadyH.cons rfl (fun K hK => ?_) AllReadyH.nil
          go_simp
          refine (rNameOf_any n ta tc v2).mono ?_
          rintro e v3 ⟨rfl, b3⟩
          replace O2 := Lib.hid (own_below O2.out b3)
          replace N2 := Lib.hid (below_blk b3 N2.out)
          replace B2 := Lib.hid (B2.out.trans (b3.mono B2.out.size))
          clear b3
          refine hK.out _ _ N2.out (fun hHeld => ?_)
          clear hK K
          try simp only [Act.put, lq0, lq1, lq2, lq3, lq4, lq5]
          refine wpAnyH_take (i := 4) (v := .agg (evA ⟨nmOf n, ⟨n, ta, tc⟩⟩)) rfl (by kernel_rfl) (by kernel_rfl) (by kernel_rfl) (fun _ _ _ h => h) (Or.inl ⟨by kernel_rfl, by intro W h; clear h; go_simp; kernel_rfl⟩) (by assumption) ?_
          try simp only [Act.put, lq0, lq1, lq2, lq3, lq4, lq5]
          refine wpAnyH_ready (rs := [5]) (by kernel_rfl) (by simp) ?_
          refine AllReadyH.cons rfl (fun K hK => ?_) AllReadyH.nil
          have bn : Below v3.heap.size v3 (v3.alloc (.cells (evA ⟨nmOf n, ⟨n, ta, tc⟩⟩) 53)) := (Below.refl _ _).alloc (Nat.le_refl _) _
          have LE := Lib.hid (lit_ev v3 ⟨nmOf n, ⟨n, ta, tc⟩⟩)
          replace O2 := Lib.hid (own_below O2.out bn)
          replace N2 := Lib.hid (below_blk bn N2.out)
          replace B2 := Lib.hid (B2.out.trans (bn.mono B2.out.size))
          clear bn
          refine oper_build_ev _ rfl ⟨nmOf n, ⟨n, ta, tc⟩⟩ rfl ?_
          obtain ⟨p6, hp6⟩ : ∃ p, Hid (v3.heap.size = p) := ⟨_, Lib.hid rfl⟩
          rw [hp6.out] at LE ⊢
          generalize v3.alloc (.cells (evA ⟨nmOf n, ⟨n, ta, tc⟩⟩) 53) = v4 at *
          refine hK.out _ _ N2.out (fun hHeld => ?_)
          clear hK K
          try simp only [Act.put, lq0, lq1, lq2, lq3, lq4, lq5]
          refine wpAnyH_ready (rs := [6]) (by kernel_rfl) (by simp) ?_
          refine AllReadyH.cons rfl (fun K hK => ?_) AllReadyH.nil
          obtain ⟨a4, c4, v5, hrun, ho, hg, _⟩ := run_app_ev v4 wq.heap.size a2 q c2 _ O2.out _ 1 1 _ LE.out (evA_one _) (by have := HNN.out; have := LEN.out.2; have := QL.out; omega) B2.out.size
          have O4 := Lib.hid ho
          have N4 := Lib.hid (grown_blk hg N2.out (own_no O2.out N2.out (fun cur h => by simp at h)))
          have B4 := Lib.hid (B2.out.grown hg B2.out.size (fun k hk => (O2.out.lt k hk).1))
          clear ho hg
          rw [if_pos (by kernel_rfl)]
          refine oper_append _ _ _ rfl _ _ _ rfl rfl hrun ?_
          clear hrun O2 LE
          refine hK.out _ _ N4.out (fun hHeld => ?_)
          clear hK K
          try simp only [Act.put, lq0, lq1, lq2, lq3, lq4, lq5]
          refine wpAnyH_take (i := 7) (oi := { dst := some 8, op := .assign (.tmp 58), type := _, pos := _, after := _, guard := none }) (v := .slice a4 (q + 1) c4) rfl (by kernel_rfl) (by kernel_rfl) (by kernel_rfl) (fun _ _ _ h => h) (Or.inl ⟨by kernel_rfl, by intro W _; go_simp⟩) (by assumption) ?_
          try simp only [Act.put, lq0, lq1, lq2, lq3, lq4, lq5]
          refine wpAnyH_done (by kernel_rfl) ?_ _
          refine NoPanic.normal ?_
          clear N2 N4 B2
          have ST5 := Lib.hid (ST.out.below B4.out)
          obtain ⟨ia, hi1, hi2⟩ := info_ev
          obtain ⟨a6, hcut2, hrd2⟩ := cutR_eq Tryz.underlying24 hi1 hi2 ST5.out.rd q on (some (.int .i64 (q : Int))) none (.inr ⟨_, rfl⟩) (.inl ⟨rfl, rfl⟩) QL.out (Nat.le_refl _)
          rw [evCells_drop, List.take_of_length_le (by rw [evCells_len, List.length_drop, LEN.out.1]; exact Nat.le_refl _)] at hrd2
          obtain ⟨a7, c7, w7, hrun, ho, hg, _⟩ := run_app_ev v5 wq.heap.size a4 (q + 1) c4 _ O4.out a6 (on - q) (oc - q) _ hrd2 (evCells_one _) (by have := HNN.out; have := LEN.out.2; have := QL.out; omega) B4.out.size
          have B7 := Lib.hid (B4.out.grown hg B4.out.size (fun k hk => (O4.out.lt k hk).1))
          have SN : Hid (EvSt w w7 a7 (q + 1 + (on - q)) c7 (putIn es q ⟨nmOf n, ⟨n, ta, tc⟩⟩) l (k + 1)) := Lib.hid ⟨ST.out.bel.trans (B7.out.mono ST.out.bel.size), by rw [← putIn_cells]; exact own_mono ho ST.out.bel.size, fun e he => by
            rcases mem_putIn he with rfl | he
            · exact own_below HOW.out B7.out
            · exact own_below (ST.out.str e he) B7.out, putIn_ev ST.out.ev HLX.out HC.out (by rw [LEN.out.1]; exact QL.out) HJ.out QN.out, fun e he => by
            rcases mem_putIn he with rfl | he
            · rfl
            · exact ST.out.nm e he⟩
          clear ho hg hi1 hi2 hrd2 O4 ST5 B4
          go_upto_region 4 with (first
            | (refine wpList_append_eq rfl _ _ _ rfl _ _ _ rfl rfl hrun ?_)
            | fail)
          clear hrun hcut2
          go_wp2_with fail
          go_roundw
          case rel => exact ⟨k + 1, a7, q + 1 + (on - q), c7, putIn es q ⟨nmOf n, ⟨n, ta, tc⟩⟩, by go_num, by go_num, by omega, SN⟩
          case measure => simp [intOf]; omega
    · have t0 : decide ((k : Int) < (nn : Int)) = false := by simp; omega
      obtain rfl : k = nn := by omega
      rw [← HLN.out] at ST
      go_wp2_with fail
      go_ret
      exact ⟨⟨oa, on, oc, es, rfl, ST.out⟩, ST.out.bel⟩
end Go.Proofs.YtpjiakgfegnmcaaGreat
namespace Go.Proofs.YtpjiakgfegnmcaaGreat
set_option linter.unusedSimpArgs false
open Go.RowKit

set_option maxHeartbeats 16000000 in
set_option maxRecDepth 100000 in
theorem rcheckSet_any (f : FrV) (a : Option Addr) (n c : Nat) (l : List NoteV) (w : World) (hr : RdNs w a n c l) :
    Calls Tryz.prog 24 #[f.val, .slice a n c] w fun e w' => e = .returned (.tuple #[.int .i64 (checkSetP f l).1, .int .i64 (checkSetP f l).2]) ∧ Below w.heap.size w w' := by
  have hvl : f.val = .agg #[.int .i64 f.rings, .int .i64 f.sectors, .int .i64 f.wide] := rfl
  have HVL := Lib.hid hvl
  have WELL := Lib.hid (fun (x : NoteV) sa sc (W : World) (hv : f.valid = true) (hs : RdI W sa x.strokes.length sc x.strokes) => formed_well hv x ▸ well_any f x sa sc W hv hs)
  rw [hvl] at WELL ⊢; clear hvl
  have I43 : (Tryz.prog.info? 51).map (·.size) = some 19 := by kernel_rfl
  have hL := Lib.hid hr.1
  have hn63 : n ≤ 9223372036854775807 := by have h1 := hr.2.1; have h2 := hr.2.2.1; unfold maxLen at h2; omega
  have B0 := Lib.hid ((Below.refl w.heap.size w).alloc (Nat.le_refl _) (.cells #[.int .i64 f.rings, .int .i64 f.sectors, .int .i64 f.wide] 23))
  have F0 := Lib.hid (heap_last w (.cells #[.int .i64 f.rings, .int .i64 f.sectors, .int .i64 f.wide] 23))
  have R0 := Lib.hid (hr.below B0.out)
  clear hr
  go_enter Tryz.func24, Tryz.ntmps24
  go_upto_region 1 with fail
  obtain ⟨p, hp⟩ : ∃ p, Hid (w.heap.size = p) := ⟨_, Lib.hid rfl⟩
  rw [hp.out] at F0 ⊢
  generalize w.alloc (.cells #[.int .i64 f.rings, .int .i64 f.sectors, .int .i64 f.wide] 23) = W0 at *
  have c0 := cell_of F0.out 0 (.int .i64 f.rings) rfl
  have c1 := cell_of F0.out 1 (.int .i64 f.sectors) rfl
  have c2 := cell_of F0.out 2 (.int .i64 f.wide) rfl
  go_wp2_with fail
  refine (validFrame_any f.rings f.sectors f.wide _).mono ?_
  rintro e W1 ⟨rfl, b1⟩
  have B1 := Lib.hid (B0.out.trans (b1.mono B0.out.size))
  have F1 := Lib.hid (below_blk b1 F0.out)
  have R1 := Lib.hid (R0.out.below b1)
  clear b1 c0 c1 c2 B0 F0 R0
  cases hv : f.valid
  · have HR := Lib.hid (show checkSetP f l = (1, 0) by unfold checkSetP; rw [hv]; rfl)
    clear hv
    go_wp2_with fail
    go_ret2
    exact ⟨by rw [HR.out]; rfl, B1.out⟩
  · have HV := Lib.hid hv
    clear hv
    by_cases h4 : 400 < n
    · have t4 : decide ((400 : Int) < (n : Int)) = true := by simp; omega
      have HR := Lib.hid (show checkSetP f l = (2, 0) by unfold checkSetP; rw [if_neg (by rw [HV.out]; decide), if_pos (by rw [hL.out]; exact h4)])
      clear h4
      go_wp2_with fail
      go_ret2
      exact ⟨by rw [HR.out]; rfl, B1.out⟩
    · have t4 : decide ((400 : Int) < (n : Int)) = false := by simp; omega
      have HG0 := Lib.hid (show checkSetP f l = setGo f l (n - 0) 0 by unfold checkSetP; rw [if_neg (by rw [HV.out]; decide), if_neg (by rw [hL.out]; exact h4), hL.out, Nat.sub_zero])
      have HN4 : Hid (n ≤ 400) := Lib.hid (by omega)
      clear h4
      go_wp2_with fail
      clear t4
      go_loopw [6, 7] (fun i _ wr => ∃ k : Nat, i = .int .i64 k ∧ k ≤ n ∧ Hid (checkSetP f l = setGo f l (n - k) k) ∧ Hid (Below W1.heap.size W1 wr)) (fun i _ _ => n - (intOf i).toNat)
      case atStart => exact ⟨0, rfl, Nat.zero_le _, HG0, Lib.hid (Below.refl _ _)⟩
      case round =>
        obtain ⟨k, rfl, hk, HG, HB⟩ := hrel
        by_cases hlt : k < n
        · have t0 : decide ((k : Int) < (n : Int)) = true := by simp; omega
          obtain ⟨x, hx⟩ : ∃ x, l[k]? = some x := ⟨_, List.getElem?_eq_getElem (by rw [hL.out]; exact hlt)⟩
          have HX := Lib.hid hx
          obtain ⟨b, off, rfl, hall⟩ := (R1.out.below HB.out).at (by omega)
          obtain ⟨sa, sc, hrange, hrd⟩ := hall k x hx
          have HALL := Lib.hid hall
          obtain ⟨o, ho⟩ : ∃ o, Hid (off + k * 19 = o) := ⟨_, Lib.hid rfl⟩
          rw [ho.out] at hrange
          have HIX := Lib.hid (fun W => idx_off (W := W) (c := c) (b := b) Tryz.underlying43 I43 hlt ho.out)
          have LN := Lib.hid (show ∀ w0, Below wr.heap.size wr w0 → w0.rangeAt b o (x.cells sa sc) from fun w0 hb => rangeAt_below hrange hb)
          have RX := Lib.hid (show ∀ W', Below wr.heap.size wr W' → RdI W' sa x.strokes.length sc x.strokes from fun W' hb => hrd.below hb)
          have LF := Lib.hid (show ∀ w0, Below wr.heap.size wr w0 → w0.heap[p]? = some (.cells #[.int .i64 f.rings, .int .i64 f.sectors, .int .i64 f.wide] 23 (0, 0)) from fun w0 hb => below_blk (HB.out.trans (hb.mono HB.out.size)) F1.out)
          have hC0 : Below wr.heap.size wr wr.drew := (Below.refl _ _).drew
          clear hall hx hrange hrd
          have hk64 : (k : Int) + 1 ≤ 9223372036854775807 := by have := HN4.out; omega
          go_upto_region 8 with fail
          refine wp_region_quiet (C := fun w' : World => Below wr.heap.size wr w') (by kernel_rfl) (by kernel_rfl) hC0 ?_
          show wpQuiet _ _ _ _ (_ :: _) _
          go_big_quiet_want
          refine ⟨.agg #[.int .i64 f.rings, .int .i64 f.sectors, .int .i64 f.wide], fun w0 hC => ?_, ?_⟩
          · have c0 := cell_of (LF.out w0 hC) 0 (.int .i64 f.rings) rfl
            have c1 := cell_of (LF.out w0 hC) 1 (.int .i64 f.sectors) rfl
            have c2 := cell_of (LF.out w0 hC) 2 (.int .i64 f.wide) rfl
            clear hC
            go_simp
          simp only [Act.put, lq3, lq4, lq5]
          go_big_quiet_on
          go_big_quiet_want
          go_big_quiet_op
          go_big_quiet_on
          go_big_quiet_want
          go_big_quiet_op
          go_big_quiet_on
          go_big_quiet_want
          refine ⟨.pointer (some ⟨b, o, none⟩), fun w0 hC => ?_, ?_⟩
          · have hix := HIX.out w0
            clear hC
            go_simp
          simp only [Act.put, lq3, lq4, lq5]
          go_big_quiet_on
          go_big_quiet_want
          refine ⟨.agg (noteA x sa sc), fun w0 hC => quiet_load_note (.tmp 23) rfl b o rfl x sa sc (LN.out w0 hC), ?_⟩
          simp only [Act.put, lq3, lq4, lq5]
          go_big_quiet_on
          go_big_quiet_want
          refine ⟨.bool (formedB f x), fun w0 hC => ?_, ?_⟩
          · go_simp
            refine (WELL.out x sa sc w0 HV.out (RX.out w0 hC)).mono ?_
            rintro e w1 ⟨rfl, b1⟩
            exact ⟨rfl, hC.trans (b1.mono hC.size)⟩
          simp only [Act.put, lq3, lq4, lq5]
          go_big_quiet_on
          cases hf : formedB f x
          · have HR := Lib.hid (show checkSetP f l = (80, k) by rw [HG.out]; exact setGo_some hlt (by unfold setAt; rw [HX.out]; simp only; rw [if_pos hf]))
            clear hf
            go_big_quiet_want
            refine ⟨.bool true, fun w0 hC => ?_, ?_⟩
            · clear hC
              go_simp
            simp only [Act.put, lq3, lq4, lq5]
            go_big_quiet_on
            refine wpQuiet_nil ?_
            intro w' hC
            have BE := Lib.hid (HB.out.trans (hC.mono HB.out.size))
            clear hC
            go_wp2_with fail
            go_ret2
            exact ⟨by rw [HR.out]; rfl, B1.out.trans (BE.out.mono B1.out.size)⟩
          · have HF := Lib.hid hf; clear hf
            go_big_quiet_want
            refine ⟨.bool false, fun w0 hC => ?_, ?_⟩
            · clear hC
              go_simp
            simp only [Act.put, lq3, lq4, lq5]
            go_big_quiet_on
            refine wpQuiet_nil ?_
            intro w' hC
            have BE := Lib.hid (HB.out.trans (hC.mono HB.out.size))
            have HC := Lib.hid hC
            clear hC
            rcases Nat.eq_zero_or_pos k with hk0 | hk0
            · have k0a : ((k : Int) == 0) = true := by rw [hk0]; rfl
              have HR := Lib.hid (show setGo f l (n - k) k = setGo f l (n - (k + 1)) (k + 1) from setGo_none hlt (by unfold setAt; rw [HX.out]; simp only; rw [if_neg (by rw [HF.out]; decide), if_pos hk0]))
              clear hk0
              go_wp2_with fail
              go_roundw
              case rel => exact ⟨k + 1, by go_num, by omega, Lib.hid (by rw [← HR.out]; exact HG.out), BE⟩
              case measure => simp [intOf]; omega
            · have k0a : ((k : Int) == 0) = false := by rw [beq_eq_false_iff_ne]; omega
              have HK0 : Hid (¬ k = 0) := Lib.hid (by omega)
              obtain ⟨j, hkj⟩ : ∃ j, k = j + 1 := ⟨k - 1, by omega⟩
              have hj1 : (k : Int) - 1 = (j : Int) := by omega
              have hjn : j < n := by omega
              have HWJ : Hid (IntKind.i64.wrap (j : Int) = (j : Int)) := Lib.hid (by have := HN4.out; first | (rw [IntKind.wrap_i64]; omega) | (rw [IntKind.wrap_i64]; unfold wrap64; omega))
              obtain ⟨y, hy⟩ : ∃ y, l[j]? = some y := ⟨_, List.getElem?_eq_getElem (by rw [hL.out]; omega)⟩
              obtain ⟨ya, yc, hyr, _⟩ := HALL.out j y hy
              have HY := Lib.hid (show l[k - 1]? = some y by rw [hkj, Nat.add_sub_cancel]; exact hy)
              obtain ⟨oy, hoy⟩ : ∃ oy, Hid (off + j * 19 = oy) := ⟨_, Lib.hid rfl⟩
              rw [hoy.out] at hyr
              have HIY := Lib.hid (fun W => idx_off (W := W) (c := c) (b := b) Tryz.underlying43 I43 hjn hoy.out)
              have LY := Lib.hid (show ∀ w0, Below w'.heap.size w' w0 → w0.rangeAt b oy (y.cells ya yc) from fun w0 hb => rangeAt_below hyr (HC.out.trans (hb.mono HC.out.size)))
              have LX := Lib.hid (show ∀ w0, Below w'.heap.size w' w0 → w0.rangeAt b o (x.cells sa sc) from fun w0 hb => LN.out w0 (HC.out.trans (hb.mono HC.out.size)))
              have hC1 : Below w'.heap.size w' w'.drew := (Below.refl _ _).drew
              clear hy hyr hk0 hkj
              go_upto_region 11 with fail
              clear k0a
              refine wp_region_quiet (C := fun wz : World => Below w'.heap.size w' wz) (by kernel_rfl) (by kernel_rfl) hC1 ?_
              show wpQuiet _ _ _ _ (_ :: _) _
              go_big_quiet_want
              go_big_quiet_op
              go_big_quiet_on
              go_big_quiet_want
              go_big_quiet_op
              go_big_quiet_on
              go_big_quiet_want
              refine ⟨.int .i64 (j : Int), fun w0 hC => ?_, ?_⟩
              · clear hC
                go_simp
                first | done | exact HWJ.out
              simp only [Act.put, lq3, lq4, lq5]
              go_big_quiet_on
              go_big_quiet_want
              refine ⟨.pointer (some ⟨b, oy, none⟩), fun w0 hC => ?_, ?_⟩
              · have hix := HIY.out w0
                clear hC
                go_simp
              simp only [Act.put, lq3, lq4, lq5]
              go_big_quiet_on
              go_big_quiet_want
              refine ⟨.agg (noteA y ya yc), fun w0 hC => quiet_load_note (.tmp 33) rfl b oy rfl y ya yc (LY.out w0 hC), ?_⟩
              simp only [Act.put, lq3, lq4, lq5]
              go_big_quiet_on
              go_big_quiet_want
              refine ⟨.agg #[.int .i64 y.house, .int .i64 y.num], fun w0 hC => ?_, ?_⟩
              · go_simp
                refine (rNameOf_any y ya yc w0).mono ?_
                rintro e w1 ⟨rfl, b1⟩
                exact ⟨rfl, hC.trans (b1.mono hC.size)⟩
              simp only [Act.put, lq3, lq4, lq5]
              go_big_quiet_on
              go_big_quiet_want
              go_big_quiet_op
              go_big_quiet_on
              go_big_quiet_want
              go_big_quiet_op
              go_big_quiet_on
              go_big_quiet_want
              refine ⟨.pointer (some ⟨b, o, none⟩), fun w0 hC => ?_, ?_⟩
              · have hix := HIX.out w0
                clear hC
                go_simp
              simp only [Act.put, lq3, lq4, lq5]
              go_big_quiet_on
              go_big_quiet_want
              refine ⟨.agg (noteA x sa sc), fun w0 hC => quiet_load_note (.tmp 38) rfl b o rfl x sa sc (LX.out w0 hC), ?_⟩
              simp only [Act.put, lq3, lq4, lq5]
              go_big_quiet_on
              go_big_quiet_want
              refine ⟨.agg #[.int .i64 x.house, .int .i64 x.num], fun w0 hC => ?_, ?_⟩
              · go_simp
                refine (rNameOf_any x sa sc w0).mono ?_
                rintro e w1 ⟨rfl, b1⟩
                exact ⟨rfl, hC.trans (b1.mono hC.size)⟩
              simp only [Act.put, lq3, lq4, lq5]
              go_big_quiet_on
              go_big_quiet_want
              refine ⟨.int .i64 (namesC y.house y.num x.house x.num), fun w0 hC => ?_, ?_⟩
              · go_simp
                refine (rcmp_any _ _ _ _ w0).mono ?_
                rintro e w1 ⟨rfl, b1⟩
                exact ⟨rfl, hC.trans (b1.mono hC.size)⟩
              simp only [Act.put, lq3, lq4, lq5]
              go_big_quiet_on
              go_big_quiet_want
              go_big_quiet_op
              go_big_quiet_on
              refine wpQuiet_nil ?_
              intro wz hC
              have BF := Lib.hid (BE.out.trans (hC.mono BE.out.size))
              clear hC
              obtain ⟨z, hz⟩ : ∃ z, Hid (namesC y.house y.num x.house x.num = z) := ⟨_, Lib.hid rfl⟩
              rw [hz.out]
              by_cases hz0 : z = 0
              · have ho1 : (z == 0) = true := by simp [hz0]
                have HR := Lib.hid (show checkSetP f l = (81, k) by rw [HG.out]; exact setGo_some hlt (by unfold setAt; rw [HX.out]; simp only; rw [if_neg (by rw [HF.out]; decide), if_neg HK0.out, HY.out]; simp only; rw [hz.out, if_pos hz0]))
                clear hz0
                go_wp2_with fail
                go_ret2
                exact ⟨by rw [HR.out]; rfl, B1.out.trans (BF.out.mono B1.out.size)⟩
              · have ho1 : (z == 0) = false := by simp [hz0]
                by_cases hz1 : 0 < z
                · have ho2 : decide (0 < z) = true := by simp [hz1]
                  have HR := Lib.hid (show checkSetP f l = (1, k) by rw [HG.out]; exact setGo_some hlt (by unfold setAt; rw [HX.out]; simp only; rw [if_neg (by rw [HF.out]; decide), if_neg HK0.out, HY.out]; simp only; rw [hz.out, if_neg hz0, if_pos hz1]))
                  clear hz0 hz1
                  go_wp2_with fail
                  go_ret2
                  exact ⟨by rw [HR.out]; rfl, B1.out.trans (BF.out.mono B1.out.size)⟩
                · have ho2 : decide (0 < z) = false := by simp; omega
                  have HR := Lib.hid (show setGo f l (n - k) k = setGo f l (n - (k + 1)) (k + 1) from setGo_none hlt (by unfold setAt; rw [HX.out]; simp only; rw [if_neg (by rw [HF.out]; decide), if_neg HK0.out, HY.out]; simp only; rw [hz.out, if_neg hz0, if_neg hz1]))
                  clear hz0 hz1
                  go_wp2_with fail
                  go_roundw
                  case rel => exact ⟨k + 1, by go_num, by omega, Lib.hid (by rw [← HR.out]; exact HG.out), BF⟩
                  case measure => simp [intOf]; omega
        · have hkn : n - k = 0 := by omega
          have HR := Lib.hid (show checkSetP f l = (0, 0) by rw [HG.out, hkn]; rfl)
          have t0 : decide ((k : Int) < (n : Int)) = false := by simp; omega
          go_wp2_with fail
          go_ret2
          exact ⟨by rw [HR.out]; rfl, B1.out.trans (HB.out.mono B1.out.size)⟩
end Go.Proofs.YtpjiakgfegnmcaaGreat
