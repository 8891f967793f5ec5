/- The program's equality of notes. -/
import Derived.Test.YtpdmlklnbjegpaaGreatEql
import Derived.Deep.RegionHeld3
import Derived.Deep.Cut
namespace Go.Proofs.YtpdmlklnbjegpaaGreat
open Go.RowKit

/-- The fourteen numbers of a note that are compared as one array. -/
def nums14 (n : NoteV) : List Int := [n.house, n.num, n.clock, n.day, n.kind, n.stone, n.heap, n.turns, n.a, n.b, n.ring, n.refH, n.refN, n.fix]
def numsA (n : NoteV) : Array Value := ((nums14 n).map intV).toArray
theorem run_equal_nums (x y : NoteV) (w : World) : (Op.equalIn 10000 175 (.agg (numsA x)) (.agg (numsA y))).run Tryz.prog w = .ok (decide (nums14 x = nums14 y)) w := by
  have h := run_equalIn14 w 9998 (nums14 x) (nums14 y) rfl rfl
  simp only [Nat.reduceAdd] at h
  exact h
section
attribute [local go_sem] noteA_0 noteA_1 noteA_2 noteA_3 noteA_4 noteA_5 noteA_6 noteA_7 noteA_12 noteA_13 noteA_14 noteA_16 noteA_17 noteA_18
set_option maxHeartbeats 1000000 in
theorem numbers_any (n : NoteV) (sa : Option Addr) (sc : Nat) (w : World) : Calls Tryz.prog 112 #[.agg (noteA n sa sc)] w fun e w' => e = .returned (.agg (numsA n)) ∧ Below w.heap.size w w' := by
  have hb := (Below.refl w.heap.size w).alloc (Nat.le_refl _) (.cells (noteA n sa sc) 47)
  go_enter Tryz.func112, Tryz.ntmps112
  go_wp2_with fail
  go_returns
  exact ⟨rfl, hb.alloc hb.size _⟩
end

def sameB (x y : NoteV) : Bool := decide (nums14 x = nums14 y) && (decide (x.hardLo = y.hardLo ∧ x.hardHi = y.hardHi) && (decide (x.diffLo = y.diffLo ∧ x.diffHi = y.diffHi) && decide (x.strokes = y.strokes)))

theorem note_cells {W : World} {p : Nat} {x : NoteV} {sa : Option Addr} {sc : Nat} (h1 : W.heap[p]? = some (.cells (noteA x sa sc) 47 (0, 0))) : W.rangeAt p 0 (x.cells sa sc) := fun j v hv => by
  simp only [World.cell?, h1]
  simpa [noteA] using hv
theorem size43 (x : NoteV) (sa : Option Addr) (sc : Nat) : (Tryz.prog.info? 47).map (·.size) = some (x.cells sa sc).length := by kernel_rfl

attribute [local go_sem ↓] run_equal_nums
theorem quiet_load43 {C : World → Prop} {w : World} {o : Oper} {a : Act} (x : Operand) (ho : o.op = .load 47 x) (p : Nat) (hx : a.eval x = .pointer (some ⟨p, 0, none⟩)) (n : NoteV) (sa : Option Addr) (sc : Nat)
    (h : w.heap[p]? = some (.cells (noteA n sa sc) 47 (0, 0))) : o.quietAt Tryz.prog a C w (.agg (noteA n sa sc)) := by
  unfold Oper.quietAt execOp
  simp only [ho, hx, Instr.loadAt, Instr.sureAddr, Sem.run_bind, Sem.run_pure, Result.andThen_ok, run_loadVar_mid w p 0 47 (n.cells sa sc) _ (note_cells h) Tryz.underlying47 rfl (size43 n sa sc)]
  exact ⟨rfl, rfl⟩

set_option maxRecDepth 100000 in
set_option maxHeartbeats 2000000 in
theorem same_any (x y : NoteV) (sa : Option Addr) (sc : Nat) (ta : Option Addr) (tc : Nat) (w : World) (hx : RdI w sa x.strokes.length sc x.strokes) (hy : RdI w ta y.strokes.length tc y.strokes) :
    Calls Tryz.prog 73 #[.agg (noteA x sa sc), .agg (noteA y ta tc)] w fun e w' => e = .returned (.bool (sameB x y)) ∧ Below w.heap.size w w' := by
  have hlast := heap_last w (.cells (noteA x sa sc) 47)
  have p0 := heap_before (w.alloc (.cells (noteA x sa sc) 47)) (.cells (noteA y ta tc) 47) _ _ hlast
  have q0 : ((w.alloc (.cells (noteA x sa sc) 47)).alloc (.cells (noteA y ta tc) 47)).heap[w.heap.size + 1]? = some (.cells (noteA y ta tc) 47) := by
    have := heap_last (w.alloc (.cells (noteA x sa sc) 47)) (.cells (noteA y ta tc) 47)
    simpa using this
  have hb : Below w.heap.size w ((w.alloc (.cells (noteA x sa sc) 47)).alloc (.cells (noteA y ta tc) 47)) := ((Below.refl _ _).alloc (Nat.le_refl _) _).alloc (by simp) _
  have hp : w.heap.size < ((w.alloc (.cells (noteA x sa sc) 47)).alloc (.cells (noteA y ta tc) 47)).heap.size := by simp; omega
  have hq : w.heap.size + 1 < ((w.alloc (.cells (noteA x sa sc) 47)).alloc (.cells (noteA y ta tc) 47)).heap.size := by simp
  clear hlast
  have H1 := Lib.hid p0; clear p0
  have H2 := Lib.hid q0; clear q0
  have HB := Lib.hid hb; clear hb
  have HP := Lib.hid hp; clear hp
  have HQ := Lib.hid hq; clear hq
  have hbx := hx.below HB.out
  have hby := hy.below HB.out
  have hu := Tryz.underlying47
  go_enter Tryz.func73, Tryz.ntmps73
  go_upto_region 2 with fail
  generalize (w.alloc (.cells (noteA x sa sc) 47)).alloc (.cells (noteA y ta tc) 47) = W at *
  generalize hpe : w.heap.size = p at *
  generalize hqe : p + 1 = q at *
  have HPE := Lib.hid hpe; clear hpe
  have HQE := Lib.hid hqe; clear hqe
  have hC0 : Below W.heap.size W W.drew := (Below.refl _ _).drew
  have HX := Lib.hid (show ∀ w0, Below W.heap.size W w0 → w0.heap[p]? = some (.cells (noteA x sa sc) 47 (0, 0)) from fun w0 h => (h.block p HP.out).trans H1.out)
  have HY := Lib.hid (show ∀ w0, Below W.heap.size W w0 → w0.heap[q]? = some (.cells (noteA y ta tc) 47 (0, 0)) from fun w0 h => (h.block q HQ.out).trans H2.out)
  have hZ : p ≤ W.heap.size := Nat.le_of_lt HP.out
  refine wp_region_quiet (C := fun w' : World => Below W.heap.size W w') (by kernel_rfl) (by kernel_rfl) hC0 ?_
  show wpQuiet _ _ _ _ (_ :: _) _
  go_big_quiet_want
  go_big_quiet_op
  go_big_quiet_on
  go_big_quiet_want
  refine ⟨.agg (noteA x sa sc), fun w0 hC => quiet_load43 (.tmp 2) rfl p rfl x sa sc (HX.out w0 hC), ?_⟩
  simp only [Act.put, List.setIfInBounds_toArray, List.set_cons_zero, List.set_cons_succ]
  go_big_quiet_on
  go_big_quiet_want
  refine ⟨.agg (numsA x), fun w0 hC => ?_, ?_⟩
  · go_simp
    refine (numbers_any x sa sc _).mono ?_; rintro e w1 ⟨rfl, b1⟩; exact ⟨rfl, hC.trans (b1.mono hC.size)⟩
  simp only [Act.put, List.setIfInBounds_toArray, List.set_cons_zero, List.set_cons_succ]
  go_big_quiet_on
  go_big_quiet_want
  go_big_quiet_op
  go_big_quiet_on
  go_big_quiet_want
  refine ⟨.agg (noteA y ta tc), fun w0 hC => quiet_load43 (.tmp 3) rfl q rfl y ta tc (HY.out w0 hC), ?_⟩
  simp only [Act.put, List.setIfInBounds_toArray, List.set_cons_zero, List.set_cons_succ]
  go_big_quiet_on
  go_big_quiet_want
  refine ⟨.agg (numsA y), fun w0 hC => ?_, ?_⟩
  · go_simp
    refine (numbers_any y ta tc _).mono ?_; rintro e w1 ⟨rfl, b1⟩; exact ⟨rfl, hC.trans (b1.mono hC.size)⟩
  simp only [Act.put, List.setIfInBounds_toArray, List.set_cons_zero, List.set_cons_succ]
  go_big_quiet_on
  go_big_quiet_want
  refine ⟨.bool (decide (nums14 x = nums14 y)), fun w0 hC => ?_, ?_⟩
  · clear hC
    go_simp
  simp only [Act.put, List.setIfInBounds_toArray, List.set_cons_zero, List.set_cons_succ]
  go_big_quiet_on
  cases hn : decide (nums14 x = nums14 y)
  · have hR : sameB x y = false := by simp only [sameB, hn, Bool.false_and]
    have HR := Lib.hid hR; clear hR
    go_big_quiet_want
    go_big_quiet_op
    go_big_quiet_on
    go_big_quiet_skip
    go_big_quiet_skip
    go_big_quiet_skip
    go_big_quiet_skip
    go_big_quiet_skip
    go_big_quiet_want
    refine ⟨.bool false, fun w0 hC => ?_, ?_⟩
    · clear hC
      go_simp
    simp only [Act.put, List.setIfInBounds_toArray, List.set_cons_zero, List.set_cons_succ]
    go_big_quiet_on
    go_big_quiet_want
    go_big_quiet_op
    go_big_quiet_on
    go_big_quiet_skip
    go_big_quiet_skip
    go_big_quiet_skip
    go_big_quiet_skip
    go_big_quiet_skip
    go_big_quiet_want
    refine ⟨.bool false, fun w0 hC => ?_, ?_⟩
    · clear hC
      go_simp
    simp only [Act.put, List.setIfInBounds_toArray, List.set_cons_zero, List.set_cons_succ]
    go_big_quiet_on
    go_big_quiet_want
    go_big_quiet_op
    go_big_quiet_on
    go_big_quiet_skip
    go_big_quiet_skip
    go_big_quiet_skip
    go_big_quiet_skip
    go_big_quiet_skip
    go_big_quiet_want
    refine ⟨.bool false, fun w0 hC => ?_, ?_⟩
    · clear hC
      go_simp
    simp only [Act.put, List.setIfInBounds_toArray, List.set_cons_zero, List.set_cons_succ]
    go_big_quiet_on
    go_big_quiet_want
    go_big_quiet_op
    go_big_quiet_on
    refine wpQuiet_nil ?_
    intro w' hC
    go_wp2_with fail
    go_ret
    rw [HR.out]
    exact ⟨rfl, by rw [HPE.out]; exact HB.out.trans (hC.mono hZ)⟩
  · have HN := Lib.hid hn
    clear hn
    go_big_quiet_want
    go_big_quiet_op
    go_big_quiet_on
    go_big_quiet_want
    refine ⟨.pointer (some ⟨p, 8, none⟩), fun w0 hC => ?_, ?_⟩
    · clear hC
      go_simp
    simp only [Act.put, List.setIfInBounds_toArray, List.set_cons_zero, List.set_cons_succ]
    go_big_quiet_on
    go_big_quiet_want
    refine ⟨.agg #[.int .i64 x.hardLo, .int .i64 x.hardHi], fun w0 hC => ?_, ?_⟩
    · have c8 := note_cells (HX.out w0 hC) 8 _ rfl; simp only [Nat.zero_add] at c8; have c9 := note_cells (HX.out w0 hC) 9 _ rfl; simp only [Nat.zero_add] at c9
      clear hC
      go_simp
    simp only [Act.put, List.setIfInBounds_toArray, List.set_cons_zero, List.set_cons_succ]
    go_big_quiet_on
    go_big_quiet_want
    refine ⟨.pointer (some ⟨q, 8, none⟩), fun w0 hC => ?_, ?_⟩
    · clear hC
      go_simp
    simp only [Act.put, List.setIfInBounds_toArray, List.set_cons_zero, List.set_cons_succ]
    go_big_quiet_on
    go_big_quiet_want
    refine ⟨.agg #[.int .i64 y.hardLo, .int .i64 y.hardHi], fun w0 hC => ?_, ?_⟩
    · have c8 := note_cells (HY.out w0 hC) 8 _ rfl; simp only [Nat.zero_add] at c8; have c9 := note_cells (HY.out w0 hC) 9 _ rfl; simp only [Nat.zero_add] at c9
      clear hC
      go_simp
    simp only [Act.put, List.setIfInBounds_toArray, List.set_cons_zero, List.set_cons_succ]
    go_big_quiet_on
    go_big_quiet_want
    refine ⟨.bool (decide (x.hardLo = y.hardLo ∧ x.hardHi = y.hardHi)), fun w0 hC => ?_, ?_⟩
    · clear hC
      go_simp
      by_cases h1 : x.hardLo = y.hardLo <;> by_cases h2 : x.hardHi = y.hardHi <;> simp [h1, h2]
    simp only [Act.put, List.setIfInBounds_toArray, List.set_cons_zero, List.set_cons_succ]
    go_big_quiet_on
    cases hh : decide (x.hardLo = y.hardLo ∧ x.hardHi = y.hardHi)
    · have hR : sameB x y = false := by simp only [sameB, hh, Bool.false_and, Bool.and_false]
      have HR := Lib.hid hR; clear hR hh
      go_big_quiet_want
      refine ⟨.bool false, fun w0 hC => ?_, ?_⟩
      · clear hC
        go_simp
      simp only [Act.put, List.setIfInBounds_toArray, List.set_cons_zero, List.set_cons_succ]
      go_big_quiet_on
      go_big_quiet_want
      go_big_quiet_op
      go_big_quiet_on
      go_big_quiet_skip
      go_big_quiet_skip
      go_big_quiet_skip
      go_big_quiet_skip
      go_big_quiet_skip
      go_big_quiet_want
      refine ⟨.bool false, fun w0 hC => ?_, ?_⟩
      · clear hC
        go_simp
      simp only [Act.put, List.setIfInBounds_toArray, List.set_cons_zero, List.set_cons_succ]
      go_big_quiet_on
      go_big_quiet_want
      go_big_quiet_op
      go_big_quiet_on
      go_big_quiet_skip
      go_big_quiet_skip
      go_big_quiet_skip
      go_big_quiet_skip
      go_big_quiet_skip
      go_big_quiet_want
      refine ⟨.bool false, fun w0 hC => ?_, ?_⟩
      · clear hC
        go_simp
      simp only [Act.put, List.setIfInBounds_toArray, List.set_cons_zero, List.set_cons_succ]
      go_big_quiet_on
      go_big_quiet_want
      go_big_quiet_op
      go_big_quiet_on
      refine wpQuiet_nil ?_
      intro w' hC
      go_wp2_with fail
      go_ret
      rw [HR.out]
      exact ⟨rfl, by rw [HPE.out]; exact HB.out.trans (hC.mono hZ)⟩
    · have HH := Lib.hid hh
      clear hh
      go_big_quiet_want
      refine ⟨.bool true, fun w0 hC => ?_, ?_⟩
      · clear hC
        go_simp
      simp only [Act.put, List.setIfInBounds_toArray, List.set_cons_zero, List.set_cons_succ]
      go_big_quiet_on
      go_big_quiet_want
      go_big_quiet_op
      go_big_quiet_on
      go_big_quiet_want
      refine ⟨.pointer (some ⟨p, 10, none⟩), fun w0 hC => ?_, ?_⟩
      · clear hC
        go_simp
      simp only [Act.put, List.setIfInBounds_toArray, List.set_cons_zero, List.set_cons_succ]
      go_big_quiet_on
      go_big_quiet_want
      refine ⟨.agg #[.int .i64 x.diffLo, .int .i64 x.diffHi], fun w0 hC => ?_, ?_⟩
      · have c10 := note_cells (HX.out w0 hC) 10 _ rfl; simp only [Nat.zero_add] at c10; have c11 := note_cells (HX.out w0 hC) 11 _ rfl; simp only [Nat.zero_add] at c11
        clear hC
        go_simp
      simp only [Act.put, List.setIfInBounds_toArray, List.set_cons_zero, List.set_cons_succ]
      go_big_quiet_on
      go_big_quiet_want
      refine ⟨.pointer (some ⟨q, 10, none⟩), fun w0 hC => ?_, ?_⟩
      · clear hC
        go_simp
      simp only [Act.put, List.setIfInBounds_toArray, List.set_cons_zero, List.set_cons_succ]
      go_big_quiet_on
      go_big_quiet_want
      refine ⟨.agg #[.int .i64 y.diffLo, .int .i64 y.diffHi], fun w0 hC => ?_, ?_⟩
      · have c10 := note_cells (HY.out w0 hC) 10 _ rfl; simp only [Nat.zero_add] at c10; have c11 := note_cells (HY.out w0 hC) 11 _ rfl; simp only [Nat.zero_add] at c11
        clear hC
        go_simp
      simp only [Act.put, List.setIfInBounds_toArray, List.set_cons_zero, List.set_cons_succ]
      go_big_quiet_on
      go_big_quiet_want
      refine ⟨.bool (decide (x.diffLo = y.diffLo ∧ x.diffHi = y.diffHi)), fun w0 hC => ?_, ?_⟩
      · clear hC
        go_simp
        by_cases h1 : x.diffLo = y.diffLo <;> by_cases h2 : x.diffHi = y.diffHi <;> simp [h1, h2]
      simp only [Act.put, List.setIfInBounds_toArray, List.set_cons_zero, List.set_cons_succ]
      go_big_quiet_on
      cases hd : decide (x.diffLo = y.diffLo ∧ x.diffHi = y.diffHi)
      · have hR : sameB x y = false := by simp only [sameB, hd, Bool.false_and, Bool.and_false]
        have HR := Lib.hid hR; clear hR hd
        go_big_quiet_want
        refine ⟨.bool false, fun w0 hC => ?_, ?_⟩
        · clear hC
          go_simp
        simp only [Act.put, List.setIfInBounds_toArray, List.set_cons_zero, List.set_cons_succ]
        go_big_quiet_on
        go_big_quiet_want
        go_big_quiet_op
        go_big_quiet_on
        go_big_quiet_skip
        go_big_quiet_skip
        go_big_quiet_skip
        go_big_quiet_skip
        go_big_quiet_skip
        go_big_quiet_want
        refine ⟨.bool false, fun w0 hC => ?_, ?_⟩
        · clear hC
          go_simp
        simp only [Act.put, List.setIfInBounds_toArray, List.set_cons_zero, List.set_cons_succ]
        go_big_quiet_on
        go_big_quiet_want
        go_big_quiet_op
        go_big_quiet_on
        refine wpQuiet_nil ?_
        intro w' hC
        go_wp2_with fail
        go_ret
        rw [HR.out]
        exact ⟨rfl, by rw [HPE.out]; exact HB.out.trans (hC.mono hZ)⟩
      · have hR : sameB x y = decide (x.strokes = y.strokes) := by simp only [sameB, HN.out, HH.out, hd, Bool.true_and]
        have HR := Lib.hid hR; clear hR hd
        go_big_quiet_want
        refine ⟨.bool true, fun w0 hC => ?_, ?_⟩
        · clear hC
          go_simp
        simp only [Act.put, List.setIfInBounds_toArray, List.set_cons_zero, List.set_cons_succ]
        go_big_quiet_on
        go_big_quiet_want
        go_big_quiet_op
        go_big_quiet_on
        go_big_quiet_want
        refine ⟨.pointer (some ⟨p, 15, none⟩), fun w0 hC => ?_, ?_⟩
        · clear hC
          go_simp
        simp only [Act.put, List.setIfInBounds_toArray, List.set_cons_zero, List.set_cons_succ]
        go_big_quiet_on
        go_big_quiet_want
        refine ⟨.slice sa x.strokes.length sc, fun w0 hC => ?_, ?_⟩
        · have c15 := note_cells (HX.out w0 hC) 15 _ rfl; simp only [Nat.zero_add] at c15
          clear hC
          go_simp
        simp only [Act.put, List.setIfInBounds_toArray, List.set_cons_zero, List.set_cons_succ]
        go_big_quiet_on
        go_big_quiet_want
        refine ⟨.pointer (some ⟨q, 15, none⟩), fun w0 hC => ?_, ?_⟩
        · clear hC
          go_simp
        simp only [Act.put, List.setIfInBounds_toArray, List.set_cons_zero, List.set_cons_succ]
        go_big_quiet_on
        go_big_quiet_want
        refine ⟨.slice ta y.strokes.length tc, fun w0 hC => ?_, ?_⟩
        · have c15 := note_cells (HY.out w0 hC) 15 _ rfl; simp only [Nat.zero_add] at c15
          clear hC
          go_simp
        simp only [Act.put, List.setIfInBounds_toArray, List.set_cons_zero, List.set_cons_succ]
        go_big_quiet_on
        go_big_quiet_want
        refine ⟨.bool (decide (x.strokes = y.strokes)), fun w0 hC => ?_, ?_⟩
        · go_simp
          refine (eqInts_any _ _ _ x.strokes _ _ _ y.strokes w0 (hbx.below hC) (hby.below hC)).mono ?_; rintro e w1 ⟨b, rfl, hb, q1, rfl⟩; exact ⟨by rw [show b = decide (x.strokes = y.strokes) from Bool.eq_iff_iff.2 (hb.trans decide_eq_true_iff.symm)], hC.trans (below_drewN (Below.refl _ _) q1)⟩
        simp only [Act.put, List.setIfInBounds_toArray, List.set_cons_zero, List.set_cons_succ]
        go_big_quiet_on
        go_big_quiet_want
        refine ⟨.bool (decide (x.strokes = y.strokes)), fun w0 hC => ?_, ?_⟩
        · clear hC
          go_simp
        simp only [Act.put, List.setIfInBounds_toArray, List.set_cons_zero, List.set_cons_succ]
        go_big_quiet_on
        go_big_quiet_want
        go_big_quiet_op
        go_big_quiet_on
        refine wpQuiet_nil ?_
        intro w' hC
        go_wp2_with fail
        go_ret
        rw [HR.out]
        exact ⟨rfl, by rw [HPE.out]; exact HB.out.trans (hC.mono hZ)⟩
end Go.Proofs.YtpdmlklnbjegpaaGreat
