/- The reference's test of strokes. -/
import Derived.Test.YtpjiakgfegnmcaaHis2
import Derived.Test.YtpjiakgfegnmcaaRh1
import Derived.Deep.Cut
namespace Go.Proofs.Ytpjiakgfegnmcaa
open Go.RowKit

theorem rin_quiet (x lo hi : Int) (b : Bool) (hb : inB x lo hi = b) (w : World) (n : Nat) : Calls Try.prog 111 #[.int .i64 x, .int .i64 lo, .int .i64 hi] (w.drewN n) fun e w'' => e = .returned (.bool b) ∧ ∃ m, w'' = w.drewN m := by
  refine (rin_any x lo hi _).mono ?_
  rintro e w' ⟨rfl, rfl⟩
  exact ⟨by rw [hb], n, rfl⟩

set_option maxHeartbeats 4000000 in
set_option maxRecDepth 100000 in
theorem rstrokes_any (r s d : Int) (a : Option Addr) (n c : Nat) (l : List Int) (w : World) (hr : RdI w a n c l) (hs : 2 ≤ s ∧ s ≤ 96) (hd : 1 ≤ d ∧ d ≤ s) :
    Calls Try.prog 142 #[.agg #[.int .i64 r, .int .i64 s, .int .i64 d], .slice a n c] w fun e w' => e = .returned (.bool (strokesB (s - d) l)) ∧ Below w.heap.size w w' := by
  have hb := (Below.refl w.heap.size w).alloc (Nat.le_refl _) (.cells #[.int .i64 r, .int .i64 s, .int .i64 d] 61)
  have hm := hr.maxn
  have hl := Lib.hid hr.len
  have hr1 := hr.below hb
  have HB := Lib.hid hb; clear hb hr
  have HF : Hid (¬ strokesP (s - d) l → strokesB (s - d) l = false) := fun h => by simp [strokesB, h]
  have HT : Hid (strokesP (s - d) l → strokesB (s - d) l = inB n 1 200) := fun h => by simp [strokesB, h, hl.out]
  have HWR := Lib.hid (show IntKind.i64.wrap (s - d) = s - d by rw [IntKind.wrap_i64]; omega)
  generalize strokesB (s - d) l = R at *
  go_enter Try.func142, Try.ntmps142
  go_wp2_with fail
  have hh := heap_alloc_new w (.cells #[.int .i64 r, .int .i64 s, .int .i64 d] 61)
  generalize w.alloc (.cells #[.int .i64 r, .int .i64 s, .int .i64 d] 61) = W0 at *
  generalize hp : w.heap.size = p0 at *
  have HP := Lib.hid hp; clear hp
  have c1 : W0.cell? ⟨p0, 1, none⟩ = some (.int .i64 s) := by simp only [World.cell?, hh]; rfl
  have c2 : W0.cell? ⟨p0, 2, none⟩ = some (.int .i64 d) := by simp only [World.cell?, hh]; rfl
  have hz0 : p0 ≤ W0.heap.size := Nat.le_of_lt (World.block_lt_of_cell? W0 _ c1)
  have C1 := Lib.hid c1; clear c1
  have C2 := Lib.hid c2; clear c2 hh
  go_loopw [5] (fun i wr => ∃ (k : Nat), k ≤ n ∧ i = .int .i64 k ∧ Hid (Below W0.heap.size W0 wr) ∧ Hid (∀ i, i < k → inB (l[i]?.getD 0) 0 (s - d) = true ∧ (0 < i → l[i-1]?.getD 0 ≤ l[i]?.getD 0))) (fun i _ => n - (intOf i).toNat)
  case atStart => exact ⟨0, Nat.zero_le _, rfl, Lib.hid (Below.refl _ _), Lib.hid (fun j hj => by omega)⟩
  case round =>
    obtain ⟨k, hk, rfl, hbw, HR⟩ := hrel
    have HBw := Lib.hid (HB.out.trans (hbw.out.mono hz0))
    have HZ := hbw.out.size
    by_cases hlt : k < n
    · obtain ⟨b, off, rfl, hc⟩ := (hr1.below hbw.out).at (by omega)
      have e1 := hc k hlt
      have e2 : 0 < k → _ := fun h => hc (k - 1) (by omega)
      have E2 := Lib.hid e2; clear e2
      have hb0 : b < wr.heap.size := World.block_lt_of_cell? wr _ e1
      have c1 := (hbw.out.cell (p := ⟨p0, 1, none⟩) (World.block_lt_of_cell? W0 _ C1.out)).trans C1.out
      have c2 := (hbw.out.cell (p := ⟨p0, 2, none⟩) (World.block_lt_of_cell? W0 _ C2.out)).trans C2.out
      have hp0 : p0 < wr.heap.size := World.block_lt_of_cell? wr _ c1
      clear hc hr1
      have hk64 : (k : Int) ≤ 9223372036854775807 := by omega
      generalize hx : l[k]?.getD 0 = x at *
      have HX := Lib.hid hx; clear hx
      cases hin : inB x 0 (s - d)
      · have hno : ¬ strokesP (s - d) l := fun h => by
          have := (h k (by rw [hl.out]; exact hlt)).1
          rw [HX.out, hin] at this
          cases this
        have HN := Lib.hid (HF.out hno); clear hno
        have HI := Lib.hid hin; clear hin
        go_upto_region 4 with fail
        refine wp_region_quiet (C := fun w' : World => Below wr.heap.size wr w') (by kernel_rfl) (by kernel_rfl) (Below.refl _ _).drew ?_
        show wpQuiet _ _ _ _ (_ :: _) _
        go_big_quiet_want
        go_big_quiet_op
        go_big_quiet_on
        go_big_quiet_want
        go_big_quiet_op
        go_big_quiet_on
        go_big_quiet_want
        refine ⟨.pointer (some ⟨b, off + k, none⟩), fun w0 hC => ?_, ?_⟩
        · clear hC
          go_simp
        simp only [Act.put, List.setIfInBounds_toArray, List.set_cons_zero, List.set_cons_succ]
        go_big_quiet_on
        go_big_quiet_want
        refine ⟨.int .i64 x, fun w0 hC => ?_, ?_⟩
        · have cc := (hC.cell (p := ⟨b, off + k, none⟩) hb0).trans e1
          clear hC
          go_simp
        simp only [Act.put, List.setIfInBounds_toArray, List.set_cons_zero, List.set_cons_succ]
        go_big_quiet_on
        go_big_quiet_want
        refine ⟨.pointer (some ⟨p0, 1, none⟩), fun w0 hC => ?_, ?_⟩
        · clear hC
          go_simp
        simp only [Act.put, List.setIfInBounds_toArray, List.set_cons_zero, List.set_cons_succ]
        go_big_quiet_on
        go_big_quiet_want
        refine ⟨.int .i64 s, fun w0 hC => ?_, ?_⟩
        · have cc := (hC.cell (p := ⟨p0, 1, none⟩) hp0).trans c1
          clear hC
          go_simp
        simp only [Act.put, List.setIfInBounds_toArray, List.set_cons_zero, List.set_cons_succ]
        go_big_quiet_on
        go_big_quiet_want
        refine ⟨.pointer (some ⟨p0, 2, none⟩), fun w0 hC => ?_, ?_⟩
        · clear hC
          go_simp
        simp only [Act.put, List.setIfInBounds_toArray, List.set_cons_zero, List.set_cons_succ]
        go_big_quiet_on
        go_big_quiet_want
        refine ⟨.int .i64 d, fun w0 hC => ?_, ?_⟩
        · have cc := (hC.cell (p := ⟨p0, 2, none⟩) hp0).trans c2
          clear hC
          go_simp
        simp only [Act.put, List.setIfInBounds_toArray, List.set_cons_zero, List.set_cons_succ]
        go_big_quiet_on
        go_big_quiet_want
        refine ⟨.int .i64 (s - d), fun w0 hC => ?_, ?_⟩
        · clear hC
          have HW := HWR.out
          go_simp
        simp only [Act.put, List.setIfInBounds_toArray, List.set_cons_zero, List.set_cons_succ]
        go_big_quiet_on
        go_big_quiet_want
        refine ⟨.bool false, fun w0 hC => ?_, ?_⟩
        · go_simp
          refine (rin_any x 0 (s - d) _).mono ?_
          rintro e w' ⟨rfl, rfl⟩
          exact ⟨by rw [HI.out], hC⟩
        simp only [Act.put, List.setIfInBounds_toArray, List.set_cons_zero, List.set_cons_succ]
        go_big_quiet_on
        go_big_quiet_want
        refine ⟨.bool true, fun w0 hC => ?_, ?_⟩
        · clear hC
          go_simp
        simp only [Act.put, List.setIfInBounds_toArray, List.set_cons_zero, List.set_cons_succ]
        go_big_quiet_on
        go_big_quiet_want
        go_big_quiet_op
        go_big_quiet_on
        go_big_quiet_skip
        go_big_quiet_skip
        go_big_quiet_skip
        go_big_quiet_skip
        go_big_quiet_skip
        go_big_quiet_skip
        go_big_quiet_skip
        go_big_quiet_skip
        go_big_quiet_skip
        go_big_quiet_skip
        go_big_quiet_skip
        go_big_quiet_skip
        go_big_quiet_skip
        go_big_quiet_skip
        go_big_quiet_want
        refine ⟨.bool true, fun w0 hC => ?_, ?_⟩
        · clear hC
          go_simp
        simp only [Act.put, List.setIfInBounds_toArray, List.set_cons_zero, List.set_cons_succ]
        go_big_quiet_on
        refine wpQuiet_nil ?_
        intro w' hC
        go_wp2_with fail
        go_ret
        rw [HN.out]
        exact ⟨rfl, by rw [HP.out]; exact HBw.out.trans (hC.mono (Nat.le_trans hz0 HZ))⟩
      · have HI := Lib.hid hin; clear hin
        by_cases h0 : 0 < k
        · have q0 : decide ((0 : Int) < (k : Int)) = true := by simp; exact h0
          have e2 := E2.out h0
          have hb1 := hb0
          have ek : ((k : Int) - 1) = ((k - 1 : Nat) : Int) := by omega
          have HW2 := Lib.hid (show IntKind.i64.wrap ((k - 1 : Nat) : Int) = ((k - 1 : Nat) : Int) by rw [IntKind.wrap_i64]; omega)
          have hk1 : ((k - 1 : Nat) : Int) < (n : Int) := by omega
          have hk2 : (0 : Int) ≤ ((k - 1 : Nat) : Int) := by omega
          have hk3 : k - 1 < n := by omega
          generalize hy : l[k-1]?.getD 0 = y at *
          have HY := Lib.hid hy; clear hy
          by_cases h1 : x < y
          · have q1 : decide (x < y) = true := by simp; exact h1
            have hno : ¬ strokesP (s - d) l := fun h => by
              have := (h k (by rw [hl.out]; exact hlt)).2 h0
              rw [HX.out, HY.out] at this
              omega
            have HN := Lib.hid (HF.out hno); clear hno
            go_upto_region 4 with fail
            refine wp_region_quiet (C := fun w' : World => Below wr.heap.size wr w') (by kernel_rfl) (by kernel_rfl) (Below.refl _ _).drew ?_
            show wpQuiet _ _ _ _ (_ :: _) _
            go_big_quiet_want
            go_big_quiet_op
            go_big_quiet_on
            go_big_quiet_want
            go_big_quiet_op
            go_big_quiet_on
            go_big_quiet_want
            refine ⟨.pointer (some ⟨b, off + k, none⟩), fun w0 hC => ?_, ?_⟩
            · clear hC
              go_simp
            simp only [Act.put, List.setIfInBounds_toArray, List.set_cons_zero, List.set_cons_succ]
            go_big_quiet_on
            go_big_quiet_want
            refine ⟨.int .i64 x, fun w0 hC => ?_, ?_⟩
            · have cc := (hC.cell (p := ⟨b, off + k, none⟩) hb0).trans e1
              clear hC
              go_simp
            simp only [Act.put, List.setIfInBounds_toArray, List.set_cons_zero, List.set_cons_succ]
            go_big_quiet_on
            go_big_quiet_want
            refine ⟨.pointer (some ⟨p0, 1, none⟩), fun w0 hC => ?_, ?_⟩
            · clear hC
              go_simp
            simp only [Act.put, List.setIfInBounds_toArray, List.set_cons_zero, List.set_cons_succ]
            go_big_quiet_on
            go_big_quiet_want
            refine ⟨.int .i64 s, fun w0 hC => ?_, ?_⟩
            · have cc := (hC.cell (p := ⟨p0, 1, none⟩) hp0).trans c1
              clear hC
              go_simp
            simp only [Act.put, List.setIfInBounds_toArray, List.set_cons_zero, List.set_cons_succ]
            go_big_quiet_on
            go_big_quiet_want
            refine ⟨.pointer (some ⟨p0, 2, none⟩), fun w0 hC => ?_, ?_⟩
            · clear hC
              go_simp
            simp only [Act.put, List.setIfInBounds_toArray, List.set_cons_zero, List.set_cons_succ]
            go_big_quiet_on
            go_big_quiet_want
            refine ⟨.int .i64 d, fun w0 hC => ?_, ?_⟩
            · have cc := (hC.cell (p := ⟨p0, 2, none⟩) hp0).trans c2
              clear hC
              go_simp
            simp only [Act.put, List.setIfInBounds_toArray, List.set_cons_zero, List.set_cons_succ]
            go_big_quiet_on
            go_big_quiet_want
            refine ⟨.int .i64 (s - d), fun w0 hC => ?_, ?_⟩
            · clear hC
              have HW := HWR.out
              go_simp
            simp only [Act.put, List.setIfInBounds_toArray, List.set_cons_zero, List.set_cons_succ]
            go_big_quiet_on
            go_big_quiet_want
            refine ⟨.bool true, fun w0 hC => ?_, ?_⟩
            · go_simp
              refine (rin_any x 0 (s - d) _).mono ?_
              rintro e w' ⟨rfl, rfl⟩
              exact ⟨by rw [HI.out], hC⟩
            simp only [Act.put, List.setIfInBounds_toArray, List.set_cons_zero, List.set_cons_succ]
            go_big_quiet_on
            go_big_quiet_want
            refine ⟨.bool false, fun w0 hC => ?_, ?_⟩
            · clear hC
              go_simp
            simp only [Act.put, List.setIfInBounds_toArray, List.set_cons_zero, List.set_cons_succ]
            go_big_quiet_on
            go_big_quiet_want
            go_big_quiet_op
            go_big_quiet_on
            go_big_quiet_want
            go_big_quiet_op
            go_big_quiet_on
            go_big_quiet_want
            refine ⟨.bool true, fun w0 hC => ?_, ?_⟩
            · clear hC
              go_simp
            simp only [Act.put, List.setIfInBounds_toArray, List.set_cons_zero, List.set_cons_succ]
            go_big_quiet_on
            go_big_quiet_want
            go_big_quiet_op
            go_big_quiet_on
            go_big_quiet_want
            go_big_quiet_op
            go_big_quiet_on
            go_big_quiet_want
            go_big_quiet_op
            go_big_quiet_on
            go_big_quiet_want
            refine ⟨.pointer (some ⟨b, off + k, none⟩), fun w0 hC => ?_, ?_⟩
            · clear hC
              go_simp
            simp only [Act.put, List.setIfInBounds_toArray, List.set_cons_zero, List.set_cons_succ]
            go_big_quiet_on
            go_big_quiet_want
            refine ⟨.int .i64 x, fun w0 hC => ?_, ?_⟩
            · have cc := (hC.cell (p := ⟨b, off + k, none⟩) hb0).trans e1
              clear hC
              go_simp
            simp only [Act.put, List.setIfInBounds_toArray, List.set_cons_zero, List.set_cons_succ]
            go_big_quiet_on
            go_big_quiet_want
            go_big_quiet_op
            go_big_quiet_on
            go_big_quiet_want
            go_big_quiet_op
            go_big_quiet_on
            go_big_quiet_want
            refine ⟨.int .i64 ((k - 1 : Nat) : Int), fun w0 hC => ?_, ?_⟩
            · clear hC
              have HV := HW2.out
              go_simp
            simp only [Act.put, List.setIfInBounds_toArray, List.set_cons_zero, List.set_cons_succ]
            go_big_quiet_on
            go_big_quiet_want
            refine ⟨.pointer (some ⟨b, off + (k - 1), none⟩), fun w0 hC => ?_, ?_⟩
            · clear hC
              go_simp
            simp only [Act.put, List.setIfInBounds_toArray, List.set_cons_zero, List.set_cons_succ]
            go_big_quiet_on
            go_big_quiet_want
            refine ⟨.int .i64 y, fun w0 hC => ?_, ?_⟩
            · have cc := (hC.cell (p := ⟨b, off + (k - 1), none⟩) hb1).trans e2
              clear hC
              go_simp
            simp only [Act.put, List.setIfInBounds_toArray, List.set_cons_zero, List.set_cons_succ]
            go_big_quiet_on
            go_big_quiet_want
            refine ⟨.bool true, fun w0 hC => ?_, ?_⟩
            · clear hC
              go_simp
            simp only [Act.put, List.setIfInBounds_toArray, List.set_cons_zero, List.set_cons_succ]
            go_big_quiet_on
            go_big_quiet_want
            refine ⟨.bool true, fun w0 hC => ?_, ?_⟩
            · clear hC
              go_simp
            simp only [Act.put, List.setIfInBounds_toArray, List.set_cons_zero, List.set_cons_succ]
            go_big_quiet_on
            go_big_quiet_want
            refine ⟨.bool true, fun w0 hC => ?_, ?_⟩
            · clear hC
              go_simp
            simp only [Act.put, List.setIfInBounds_toArray, List.set_cons_zero, List.set_cons_succ]
            go_big_quiet_on
            refine wpQuiet_nil ?_
            intro w' hC
            go_wp2_with fail
            go_ret
            rw [HN.out]
            exact ⟨rfl, by rw [HP.out]; exact HBw.out.trans (hC.mono (Nat.le_trans hz0 HZ))⟩
          · have q1 : decide (x < y) = false := by simp; omega
            have HG := Lib.hid (show inB x 0 (s - d) = true ∧ (0 < k → y ≤ x) from ⟨HI.out, fun _ => by omega⟩)
            go_upto_region 4 with fail
            refine wp_region_quiet (C := fun w' : World => Below wr.heap.size wr w') (by kernel_rfl) (by kernel_rfl) (Below.refl _ _).drew ?_
            show wpQuiet _ _ _ _ (_ :: _) _
            go_big_quiet_want
            go_big_quiet_op
            go_big_quiet_on
            go_big_quiet_want
            go_big_quiet_op
            go_big_quiet_on
            go_big_quiet_want
            refine ⟨.pointer (some ⟨b, off + k, none⟩), fun w0 hC => ?_, ?_⟩
            · clear hC
              go_simp
            simp only [Act.put, List.setIfInBounds_toArray, List.set_cons_zero, List.set_cons_succ]
            go_big_quiet_on
            go_big_quiet_want
            refine ⟨.int .i64 x, fun w0 hC => ?_, ?_⟩
            · have cc := (hC.cell (p := ⟨b, off + k, none⟩) hb0).trans e1
              clear hC
              go_simp
            simp only [Act.put, List.setIfInBounds_toArray, List.set_cons_zero, List.set_cons_succ]
            go_big_quiet_on
            go_big_quiet_want
            refine ⟨.pointer (some ⟨p0, 1, none⟩), fun w0 hC => ?_, ?_⟩
            · clear hC
              go_simp
            simp only [Act.put, List.setIfInBounds_toArray, List.set_cons_zero, List.set_cons_succ]
            go_big_quiet_on
            go_big_quiet_want
            refine ⟨.int .i64 s, fun w0 hC => ?_, ?_⟩
            · have cc := (hC.cell (p := ⟨p0, 1, none⟩) hp0).trans c1
              clear hC
              go_simp
            simp only [Act.put, List.setIfInBounds_toArray, List.set_cons_zero, List.set_cons_succ]
            go_big_quiet_on
            go_big_quiet_want
            refine ⟨.pointer (some ⟨p0, 2, none⟩), fun w0 hC => ?_, ?_⟩
            · clear hC
              go_simp
            simp only [Act.put, List.setIfInBounds_toArray, List.set_cons_zero, List.set_cons_succ]
            go_big_quiet_on
            go_big_quiet_want
            refine ⟨.int .i64 d, fun w0 hC => ?_, ?_⟩
            · have cc := (hC.cell (p := ⟨p0, 2, none⟩) hp0).trans c2
              clear hC
              go_simp
            simp only [Act.put, List.setIfInBounds_toArray, List.set_cons_zero, List.set_cons_succ]
            go_big_quiet_on
            go_big_quiet_want
            refine ⟨.int .i64 (s - d), fun w0 hC => ?_, ?_⟩
            · clear hC
              have HW := HWR.out
              go_simp
            simp only [Act.put, List.setIfInBounds_toArray, List.set_cons_zero, List.set_cons_succ]
            go_big_quiet_on
            go_big_quiet_want
            refine ⟨.bool true, fun w0 hC => ?_, ?_⟩
            · go_simp
              refine (rin_any x 0 (s - d) _).mono ?_
              rintro e w' ⟨rfl, rfl⟩
              exact ⟨by rw [HI.out], hC⟩
            simp only [Act.put, List.setIfInBounds_toArray, List.set_cons_zero, List.set_cons_succ]
            go_big_quiet_on
            go_big_quiet_want
            refine ⟨.bool false, fun w0 hC => ?_, ?_⟩
            · clear hC
              go_simp
            simp only [Act.put, List.setIfInBounds_toArray, List.set_cons_zero, List.set_cons_succ]
            go_big_quiet_on
            go_big_quiet_want
            go_big_quiet_op
            go_big_quiet_on
            go_big_quiet_want
            go_big_quiet_op
            go_big_quiet_on
            go_big_quiet_want
            refine ⟨.bool true, fun w0 hC => ?_, ?_⟩
            · clear hC
              go_simp
            simp only [Act.put, List.setIfInBounds_toArray, List.set_cons_zero, List.set_cons_succ]
            go_big_quiet_on
            go_big_quiet_want
            go_big_quiet_op
            go_big_quiet_on
            go_big_quiet_want
            go_big_quiet_op
            go_big_quiet_on
            go_big_quiet_want
            go_big_quiet_op
            go_big_quiet_on
            go_big_quiet_want
            refine ⟨.pointer (some ⟨b, off + k, none⟩), fun w0 hC => ?_, ?_⟩
            · clear hC
              go_simp
            simp only [Act.put, List.setIfInBounds_toArray, List.set_cons_zero, List.set_cons_succ]
            go_big_quiet_on
            go_big_quiet_want
            refine ⟨.int .i64 x, fun w0 hC => ?_, ?_⟩
            · have cc := (hC.cell (p := ⟨b, off + k, none⟩) hb0).trans e1
              clear hC
              go_simp
            simp only [Act.put, List.setIfInBounds_toArray, List.set_cons_zero, List.set_cons_succ]
            go_big_quiet_on
            go_big_quiet_want
            go_big_quiet_op
            go_big_quiet_on
            go_big_quiet_want
            go_big_quiet_op
            go_big_quiet_on
            go_big_quiet_want
            refine ⟨.int .i64 ((k - 1 : Nat) : Int), fun w0 hC => ?_, ?_⟩
            · clear hC
              have HV := HW2.out
              go_simp
            simp only [Act.put, List.setIfInBounds_toArray, List.set_cons_zero, List.set_cons_succ]
            go_big_quiet_on
            go_big_quiet_want
            refine ⟨.pointer (some ⟨b, off + (k - 1), none⟩), fun w0 hC => ?_, ?_⟩
            · clear hC
              go_simp
            simp only [Act.put, List.setIfInBounds_toArray, List.set_cons_zero, List.set_cons_succ]
            go_big_quiet_on
            go_big_quiet_want
            refine ⟨.int .i64 y, fun w0 hC => ?_, ?_⟩
            · have cc := (hC.cell (p := ⟨b, off + (k - 1), none⟩) hb1).trans e2
              clear hC
              go_simp
            simp only [Act.put, List.setIfInBounds_toArray, List.set_cons_zero, List.set_cons_succ]
            go_big_quiet_on
            go_big_quiet_want
            refine ⟨.bool false, fun w0 hC => ?_, ?_⟩
            · clear hC
              go_simp
            simp only [Act.put, List.setIfInBounds_toArray, List.set_cons_zero, List.set_cons_succ]
            go_big_quiet_on
            go_big_quiet_want
            refine ⟨.bool false, fun w0 hC => ?_, ?_⟩
            · clear hC
              go_simp
            simp only [Act.put, List.setIfInBounds_toArray, List.set_cons_zero, List.set_cons_succ]
            go_big_quiet_on
            go_big_quiet_want
            refine ⟨.bool false, fun w0 hC => ?_, ?_⟩
            · clear hC
              go_simp
            simp only [Act.put, List.setIfInBounds_toArray, List.set_cons_zero, List.set_cons_succ]
            go_big_quiet_on
            refine wpQuiet_nil ?_
            intro w' hC
            have HC := Lib.hid (hbw.out.trans (hC.mono HZ)); clear hC
            go_wp2_with fail
            go_roundw
            case rel => exact ⟨k + 1, by omega, by go_num, HC, Lib.hid fun j hj => by
              rcases Nat.lt_succ_iff_lt_or_eq.1 hj with h | h
              · exact HR.out j h
              · rw [h, HX.out, HY.out]; exact HG.out⟩
            case measure => simp [intOf]; omega
        · have q0 : decide ((0 : Int) < (k : Int)) = false := by simp; omega
          have HG := Lib.hid (show inB x 0 (s - d) = true ∧ (0 < k → l[k-1]?.getD 0 ≤ x) from ⟨HI.out, fun h => absurd h h0⟩)
          go_upto_region 4 with fail
          refine wp_region_quiet (C := fun w' : World => Below wr.heap.size wr w') (by kernel_rfl) (by kernel_rfl) (Below.refl _ _).drew ?_
          show wpQuiet _ _ _ _ (_ :: _) _
          go_big_quiet_want
          go_big_quiet_op
          go_big_quiet_on
          go_big_quiet_want
          go_big_quiet_op
          go_big_quiet_on
          go_big_quiet_want
          refine ⟨.pointer (some ⟨b, off + k, none⟩), fun w0 hC => ?_, ?_⟩
          · clear hC
            go_simp
          simp only [Act.put, List.setIfInBounds_toArray, List.set_cons_zero, List.set_cons_succ]
          go_big_quiet_on
          go_big_quiet_want
          refine ⟨.int .i64 x, fun w0 hC => ?_, ?_⟩
          · have cc := (hC.cell (p := ⟨b, off + k, none⟩) hb0).trans e1
            clear hC
            go_simp
          simp only [Act.put, List.setIfInBounds_toArray, List.set_cons_zero, List.set_cons_succ]
          go_big_quiet_on
          go_big_quiet_want
          refine ⟨.pointer (some ⟨p0, 1, none⟩), fun w0 hC => ?_, ?_⟩
          · clear hC
            go_simp
          simp only [Act.put, List.setIfInBounds_toArray, List.set_cons_zero, List.set_cons_succ]
          go_big_quiet_on
          go_big_quiet_want
          refine ⟨.int .i64 s, fun w0 hC => ?_, ?_⟩
          · have cc := (hC.cell (p := ⟨p0, 1, none⟩) hp0).trans c1
            clear hC
            go_simp
          simp only [Act.put, List.setIfInBounds_toArray, List.set_cons_zero, List.set_cons_succ]
          go_big_quiet_on
          go_big_quiet_want
          refine ⟨.pointer (some ⟨p0, 2, none⟩), fun w0 hC => ?_, ?_⟩
          · clear hC
            go_simp
          simp only [Act.put, List.setIfInBounds_toArray, List.set_cons_zero, List.set_cons_succ]
          go_big_quiet_on
          go_big_quiet_want
          refine ⟨.int .i64 d, fun w0 hC => ?_, ?_⟩
          · have cc := (hC.cell (p := ⟨p0, 2, none⟩) hp0).trans c2
            clear hC
            go_simp
          simp only [Act.put, List.setIfInBounds_toArray, List.set_cons_zero, List.set_cons_succ]
          go_big_quiet_on
          go_big_quiet_want
          refine ⟨.int .i64 (s - d), fun w0 hC => ?_, ?_⟩
          · clear hC
            have HW := HWR.out
            go_simp
          simp only [Act.put, List.setIfInBounds_toArray, List.set_cons_zero, List.set_cons_succ]
          go_big_quiet_on
          go_big_quiet_want
          refine ⟨.bool true, fun w0 hC => ?_, ?_⟩
          · go_simp
            refine (rin_any x 0 (s - d) _).mono ?_
            rintro e w' ⟨rfl, rfl⟩
            exact ⟨by rw [HI.out], hC⟩
          simp only [Act.put, List.setIfInBounds_toArray, List.set_cons_zero, List.set_cons_succ]
          go_big_quiet_on
          go_big_quiet_want
          refine ⟨.bool false, fun w0 hC => ?_, ?_⟩
          · clear hC
            go_simp
          simp only [Act.put, List.setIfInBounds_toArray, List.set_cons_zero, List.set_cons_succ]
          go_big_quiet_on
          go_big_quiet_want
          go_big_quiet_op
          go_big_quiet_on
          go_big_quiet_want
          go_big_quiet_op
          go_big_quiet_on
          go_big_quiet_want
          refine ⟨.bool false, fun w0 hC => ?_, ?_⟩
          · clear hC
            go_simp
          simp only [Act.put, List.setIfInBounds_toArray, List.set_cons_zero, List.set_cons_succ]
          go_big_quiet_on
          go_big_quiet_want
          go_big_quiet_op
          go_big_quiet_on
          go_big_quiet_skip
          go_big_quiet_skip
          go_big_quiet_skip
          go_big_quiet_skip
          go_big_quiet_skip
          go_big_quiet_skip
          go_big_quiet_skip
          go_big_quiet_skip
          go_big_quiet_skip
          go_big_quiet_skip
          go_big_quiet_want
          refine ⟨.bool false, fun w0 hC => ?_, ?_⟩
          · clear hC
            go_simp
          simp only [Act.put, List.setIfInBounds_toArray, List.set_cons_zero, List.set_cons_succ]
          go_big_quiet_on
          go_big_quiet_want
          refine ⟨.bool false, fun w0 hC => ?_, ?_⟩
          · clear hC
            go_simp
          simp only [Act.put, List.setIfInBounds_toArray, List.set_cons_zero, List.set_cons_succ]
          go_big_quiet_on
          refine wpQuiet_nil ?_
          intro w' hC
          have HC := Lib.hid (hbw.out.trans (hC.mono HZ)); clear hC
          go_wp2_with fail
          go_roundw
          case rel => exact ⟨k + 1, by omega, by go_num, HC, Lib.hid fun j hj => by
            rcases Nat.lt_succ_iff_lt_or_eq.1 hj with h | h
            · exact HR.out j h
            · rw [h, HX.out]; exact HG.out⟩
          case measure => simp [intOf]; omega
    · have hkn : k = n := by omega
      subst hkn
      have hyes : strokesP (s - d) l := fun i hi => HR.out i (by rw [hl.out] at hi; exact hi)
      have HY := Lib.hid (HT.out hyes); clear hyes hr1
      go_wp2_with fail
      refine (rin_any _ _ _ _).mono ?_
      rintro e w' ⟨rfl, rfl⟩
      go_wp2_with fail
      go_ret
      rw [HY.out]
      exact ⟨rfl, by rw [HP.out]; exact HBw.out⟩
end Go.Proofs.Ytpjiakgfegnmcaa
