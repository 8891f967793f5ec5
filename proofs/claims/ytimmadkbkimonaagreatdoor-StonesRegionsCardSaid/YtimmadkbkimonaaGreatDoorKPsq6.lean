/- Parts of the proof, in this order: Beside, Neighbours of the reference; around of the reference; Dead of stones; marks of the reference; Regions of the reference; Drains of stones. -/
import Derived.Deep.Cut
import Derived.Deep.LoopGhost
import Derived.Test.YtimmadkbkimonaaGreatDoorKPsq5
set_option linter.unusedSimpArgs false
set_option linter.unusedVariables false
open List renaming getElem_toArray → lq0, getElem_cons_succ → lq1, getElem_cons_zero → lq2, setIfInBounds_toArray → lq3, set_cons_zero → lq4, set_cons_succ → lq5
namespace Go.Proofs.YtimmadkbkimonaaGreatDoor
set_option linter.unusedSimpArgs false
set_option linter.unusedVariables false
open Go.RowKit

theorem rNeighF_succ (f : FaceV) (c : CellV) (k : Nat) : rNeighF f c (k + 1) = rNeighF f c k ++ (if rBeside f c (cellF f k) = true then [cellF f k] else []) := by
  unfold rNeighF
  rw [List.range_succ, List.filterMap_append]
  congr 1
  by_cases h : rBeside f c (cellF f k) = true
  · rw [if_pos h]; simp [h]
  · rw [if_neg h]; simp [h]
theorem rNeighF_len (f : FaceV) (c : CellV) (k : Nat) : (rNeighF f c k).length ≤ k := by
  unfold rNeighF
  refine Nat.le_trans (List.length_filterMap_le _ _) ?_
  rw [List.length_range]
  exact Nat.le_refl _
set_option maxHeartbeats 4000000 in
set_option maxRecDepth 100000 in
theorem rbeside_any (f : FaceV) (a : Option Addr) (n : Nat) (c d : CellV) (w : World) (hv : f.valid = true) (hc : hasF f c = true) (hd : hasF f d = true) :
    Calls Tryz.prog 91 #[.agg (f.cells a n), .agg (cellA c), .agg (cellA d)] w fun e w' => e = .returned (.bool (rBeside f c d)) ∧ Below w.heap.size w w' := by
  have HV := Lib.hid hv
  have IV := Lib.hid (FaceV.int hv)
  have HC := Lib.hid (hasF_iff.1 hc)
  have HD := Lib.hid (hasF_iff.1 hd)
  clear hv hc hd
  have AL := Lib.hid (al3 w (.cells (f.cells a n) 28) (.cells (cellA c) 41) (.cells (cellA d) 41))
  go_enter Tryz.func91, Tryz.ntmps91
  go_upto_region 1 with fail
  obtain ⟨p, hp⟩ : ∃ p, Hid (w.heap.size = p) := ⟨_, Lib.hid rfl⟩
  obtain ⟨q, hq⟩ : ∃ q, Hid (w.heap.size + 1 = q) := ⟨_, Lib.hid rfl⟩
  obtain ⟨r, hr⟩ : ∃ r, Hid (w.heap.size + 2 = r) := ⟨_, Lib.hid rfl⟩
  rw [hr.out] at AL ⊢
  rw [hq.out] at AL ⊢
  rw [hp.out] at AL ⊢
  generalize (((w.alloc (.cells (f.cells a n) 28)).alloc (.cells (cellA c) 41)).alloc (.cells (cellA d) 41)) = W0 at *
  have BF : Hid (Below w.heap.size w W0) := Lib.hid (by rw [hp.out]; exact AL.out.1)
  have XF : Hid (W0.heap[p]? = some (.cells (f.cells a n) 28 (0, 0))) := Lib.hid AL.out.2.1
  have XC : Hid (W0.heap[q]? = some (.cells (cellA c) 41 (0, 0))) := Lib.hid AL.out.2.2.1
  have XD : Hid (W0.heap[r]? = some (.cells (cellA d) 41 (0, 0))) := Lib.hid AL.out.2.2.2
  clear AL
  have c0 := qcell XF.out 0 (.int .i64 f.eye) rfl
  have c1 := qcell XF.out 1 (.int .i64 f.rings) rfl
  have c2 := qcell XF.out 2 (.int .i64 f.sectors) rfl
  have c3 := qcell XF.out 3 (.slice a f.kinds.length n) rfl
  have d0 := qcell XC.out 0 (.int .i64 c.1) rfl
  have d1 := qcell XC.out 1 (.int .i64 c.2) rfl
  have e0 := qcell XD.out 0 (.int .i64 d.1) rfl
  have e1 := qcell XD.out 1 (.int .i64 d.2) rfl
  clear c0 c1 c2 c3 d0 d1 e0 e1
  have WSd1 := Lib.hid (show wrap64 (d.1 + 1) = d.1 + 1 by have := HC.out; have := HD.out; have := IV.out; unfold wrap64; omega)
  have WSc1 := Lib.hid (show wrap64 (c.1 + 1) = c.1 + 1 by have := HC.out; have := HD.out; have := IV.out; unfold wrap64; omega)
  have WSc2 := Lib.hid (show wrap64 (c.2 + 1) = c.2 + 1 by have := HC.out; have := HD.out; have := IV.out; unfold wrap64; omega)
  have WSd2 := Lib.hid (show wrap64 (d.2 + 1) = d.2 + 1 by have := HC.out; have := HD.out; have := IV.out; unfold wrap64; omega)
  refine yB ?_
  refine yW (.pointer (some ⟨q, 1, none⟩)) ?_
  refine yW (.int .i64 c.2) ?_ (.inl ⟨by kernel_rfl, by intro W hW; rw [hW]; have c := qcell XC.out 1 (.int .i64 c.2) rfl; go_simp⟩)
  refine yW (.pointer (some ⟨r, 1, none⟩)) ?_
  refine yW (.int .i64 d.2) ?_ (.inl ⟨by kernel_rfl, by intro W hW; rw [hW]; have c := qcell XD.out 1 (.int .i64 d.2) rfl; go_simp⟩)
  cases h1 : decide (c.2 = d.2)
  · refine yW (.bool false) ?_ (.inl ⟨by kernel_rfl, by intro W hW; rw [hW]; go_simp; simpa using h1⟩)
    refine yE ?_
    go_upto_region 3 with fail
    have hd : Below W0.heap.size W0 W0.drew := (Below.refl _ _).drew
    replace BF := Lib.hid (BF.out.trans (hd.mono BF.out.size))
    replace XF := Lib.hid (qblk hd XF.out)
    replace XC := Lib.hid (qblk hd XC.out)
    replace XD := Lib.hid (qblk hd XD.out)
    clear hd
    refine zD (fun W => Below W0.drew.heap.size W0.drew W) (Below.refl _ _) (fun hHeld => ?_)
    have BV := Lib.hid hHeld
    generalize W0.drew = V1 at *
    refine zW 0 rfl (.pointer (some ⟨q, 0, none⟩)) ?_
    refine zS 1 rfl (.int .i64 c.1) (fun W hW => by have c := qcell (qblk hW XC.out) 0 (.int .i64 c.1) rfl; go_simp) ?_
    refine zW 2 rfl (.pointer (some ⟨r, 0, none⟩)) ?_
    refine zS 3 rfl (.int .i64 d.1) (fun W hW => by have c := qcell (qblk hW XD.out) 0 (.int .i64 d.1) rfl; go_simp) ?_
    cases h2 : decide (c.1 = d.1)
    · refine zW 4 rfl (.bool false) (hy := .inl ⟨by kernel_rfl, by intro W hW; go_simp; simpa using h2⟩) ?_
      refine zW 5 rfl (.bool false) ?_
      refine zW 6 rfl undef (hy := .inr ⟨by kernel_rfl, rfl⟩) ?_
      refine zW 7 rfl undef (hy := .inr ⟨by kernel_rfl, rfl⟩) ?_
      refine zW 8 rfl undef (hy := .inr ⟨by kernel_rfl, rfl⟩) ?_
      refine zW 9 rfl undef (hy := .inr ⟨by kernel_rfl, rfl⟩) ?_
      refine zW 10 rfl undef (hy := .inr ⟨by kernel_rfl, rfl⟩) ?_
      refine zW 11 rfl undef (hy := .inr ⟨by kernel_rfl, rfl⟩) ?_
      refine zW 12 rfl undef (hy := .inr ⟨by kernel_rfl, rfl⟩) ?_
      refine zW 13 rfl undef (hy := .inr ⟨by kernel_rfl, rfl⟩) ?_
      refine zW 14 rfl undef (hy := .inr ⟨by kernel_rfl, rfl⟩) ?_
      refine zW 15 rfl undef (hy := .inr ⟨by kernel_rfl, rfl⟩) ?_
      refine zW 16 rfl undef (hy := .inr ⟨by kernel_rfl, rfl⟩) ?_
      refine zW 17 rfl undef (hy := .inr ⟨by kernel_rfl, rfl⟩) ?_
      refine zW 18 rfl undef (hy := .inr ⟨by kernel_rfl, rfl⟩) ?_
      refine zW 19 rfl undef (hy := .inr ⟨by kernel_rfl, rfl⟩) ?_
      refine zW 20 rfl undef (hy := .inr ⟨by kernel_rfl, rfl⟩) ?_
      refine zW 21 rfl undef (hy := .inr ⟨by kernel_rfl, rfl⟩) ?_
      refine zW 22 rfl undef (hy := .inr ⟨by kernel_rfl, rfl⟩) ?_
      refine zW 23 rfl undef (hy := .inr ⟨by kernel_rfl, rfl⟩) ?_
      refine zW 24 rfl (.bool false) ?_
      refine zW 25 rfl (.bool false) ?_
      refine zE ?_
      have bz := BV.out
      replace BF := Lib.hid (BF.out.trans (bz.mono BF.out.size))
      replace XF := Lib.hid (qblk bz XF.out)
      replace XC := Lib.hid (qblk bz XC.out)
      replace XD := Lib.hid (qblk bz XD.out)
      clear bz
      clear BV
      have RB : Hid (rBeside f c d = false) := Lib.hid (by unfold rBeside; rw [if_neg (of_decide_eq_false h1), h2]; rfl)
      go_wp2_with fail
      go_ret
      exact ⟨by rw [RB.out]; rfl, BF.out⟩
    · refine zW 4 rfl (.bool true) (hy := .inl ⟨by kernel_rfl, by intro W hW; go_simp; simpa using h2⟩) ?_
      refine zW 5 rfl (.bool true) ?_
      refine zT 6 rfl (.agg (f.cells a n)) (qyrow (by kernel_rfl) 28 _ rfl p rfl _ 28 (0, 0) _ (fun W hW => qblk hW XF.out) Tryz.underlying28 rfl (by exact (qJF f a n))) ?_
      refine zW 7 rfl (.pointer (some ⟨q, 1, none⟩)) ?_
      refine zS 8 rfl (.int .i64 c.2) (fun W hW => by have c := qcell (qblk hW XC.out) 1 (.int .i64 c.2) rfl; go_simp) ?_
      refine zW 9 rfl (.int .i64 (c.2 + 1)) (hy := .inl ⟨by kernel_rfl, by intro W hW; go_simp; exact (IntWalk.i64_left _).trans WSc2.out⟩) ?_
      refine zW 11 rfl (.pointer (some ⟨r, 1, none⟩)) ?_
      refine zS 12 rfl (.int .i64 d.2) (fun W hW => by have c := qcell (qblk hW XD.out) 1 (.int .i64 d.2) rfl; go_simp) ?_
      refine zR 10 rfl (fun K hK => ?_)
      go_simp
      refine (rround_any f a n (c.2 + 1) _ (by have := IV.out; omega)).mono ?_
      rintro e Z1 ⟨rfl, b⟩
      have BV2 := Lib.hid (BV.out.trans (b.mono BV.out.size))
      clear b BV
      have BV := BV2
      clear BV2
      try dsimp only
      refine zK hK BV.out (fun hHeld => ?_)
      clear hK K
      cases h3 : decide (around (c.2 + 1) f.sectors = d.2)
      · refine zW 13 rfl (.bool false) (hy := .inl ⟨by kernel_rfl, by intro W hW; go_simp; simpa using h3⟩) ?_
        refine zW 14 rfl (.bool false) ?_
        refine zT 15 rfl (.agg (f.cells a n)) (qyrow (by kernel_rfl) 28 _ rfl p rfl _ 28 (0, 0) _ (fun W hW => qblk hW XF.out) Tryz.underlying28 rfl (by exact (qJF f a n))) ?_
        refine zW 16 rfl (.pointer (some ⟨r, 1, none⟩)) ?_
        refine zS 17 rfl (.int .i64 d.2) (fun W hW => by have c := qcell (qblk hW XD.out) 1 (.int .i64 d.2) rfl; go_simp) ?_
        refine zW 18 rfl (.int .i64 (d.2 + 1)) (hy := .inl ⟨by kernel_rfl, by intro W hW; go_simp; exact (IntWalk.i64_left _).trans WSd2.out⟩) ?_
        refine zW 20 rfl (.pointer (some ⟨q, 1, none⟩)) ?_
        refine zS 21 rfl (.int .i64 c.2) (fun W hW => by have c := qcell (qblk hW XC.out) 1 (.int .i64 c.2) rfl; go_simp) ?_
        refine zR 19 rfl (fun K hK => ?_)
        go_simp
        refine (rround_any f a n (d.2 + 1) _ (by have := IV.out; omega)).mono ?_
        rintro e Z2 ⟨rfl, b⟩
        have BV2 := Lib.hid (BV.out.trans (b.mono BV.out.size))
        clear b BV
        have BV := BV2
        clear BV2
        try dsimp only
        refine zK hK BV.out (fun hHeld => ?_)
        clear hK K
        cases h4 : decide (around (d.2 + 1) f.sectors = c.2)
        · refine zW 22 rfl (.bool false) (hy := .inl ⟨by kernel_rfl, by intro W hW; go_simp; simpa using h4⟩) ?_
          refine zW 23 rfl (.bool false) ?_
          refine zW 24 rfl (.bool false) ?_
          refine zW 25 rfl (.bool false) ?_
          refine zE ?_
          have bz := BV.out
          replace BF := Lib.hid (BF.out.trans (bz.mono BF.out.size))
          replace XF := Lib.hid (qblk bz XF.out)
          replace XC := Lib.hid (qblk bz XC.out)
          replace XD := Lib.hid (qblk bz XD.out)
          clear bz
          clear BV
          have RB : Hid (rBeside f c d = false) := Lib.hid (by unfold rBeside; rw [if_neg (of_decide_eq_false h1), h2, h3, h4]; rfl)
          go_wp2_with fail
          go_ret
          exact ⟨by rw [RB.out]; rfl, BF.out⟩
        · refine zW 22 rfl (.bool true) (hy := .inl ⟨by kernel_rfl, by intro W hW; go_simp; simpa using h4⟩) ?_
          refine zW 23 rfl (.bool true) ?_
          refine zW 24 rfl (.bool true) ?_
          refine zW 25 rfl (.bool true) ?_
          refine zE ?_
          have bz := BV.out
          replace BF := Lib.hid (BF.out.trans (bz.mono BF.out.size))
          replace XF := Lib.hid (qblk bz XF.out)
          replace XC := Lib.hid (qblk bz XC.out)
          replace XD := Lib.hid (qblk bz XD.out)
          clear bz
          clear BV
          have RB : Hid (rBeside f c d = true) := Lib.hid (by unfold rBeside; rw [if_neg (of_decide_eq_false h1), h2, h3, h4]; rfl)
          go_wp2_with fail
          go_ret
          exact ⟨by rw [RB.out]; rfl, BF.out⟩
      · refine zW 13 rfl (.bool true) (hy := .inl ⟨by kernel_rfl, by intro W hW; go_simp; simpa using h3⟩) ?_
        refine zW 14 rfl (.bool true) ?_
        refine zW 15 rfl undef (hy := .inr ⟨by kernel_rfl, rfl⟩) ?_
        refine zW 16 rfl undef (hy := .inr ⟨by kernel_rfl, rfl⟩) ?_
        refine zW 17 rfl undef (hy := .inr ⟨by kernel_rfl, rfl⟩) ?_
        refine zW 18 rfl undef (hy := .inr ⟨by kernel_rfl, rfl⟩) ?_
        refine zW 19 rfl undef (hy := .inr ⟨by kernel_rfl, rfl⟩) ?_
        refine zW 20 rfl undef (hy := .inr ⟨by kernel_rfl, rfl⟩) ?_
        refine zW 21 rfl undef (hy := .inr ⟨by kernel_rfl, rfl⟩) ?_
        refine zW 22 rfl undef (hy := .inr ⟨by kernel_rfl, rfl⟩) ?_
        refine zW 23 rfl (.bool true) ?_
        refine zW 24 rfl (.bool true) ?_
        refine zW 25 rfl (.bool true) ?_
        refine zE ?_
        have bz := BV.out
        replace BF := Lib.hid (BF.out.trans (bz.mono BF.out.size))
        replace XF := Lib.hid (qblk bz XF.out)
        replace XC := Lib.hid (qblk bz XC.out)
        replace XD := Lib.hid (qblk bz XD.out)
        clear bz
        clear BV
        have RB : Hid (rBeside f c d = true) := Lib.hid (by unfold rBeside; rw [if_neg (of_decide_eq_false h1), h2, h3]; rfl)
        go_wp2_with fail
        go_ret
        exact ⟨by rw [RB.out]; rfl, BF.out⟩
  · refine yW (.bool true) ?_ (.inl ⟨by kernel_rfl, by intro W hW; rw [hW]; go_simp; simpa using h1⟩)
    refine yE ?_
    go_upto_region 2 with fail
    refine yB ?_
    refine yW (.pointer (some ⟨q, 0, none⟩)) ?_
    refine yW (.int .i64 c.1) ?_ (.inl ⟨by kernel_rfl, by intro W hW; rw [hW]; have c := qcell XC.out 0 (.int .i64 c.1) rfl; go_simp⟩)
    refine yW (.pointer (some ⟨r, 0, none⟩)) ?_
    refine yW (.int .i64 d.1) ?_ (.inl ⟨by kernel_rfl, by intro W hW; rw [hW]; have c := qcell XD.out 0 (.int .i64 d.1) rfl; go_simp⟩)
    refine yW (.int .i64 (d.1 + 1)) ?_ (.inl ⟨by kernel_rfl, by intro W hW; rw [hW]; go_simp; exact (IntWalk.i64_left _).trans WSd1.out⟩)
    cases h2 : decide (c.1 = d.1 + 1)
    · refine yW (.bool false) ?_ (.inl ⟨by kernel_rfl, by intro W hW; rw [hW]; go_simp; simpa using h2⟩)
      refine yM (.bool false) ?_
      refine yW (.pointer (some ⟨r, 0, none⟩)) ?_
      refine yW (.int .i64 d.1) ?_ (.inl ⟨by kernel_rfl, by intro W hW; rw [hW]; have c := qcell XD.out 0 (.int .i64 d.1) rfl; go_simp⟩)
      refine yW (.pointer (some ⟨q, 0, none⟩)) ?_
      refine yW (.int .i64 c.1) ?_ (.inl ⟨by kernel_rfl, by intro W hW; rw [hW]; have c := qcell XC.out 0 (.int .i64 c.1) rfl; go_simp⟩)
      refine yW (.int .i64 (c.1 + 1)) ?_ (.inl ⟨by kernel_rfl, by intro W hW; rw [hW]; go_simp; exact (IntWalk.i64_left _).trans WSc1.out⟩)
      cases h3 : decide (d.1 = c.1 + 1)
      · refine yW (.bool false) ?_ (.inl ⟨by kernel_rfl, by intro W hW; rw [hW]; go_simp; simpa using h3⟩)
        refine yM (.bool false) ?_
        refine yM (.bool false) ?_
        refine yE ?_
        have RB : Hid (rBeside f c d = false) := Lib.hid (by unfold rBeside; rw [if_pos (of_decide_eq_true h1), h2, h3]; rfl)
        go_wp2_with fail
        go_ret
        exact ⟨by rw [RB.out]; rfl, BF.out⟩
      · refine yW (.bool true) ?_ (.inl ⟨by kernel_rfl, by intro W hW; rw [hW]; go_simp; simpa using h3⟩)
        refine yM (.bool true) ?_
        refine yM (.bool true) ?_
        refine yE ?_
        have RB : Hid (rBeside f c d = true) := Lib.hid (by unfold rBeside; rw [if_pos (of_decide_eq_true h1), h2, h3]; rfl)
        go_wp2_with fail
        go_ret
        exact ⟨by rw [RB.out]; rfl, BF.out⟩
    · refine yW (.bool true) ?_ (.inl ⟨by kernel_rfl, by intro W hW; rw [hW]; go_simp; simpa using h2⟩)
      refine yM (.bool true) ?_
      go_skip
      refine yM (.bool true) ?_
      refine yM (.bool true) ?_
      refine yE ?_
      have RB : Hid (rBeside f c d = true) := Lib.hid (by unfold rBeside; rw [if_pos (of_decide_eq_true h1), h2]; rfl)
      go_wp2_with fail
      go_ret
      exact ⟨by rw [RB.out]; rfl, BF.out⟩
set_option maxHeartbeats 4000000 in
set_option maxRecDepth 100000 in
theorem rneighP_any (f : FaceV) (a : Option Addr) (n : Nat) (c : CellV) (w : World) (hr : RdI w a f.kinds.length n f.kinds) :
    Calls Tryz.prog 23 #[.agg (f.cells a n), .agg (cellA c)] w fun e w' => (∃ oa oc, e = .returned (.tuple #[.slice oa (neighP f c).1.length oc, .int .i64 (neighP f c).2]) ∧ w'.ownsRow w.heap.size 41 2 (.slice oa (neighP f c).1.length oc) (neighP f c).1.length (cellsV (neighP f c).1)) ∧ Below w.heap.size w w' := by
  have AK := Lib.hid (fun W (hb : Below w.heap.size w W) => rasked_any f a n c W (hr.below hb))
  clear hr
  have AL := Lib.hid (al2 w (.cells (f.cells a n) 28) (.cells (cellA c) 41))
  go_enter Tryz.func23, Tryz.ntmps23
  go_upto_region 1 with fail
  obtain ⟨p, hp⟩ : ∃ p, Hid (w.heap.size = p) := ⟨_, Lib.hid rfl⟩
  obtain ⟨q, hq⟩ : ∃ q, Hid (w.heap.size + 1 = q) := ⟨_, Lib.hid rfl⟩
  rw [hq.out] at AL ⊢
  rw [hp.out] at AL ⊢
  generalize ((w.alloc (.cells (f.cells a n) 28)).alloc (.cells (cellA c) 41)) = W0 at *
  have BF : Hid (Below w.heap.size w W0) := Lib.hid (by rw [hp.out]; exact AL.out.1)
  have XF : Hid (W0.heap[p]? = some (.cells (f.cells a n) 28 (0, 0))) := Lib.hid AL.out.2.1
  have XC : Hid (W0.heap[q]? = some (.cells (cellA c) 41 (0, 0))) := Lib.hid AL.out.2.2
  clear AL
  have c0 := qcell XF.out 0 (.int .i64 f.eye) rfl
  have c1 := qcell XF.out 1 (.int .i64 f.rings) rfl
  have c2 := qcell XF.out 2 (.int .i64 f.sectors) rfl
  have c3 := qcell XF.out 3 (.slice a f.kinds.length n) rfl
  have d0 := qcell XC.out 0 (.int .i64 c.1) rfl
  have d1 := qcell XC.out 1 (.int .i64 c.2) rfl
  go_wp2_with (first
    | (refine wpList_load_row rfl 28 _ rfl p rfl 28 (f.cells a n) (0, 0) _ XF.out Tryz.underlying28 rfl (by exact (qJF f a n)) ?_)
    | (refine wpList_load_row rfl 41 _ rfl q rfl 41 (cellA c) (0, 0) _ XC.out Tryz.underlying41 rfl (by exact (qJC c)) ?_)
    | fail)
  refine (AK.out W0 BF.out).mono ?_
  rintro e V1 ⟨rfl, b⟩
  clear c0 c1 c2 c3 d0 d1
  replace BF := Lib.hid (BF.out.trans (b.mono BF.out.size))
  replace XF := Lib.hid (qblk b XF.out)
  replace XC := Lib.hid (qblk b XC.out)
  clear b
  have c0 := qcell XF.out 0 (.int .i64 f.eye) rfl
  have c1 := qcell XF.out 1 (.int .i64 f.rings) rfl
  have c2 := qcell XF.out 2 (.int .i64 f.sectors) rfl
  have c3 := qcell XF.out 3 (.slice a f.kinds.length n) rfl
  have d0 := qcell XC.out 0 (.int .i64 c.1) rfl
  have d1 := qcell XC.out 1 (.int .i64 c.2) rfl
  cases hk : decide (askedF f c ≠ 0)
  · have HK : Hid (askedF f c = 0) := Lib.hid (by simpa using hk)
    have ZK := Lib.hid (asked_zero.1 HK.out)
    have IV := Lib.hid (FaceV.int ZK.out.1)
    have HC := Lib.hid (hasF_iff.1 ZK.out.2)
    have IL := Lib.hid (index_lt ZK.out.1 HC.out.1 c.2)
    have hk2 : (askedF f c != 0) = false := by simpa using hk
    clear hk
    have LL := Lib.hid (FaceV.len_le ZK.out.1)
    go_wp2_with fail
    clear c0 c1 c2 c3 d0 d1
    have BF1 := Lib.hid BF.out
    have XF1 := Lib.hid XF.out
    have XC1 := Lib.hid XC.out
    have B1 := Lib.hid (Below.refl V1.heap.size V1)
    clear BF XF XC
    go_loopw [7, 8] (fun o i wr => ∃ (k : Nat) (oa : Option Addr) (oc : Nat), i = .int .i64 k ∧ o = .slice oa (rNeighF f c k).length oc ∧ k ≤ f.kinds.length ∧ Hid (wr.ownsRow V1.heap.size 41 2 (.slice oa (rNeighF f c k).length oc) (rNeighF f c k).length (cellsV (rNeighF f c k))) ∧ Hid (Below V1.heap.size V1 wr)) (fun _ i _ => f.kinds.length - (intOf i).toNat)
    case atStart => exact ⟨0, none, 0, rfl, rfl, Nat.zero_le _, Lib.hid (World.ownsRow_nil _ _ _ _), B1⟩
    case round =>
      clear B1
      obtain ⟨k, oa, oc, rfl, rfl, hk, OW, B1⟩ := hrel
      have BF := Lib.hid (BF1.out.trans (B1.out.mono BF1.out.size))
      have XF := Lib.hid (qblk B1.out XF1.out)
      have XC := Lib.hid (qblk B1.out XC1.out)
      have c3 := qcell XF.out 3 (.slice a f.kinds.length n) rfl
      by_cases hkn : k < f.kinds.length
      · have t0 : decide ((k : Int) < (f.kinds.length : Int)) = true := by simp; omega
        have HK64 : Hid ((k : Int) + 1 ≤ 9223372036854775807) := Lib.hid (by have := LL.out; omega)
        have HKN : Hid (k < f.kinds.length) := Lib.hid hkn
        have HL := Lib.hid (rNeighF_len f c k)
        have NS := Lib.hid (rNeighF_succ f c k)
        have HD := Lib.hid (cellF_has ZK.out.1 (i := (k : Int)) ⟨by omega, by omega⟩).1
        go_upto_region 8 with fail
        clear t0 c3
        have OD : Below wr.heap.size wr wr.drew := (Below.refl _ _).drew
        replace OW := Lib.hid (own_below OW.out OD)
        replace B1 := Lib.hid (B1.out.trans (OD.mono B1.out.size))
        clear OD
        have c0 := qcell XF.out 0 (.int .i64 f.eye) rfl
        have c1 := qcell XF.out 1 (.int .i64 f.rings) rfl
        have c2 := qcell XF.out 2 (.int .i64 f.sectors) rfl
        have c3 := qcell XF.out 3 (.slice a f.kinds.length n) rfl
        have d0 := qcell XC.out 0 (.int .i64 c.1) rfl
        have d1 := qcell XC.out 1 (.int .i64 c.2) rfl
        clear c0 c1 c2 c3 d0 d1
        have hd : Below wr.heap.size wr wr.drew := (Below.refl _ _).drew
        replace BF := Lib.hid (BF.out.drew)
        replace XF := Lib.hid (qblk hd XF.out)
        replace XC := Lib.hid (qblk hd XC.out)
        refine zD (fun W => Below w.heap.size w W ∧ W.heap[p]? = some (.cells (f.cells a n) 28 (0, 0)) ∧ W.heap[q]? = some (.cells (cellA c) 41 (0, 0))) ⟨BF.out, XF.out, XC.out⟩ (fun hHeld => ?_)
        clear hd
        generalize wr.drew = V3 at *
        refine zT 0 rfl (.agg (f.cells a n)) (qyrow (by kernel_rfl) 28 _ rfl p rfl _ 28 (0, 0) _ (fun W hW => hW.2.1) Tryz.underlying28 rfl (by exact (qJF f a n))) ?_
        refine zT 1 rfl (.agg (cellA c)) (qyrow (by kernel_rfl) 41 _ rfl q rfl _ 41 (0, 0) _ (fun W hW => hW.2.2) Tryz.underlying41 rfl (by exact (qJC c))) ?_
        refine zT 2 rfl (.agg (f.cells a n)) (qyrow (by kernel_rfl) 28 _ rfl p rfl _ 28 (0, 0) _ (fun W hW => hW.2.1) Tryz.underlying28 rfl (by exact (qJF f a n))) ?_
        refine zW 3 rfl (.int .i64 k) ?_
        refine zR 4 rfl (fun K hK => ?_)
        go_simp
        refine (rplace_any f a n k V3 (by have := IV.out; omega) (by have := LL.out; have := HKN.out; omega)).mono ?_
        rintro e V4 ⟨rfl, b2⟩
        replace OW := Lib.hid (own_below OW.out b2)
        replace B1 := Lib.hid (B1.out.trans (b2.mono B1.out.size))
        replace BF := Lib.hid (BF.out.trans (b2.mono BF.out.size))
        replace XF := Lib.hid (qblk b2 XF.out)
        replace XC := Lib.hid (qblk b2 XC.out)
        clear b2
        dsimp only
        refine zK hK ⟨BF.out, XF.out, XC.out⟩ (fun hHeld => ?_)
        clear hK K
        refine zR 5 rfl (fun K hK => ?_)
        go_simp
        refine (rbeside_any f a n c (cellF f k) V4 ZK.out.1 ZK.out.2 HD.out).mono ?_
        rintro e V5 ⟨rfl, b2⟩
        replace OW := Lib.hid (own_below OW.out b2)
        replace B1 := Lib.hid (B1.out.trans (b2.mono B1.out.size))
        replace BF := Lib.hid (BF.out.trans (b2.mono BF.out.size))
        replace XF := Lib.hid (qblk b2 XF.out)
        replace XC := Lib.hid (qblk b2 XC.out)
        clear b2
        dsimp only
        refine zK hK ⟨BF.out, XF.out, XC.out⟩ (fun hHeld => ?_)
        clear hK K
        refine zE ?_
        clear hHeld
        cases hs : rBeside f c (cellF f k)
        · have E : Hid (rNeighF f c (k + 1) = rNeighF f c k) := Lib.hid (by rw [NS.out, hs, if_neg (by decide), List.append_nil])
          go_upto_region 7 with fail
          have hk64 := HK64.out
          go_wp2_with fail
          go_roundw
          case rel =>
            refine ⟨k + 1, oa, oc, by simp, by rw [E.out], by omega, ?_, B1⟩
            rw [E.out]
            exact OW
          case measure => simp [intOf]; omega
        · have E : Hid (rNeighF f c (k + 1) = rNeighF f c k ++ [cellF f k]) := Lib.hid (by rw [NS.out, hs, if_pos rfl])
          have c0 := qcell XF.out 0 (.int .i64 f.eye) rfl
          have c1 := qcell XF.out 1 (.int .i64 f.rings) rfl
          have c2 := qcell XF.out 2 (.int .i64 f.sectors) rfl
          have c3 := qcell XF.out 3 (.slice a f.kinds.length n) rfl
          have d0 := qcell XC.out 0 (.int .i64 c.1) rfl
          have d1 := qcell XC.out 1 (.int .i64 c.2) rfl
          go_wp2_with (first
            | (refine wpList_load_row rfl 28 _ rfl p rfl 28 (f.cells a n) (0, 0) _ XF.out Tryz.underlying28 rfl (by exact (qJF f a n)) ?_)
            | (refine wpList_load_row rfl 41 _ rfl q rfl 41 (cellA c) (0, 0) _ XC.out Tryz.underlying41 rfl (by exact (qJC c)) ?_)
            | fail)
          refine (rplace_any f a n k V5 (by have := IV.out; omega) (by have := LL.out; have := HKN.out; omega)).mono ?_
          rintro e V7 ⟨rfl, b2⟩
          replace OW := Lib.hid (own_below OW.out b2)
          replace B1 := Lib.hid (B1.out.trans (b2.mono B1.out.size))
          clear c0 c1 c2 c3 d0 d1
          replace BF := Lib.hid (BF.out.trans (b2.mono BF.out.size))
          replace XF := Lib.hid (qblk b2 XF.out)
          replace XC := Lib.hid (qblk b2 XC.out)
          clear b2
          have c0 := qcell XF.out 0 (.int .i64 f.eye) rfl
          have c1 := qcell XF.out 1 (.int .i64 f.rings) rfl
          have c2 := qcell XF.out 2 (.int .i64 f.sectors) rfl
          have c3 := qcell XF.out 3 (.slice a f.kinds.length n) rfl
          have d0 := qcell XC.out 0 (.int .i64 c.1) rfl
          have d1 := qcell XC.out 1 (.int .i64 c.2) rfl
          go_upto_region 7 with (first
            | (refine wpList_load_row rfl 28 _ rfl p rfl 28 (f.cells a n) (0, 0) _ XF.out Tryz.underlying28 rfl (by exact (qJF f a n)) ?_)
            | (refine wpList_load_row rfl 41 _ rfl q rfl 41 (cellA c) (0, 0) _ XC.out Tryz.underlying41 rfl (by exact (qJC c)) ?_)
            | (at_builtin; refine appq_cells _ rfl _ _ rfl V1.heap.size _ _ _ (rNeighF f c k) rfl (own_below OW.out (zB V7 _)) _ _ _ [(cellF f k)] rfl (lit_cell V7 (cellF f k)) (by have := HL.out; have := LL.out; have := HKN.out; omega) (Nat.le_trans B1.out.size (zB V7 _).size) ?_; intro oa2 oc2 V8 h1 h2 h3; clear c0 c1 c2 c3 d0 d1; replace B1 := Lib.hid (h3 _ (B1.out.trans ((zB V7 _).mono B1.out.size))); replace OW := Lib.hid h1; clear h1 h2 h3 BF XF XC)
            | fail)
          have hk64 := HK64.out
          go_wp2_with fail
          go_roundw
          case rel =>
            refine ⟨k + 1, oa2, oc2, by simp, by rw [E.out, List.length_append]; rfl, by omega, ?_, B1⟩
            rw [E.out, List.length_append]
            exact OW
          case measure => simp [intOf]; omega
      · have t0 : decide ((k : Int) < (f.kinds.length : Int)) = false := by simp; omega
        have e : k = f.kinds.length := by omega
        subst e
        have NE := Lib.hid (rNeigh_eq ZK.out.1 ZK.out.2)
        go_wp2_with fail
        go_ret2
        rw [NE.out] at OW ⊢
        refine ⟨⟨oa, oc, ?_, own_mono OW.out BF1.out.size⟩, BF.out⟩
        unfold neighP
        rw [if_pos HK.out]
        rfl
  · have HK : Hid (askedF f c ≠ 0) := Lib.hid (by simpa using hk)
    have hk2 : (askedF f c != 0) = true := by simpa using hk
    clear hk
    go_wp2_with (first
      | (refine wpList_load_row rfl 28 _ rfl p rfl 28 (f.cells a n) (0, 0) _ XF.out Tryz.underlying28 rfl (by exact (qJF f a n)) ?_)
      | (refine wpList_load_row rfl 41 _ rfl q rfl 41 (cellA c) (0, 0) _ XC.out Tryz.underlying41 rfl (by exact (qJC c)) ?_)
      | fail)
    go_ret2
    unfold neighP
    rw [if_neg HK.out]
    exact ⟨⟨none, 0, rfl, World.ownsRow_nil _ _ _ _⟩, BF.out⟩
end Go.Proofs.YtimmadkbkimonaaGreatDoor
namespace Go.Proofs.YtimmadkbkimonaaGreatDoor
set_option linter.unusedSimpArgs false
set_option linter.unusedVariables false
open Go.RowKit

set_option maxHeartbeats 4000000 in
set_option maxRecDepth 100000 in
theorem rarnd_any (f : FaceV) (a : Option Addr) (n : Nat) (i : Int) (w : World) (hv : f.valid = true) (hi : 0 ≤ i ∧ i < f.kinds.length) :
    Calls Tryz.prog 134 #[.agg (f.cells a n), .int .i64 i] w fun e w' => (∃ oa oc, e = .returned (.slice oa (nbR f i).length oc) ∧ OwnI w w' oa (nbR f i).length oc (nbR f i)) ∧ Below w.heap.size w w' := by
  have HV := Lib.hid hv
  have IV := Lib.hid (FaceV.int hv)
  have LL := Lib.hid (FaceV.len_le hv)
  have HI := Lib.hid hi
  have HC := Lib.hid (hasF_iff.1 (cellF_has hv hi).1)
  clear hv hi
  obtain ⟨rr, hrr⟩ : ∃ z, Hid ((cellF f i).1 = z) := ⟨_, Lib.hid rfl⟩
  obtain ⟨ss, hss⟩ : ∃ z, Hid ((cellF f i).2 = z) := ⟨_, Lib.hid rfl⟩
  have HCE : Hid (cellF f i = (rr, ss)) := Lib.hid (Prod.ext hrr.out hss.out)
  rw [hrr.out, hss.out] at HC
  have E1 : Hid (i / f.sectors = rr) := Lib.hid hrr.out
  have E2 : Hid (i % f.sectors = ss) := Lib.hid hss.out
  obtain ⟨l1, hl1⟩ : ∃ z, Hid ((if 0 < rr then [i - f.sectors] else []) = z) := ⟨_, Lib.hid rfl⟩
  obtain ⟨l2, hl2⟩ : ∃ z, Hid (l1 ++ (if rr + 1 < f.rings then [i + f.sectors] else []) = z) := ⟨_, Lib.hid rfl⟩
  obtain ⟨x3, hx3⟩ : ∃ z, Hid (indexF f rr (ss + 1) = z) := ⟨_, Lib.hid rfl⟩
  obtain ⟨x4, hx4⟩ : ∃ z, Hid (indexF f rr (ss - 1) = z) := ⟨_, Lib.hid rfl⟩
  have NB : Hid (nbR f i = (l2 ++ [x3]) ++ [x4]) := Lib.hid (by unfold nbR; rw [E1.out, E2.out, hl1.out, hl2.out, hx3.out, hx4.out])
  have N1 : Hid (l1.length ≤ 1) := Lib.hid (by rw [← hl1.out]; split <;> simp)
  have N2 : Hid (l2.length ≤ 2) := Lib.hid (by have := N1.out; rw [← hl2.out, List.length_append]; split <;> simp <;> omega)
  have WS1 := Lib.hid (show wrap64 (i - f.sectors) = i - f.sectors by have := HI.out; have := IV.out; have := LL.out; unfold wrap64; omega)
  have WS2 := Lib.hid (show wrap64 (i + f.sectors) = i + f.sectors by have := HI.out; have := IV.out; have := LL.out; unfold wrap64; omega)
  have WS3 := Lib.hid (show wrap64 (rr + 1) = rr + 1 by have := HC.out; have := IV.out; unfold wrap64; omega)
  have WS4 := Lib.hid (show wrap64 (ss + 1) = ss + 1 by have := HC.out; have := IV.out; unfold wrap64; omega)
  have WS5 := Lib.hid (show wrap64 (ss - 1) = ss - 1 by have := HC.out; have := IV.out; unfold wrap64; omega)
  have HN3 : Hid (hasF f (rr, around (ss + 1) f.sectors) = true) := Lib.hid (hasF_iff.2 ⟨by have := HC.out; exact this.1, by have := around_lt HV.out (ss + 1); dsimp only; omega⟩)
  have HN4 : Hid (hasF f (rr, around (ss - 1) f.sectors) = true) := Lib.hid (hasF_iff.2 ⟨by have := HC.out; exact this.1, by have := around_lt HV.out (ss - 1); dsimp only; omega⟩)
  have AL := Lib.hid (al1 w (.cells (f.cells a n) 28))
  go_enter Tryz.func134, Tryz.ntmps134
  go_upto_region 1 with fail
  obtain ⟨p, hp⟩ : ∃ p, Hid (w.heap.size = p) := ⟨_, Lib.hid rfl⟩
  rw [hp.out] at AL ⊢
  generalize (w.alloc (.cells (f.cells a n) 28)) = W0 at *
  have BF : Hid (Below w.heap.size w W0) := Lib.hid (by rw [hp.out]; exact AL.out.1)
  have XF : Hid (W0.heap[p]? = some (.cells (f.cells a n) 28 (0, 0))) := Lib.hid AL.out.2
  clear AL
  have c0 := qcell XF.out 0 (.int .i64 f.eye) rfl
  have c1 := qcell XF.out 1 (.int .i64 f.rings) rfl
  have c2 := qcell XF.out 2 (.int .i64 f.sectors) rfl
  have c3 := qcell XF.out 3 (.slice a f.kinds.length n) rfl
  clear c0 c1 c2 c3
  refine yB ?_
  refine yW (.agg (f.cells a n)) ?_ (qyrow (by kernel_rfl) 28 _ rfl p rfl _ 28 (0, 0) _ (fun W hW => by rw [hW]; exact XF.out) Tryz.underlying28 rfl (by exact (qJF f a n)))
  refine yM (.int .i64 i) ?_
  refine yR (fun K hK => ?_)
  go_simp
  refine (rplace_any f a n i _ (by have := IV.out; omega) (by have := HI.out; have := LL.out; omega)).mono ?_
  rintro e U1 ⟨rfl, b⟩
  rw [HCE.out]
  replace BF := Lib.hid (BF.out.trans (b.mono BF.out.size))
  replace XF := Lib.hid (qblk b XF.out)
  clear b
  try dsimp only
  refine yK hK ?_
  clear hK K
  refine yR (fun K hK => ?_)
  refine qbuild (w' := U1.alloc (.cells #[.int .i64 0, .int .i64 0] 41)) (.pointer (some ⟨U1.heap.size, 0, none⟩)) (by kernel_rfl) ?_
  obtain ⟨x5, hx5⟩ : ∃ x, Hid (U1.heap.size = x) := ⟨_, Lib.hid rfl⟩
  have AL := Lib.hid (al1 U1 (.cells #[.int .i64 0, .int .i64 0] 41))
  rw [hx5.out] at AL ⊢
  refine yK hK ?_
  clear hK K
  refine yR (fun K hK => ?_)
  refine qstore 41 _ _ rfl x5 #[.int .i64 0, .int .i64 0] (cellA (rr, ss)) 41 rfl rfl AL.out.2 (by exact (qJC (rr, ss))) rfl (qoneC (rr, ss)) ?_
  intro U2 h8 hg8 hs8
  have b : Below U1.heap.size U1 U2 := qstep (by have h1 := AL.out.1; rw [← hx5.out] at h1; exact h1) hg8 (Nat.le_of_eq hx5.out)
  replace BF := Lib.hid (BF.out.trans (b.mono BF.out.size))
  replace XF := Lib.hid (qblk b XF.out)
  clear b
  have Xx5 := Lib.hid h8
  clear h8 hg8 hs8 AL
  refine yK hK ?_
  clear hK K
  refine yE ?_
  have OW : Hid (OwnI w U2 none 0 0 []) := Lib.hid (World.ownsRow_nil _ _ _ _)
  have k0 := qcell Xx5.out 0 (.int .i64 rr) rfl
  have k1 := qcell XF.out 1 (.int .i64 f.rings) rfl
  go_upto_if 12 with fail
  clear k0 k1
  go_cut [6] from 7 (fun s6 wc => ∃ oa oc, s6 = .slice oa l1.length oc ∧ Hid (OwnI w wc oa l1.length oc l1) ∧ Hid (Below w.heap.size w wc) ∧ Hid (wc.heap[p]? = some (.cells (f.cells a n) 28 (0, 0))) ∧ Hid (wc.heap[x5]? = some (.cells (cellA (rr, ss)) 41 (0, 0))))
  case first =>
    cases q1 : decide (0 < rr)
    · have hn : ¬ (0 < rr) := of_decide_eq_false q1
      have E : Hid (l1 = []) := Lib.hid (by rw [← hl1.out, if_neg hn])
      go_wp2_with fail
      go_meet
      case rel => exact ⟨none, 0, by rw [E.out]; rfl, by rw [E.out]; exact OW, BF, XF, Xx5⟩
    · go_upto_region 4 with fail
      refine yB ?_
      refine yM (.slice none 0 0) ?_
      refine yM (.int .i64 i) ?_
      refine yW (.pointer (some ⟨p, 2, none⟩)) ?_
      refine yW (.int .i64 f.sectors) ?_ (.inl ⟨by kernel_rfl, by intro W hW; rw [hW]; have c := qcell XF.out 2 (.int .i64 f.sectors) rfl; go_simp⟩)
      refine yW (.int .i64 (i - f.sectors)) ?_ (.inl ⟨by kernel_rfl, by intro W hW; rw [hW]; go_simp; exact (IntWalk.i64_left _).trans WS1.out⟩)
      refine yR (fun K hK => ?_)
      refine qbuild (w' := U2.alloc (.cells #[.int .i64 (i - f.sectors)] 3)) (.slice (some ⟨U2.heap.size, 0, none⟩) 1 1) (by kernel_rfl) ?_
      have LI := Lib.hid (lit_int U2 (i - f.sectors))
      have b := zB U2 (.cells #[.int .i64 (i - f.sectors)] 3)
      obtain ⟨y, hy⟩ : ∃ x, Hid (U2.heap.size = x) := ⟨_, Lib.hid rfl⟩
      replace BF := Lib.hid (BF.out.trans (b.mono BF.out.size))
      replace OW := Lib.hid (OW.out.below b)
      replace XF := Lib.hid (qblk b XF.out)
      replace Xx5 := Lib.hid (qblk b Xx5.out)
      clear b
      rw [hy.out] at LI ⊢
      generalize hV9 : U2.alloc (.cells #[.int .i64 (i - f.sectors)] 3) = U3 at *
      clear hV9
      refine yK hK ?_
      clear hK K
      refine yR (fun K hK => ?_)
      obtain ⟨oa2, oc2, U4, hrun, ho7, hk7, hb7⟩ := run_app_q U3 w.heap.size none 0 0 [] OW.out (some ⟨y, 0, none⟩) 1 1 [(i - f.sectors)] LI.out (by omega) BF.out.size
      refine qappend _ _ _ rfl _ _ _ rfl rfl hrun ?_
      clear hrun
      replace OW := Lib.hid (show OwnI w U4 oa2 (0 + 1) oc2 ([] ++ [(i - f.sectors)]) from ho7)
      replace BF := Lib.hid (hb7 _ BF.out)
      replace XF := Lib.hid (hk7 _ _ XF.out (by simp))
      replace Xx5 := Lib.hid (hk7 _ _ Xx5.out (by simp))
      clear ho7 hk7 hb7 LI
      refine yK hK ?_
      clear hK K
      refine yM (.slice oa2 (0 + 1) oc2) ?_
      refine yE ?_
      have hn : 0 < rr := of_decide_eq_true q1
      have E : Hid (l1 = [] ++ [i - f.sectors]) := Lib.hid (by rw [← hl1.out, if_pos hn]; rfl)
      go_wp2_with fail
      go_meet
      case rel => exact ⟨oa2, oc2, by rw [E.out, List.length_append]; rfl, by rw [E.out, List.length_append]; exact OW, BF, XF, Xx5⟩
  case rest =>
    clear OW BF XF Xx5
    obtain ⟨oa, oc, rfl, OW, BF, XF, Xx5⟩ := hcut
    have k0 := qcell Xx5.out 0 (.int .i64 rr) rfl
    have k1 := qcell XF.out 1 (.int .i64 f.rings) rfl
    have ws := WS3.out
    go_upto_if 25 with fail
    clear k0 k1 ws
    go_cut [6] from 7 (fun s6 wc => ∃ oa oc, s6 = .slice oa l2.length oc ∧ Hid (OwnI w wc oa l2.length oc l2) ∧ Hid (Below w.heap.size w wc) ∧ Hid (wc.heap[p]? = some (.cells (f.cells a n) 28 (0, 0))) ∧ Hid (wc.heap[x5]? = some (.cells (cellA (rr, ss)) 41 (0, 0))))
    case first =>
      cases q2 : decide (rr + 1 < f.rings)
      · have hn : ¬ (rr + 1 < f.rings) := of_decide_eq_false q2
        have E : Hid (l2 = l1) := Lib.hid (by rw [← hl2.out, if_neg hn]; simp)
        go_wp2_with fail
        go_meet
        case rel => exact ⟨oa, oc, by rw [E.out], by rw [E.out]; exact OW, BF, XF, Xx5⟩
      · go_upto_region 6 with fail
        refine yB ?_
        refine yM (.slice oa l1.length oc) ?_
        refine yM (.int .i64 i) ?_
        refine yW (.pointer (some ⟨p, 2, none⟩)) ?_
        refine yW (.int .i64 f.sectors) ?_ (.inl ⟨by kernel_rfl, by intro W hW; rw [hW]; have c := qcell XF.out 2 (.int .i64 f.sectors) rfl; go_simp⟩)
        refine yW (.int .i64 (i + f.sectors)) ?_ (.inl ⟨by kernel_rfl, by intro W hW; rw [hW]; go_simp; exact (IntWalk.i64_left _).trans WS2.out⟩)
        refine yR (fun K hK => ?_)
        refine qbuild (w' := wc.alloc (.cells #[.int .i64 (i + f.sectors)] 3)) (.slice (some ⟨wc.heap.size, 0, none⟩) 1 1) (by kernel_rfl) ?_
        have LI := Lib.hid (lit_int wc (i + f.sectors))
        have b := zB wc (.cells #[.int .i64 (i + f.sectors)] 3)
        obtain ⟨y, hy⟩ : ∃ x, Hid (wc.heap.size = x) := ⟨_, Lib.hid rfl⟩
        replace BF := Lib.hid (BF.out.trans (b.mono BF.out.size))
        replace OW := Lib.hid (OW.out.below b)
        replace XF := Lib.hid (qblk b XF.out)
        replace Xx5 := Lib.hid (qblk b Xx5.out)
        clear b
        rw [hy.out] at LI ⊢
        generalize hV9 : wc.alloc (.cells #[.int .i64 (i + f.sectors)] 3) = U3 at *
        clear hV9
        refine yK hK ?_
        clear hK K
        refine yR (fun K hK => ?_)
        obtain ⟨oa2, oc2, U4, hrun, ho7, hk7, hb7⟩ := run_app_q U3 w.heap.size oa l1.length oc l1 OW.out (some ⟨y, 0, none⟩) 1 1 [(i + f.sectors)] LI.out (by have := N1.out; have := N2.out; omega) BF.out.size
        refine qappend _ _ _ rfl _ _ _ rfl rfl hrun ?_
        clear hrun
        replace OW := Lib.hid (show OwnI w U4 oa2 (l1.length + 1) oc2 (l1 ++ [(i + f.sectors)]) from ho7)
        replace BF := Lib.hid (hb7 _ BF.out)
        replace XF := Lib.hid (hk7 _ _ XF.out (by simp))
        replace Xx5 := Lib.hid (hk7 _ _ Xx5.out (by simp))
        clear ho7 hk7 hb7 LI
        refine yK hK ?_
        clear hK K
        refine yM (.slice oa2 (l1.length + 1) oc2) ?_
        refine yE ?_
        have hn : rr + 1 < f.rings := of_decide_eq_true q2
        have E : Hid (l2 = l1 ++ [i + f.sectors]) := Lib.hid (by rw [← hl2.out, if_pos hn])
        go_wp2_with fail
        go_meet
        case rel => exact ⟨oa2, oc2, by rw [E.out, List.length_append]; rfl, by rw [E.out, List.length_append]; exact OW, BF, XF, Xx5⟩
    case rest =>
      clear OW BF XF Xx5
      obtain ⟨oa, oc, rfl, OW, BF, XF, Xx5⟩ := hcut
      go_upto_region 7 with fail
      have hd : Below wc.heap.size wc wc.drew := (Below.refl _ _).drew
      replace BF := Lib.hid (BF.out.trans (hd.mono BF.out.size))
      replace OW := Lib.hid (OW.out.below hd)
      replace XF := Lib.hid (qblk hd XF.out)
      replace Xx5 := Lib.hid (qblk hd Xx5.out)
      clear hd
      refine zD (fun W => Below w.heap.size w W ∧ W.heap[p]? = some (.cells (f.cells a n) 28 (0, 0)) ∧ W.heap[x5]? = some (.cells (cellA (rr, ss)) 41 (0, 0))) ⟨BF.out, XF.out, Xx5.out⟩ (fun hHeld => ?_)
      generalize wc.drew = VH7 at *
      refine zW 0 rfl (.slice oa l2.length oc) ?_
      refine zT 1 rfl (.agg (f.cells a n)) (qyrow (by kernel_rfl) 28 _ rfl p rfl _ 28 (0, 0) _ (fun W hW => hW.2.1) Tryz.underlying28 rfl (by exact (qJF f a n))) ?_
      refine zW 2 rfl (.pointer (some ⟨x5, 0, none⟩)) ?_
      refine zS 3 rfl (.int .i64 (rr, ss).1) (fun W hW => by have c := qcell hW.2.2 0 (.int .i64 (rr, ss).1) rfl; go_simp) ?_
      refine zT 4 rfl (.agg (f.cells a n)) (qyrow (by kernel_rfl) 28 _ rfl p rfl _ 28 (0, 0) _ (fun W hW => hW.2.1) Tryz.underlying28 rfl (by exact (qJF f a n))) ?_
      refine zW 5 rfl (.pointer (some ⟨x5, 1, none⟩)) ?_
      refine zS 6 rfl (.int .i64 (rr, ss).2) (fun W hW => by have c := qcell hW.2.2 1 (.int .i64 (rr, ss).2) rfl; go_simp) ?_
      refine zW 7 rfl (.int .i64 (ss + 1)) (hy := .inl ⟨by kernel_rfl, by intro W hW; go_simp; exact (IntWalk.i64_left _).trans WS4.out⟩) ?_
      refine zR 8 rfl (fun K hK => ?_)
      go_simp
      refine (rround_any f a n (ss + 1) _ (by have := IV.out; omega)).mono ?_
      rintro e U3 ⟨rfl, b⟩
      replace BF := Lib.hid (BF.out.trans (b.mono BF.out.size))
      replace OW := Lib.hid (OW.out.below b)
      replace XF := Lib.hid (qblk b XF.out)
      replace Xx5 := Lib.hid (qblk b Xx5.out)
      clear b
      try dsimp only
      refine zK hK ⟨BF.out, XF.out, Xx5.out⟩ (fun hHeld => ?_)
      clear hK K
      refine zW 9 rfl (.agg (cellA (rr, around (ss + 1) f.sectors))) (hy := .inl ⟨by kernel_rfl, by intro W hW; go_simp; rfl⟩) ?_
      refine zR 10 rfl (fun K hK => ?_)
      go_simp
      refine (rnum_any f a n (rr, around (ss + 1) f.sectors) _ HV.out HN3.out).mono ?_
      rintro e U4 ⟨rfl, b⟩
      replace BF := Lib.hid (BF.out.trans (b.mono BF.out.size))
      replace OW := Lib.hid (OW.out.below b)
      replace XF := Lib.hid (qblk b XF.out)
      replace Xx5 := Lib.hid (qblk b Xx5.out)
      clear b
      dsimp only
      rw [indexF_around HV.out, hx3.out]
      try dsimp only
      refine zK hK ⟨BF.out, XF.out, Xx5.out⟩ (fun hHeld => ?_)
      clear hK K
      refine zR 11 rfl (fun K hK => ?_)
      rw [if_pos (by kernel_rfl)]
      refine qbuild (w' := U4.alloc (.cells #[.int .i64 x3] 3)) (.slice (some ⟨U4.heap.size, 0, none⟩) 1 1) (by kernel_rfl) ?_
      have LI := Lib.hid (lit_int U4 x3)
      have b := zB U4 (.cells #[.int .i64 x3] 3)
      obtain ⟨y, hy⟩ : ∃ x, Hid (U4.heap.size = x) := ⟨_, Lib.hid rfl⟩
      replace BF := Lib.hid (BF.out.trans (b.mono BF.out.size))
      replace OW := Lib.hid (OW.out.below b)
      replace XF := Lib.hid (qblk b XF.out)
      replace Xx5 := Lib.hid (qblk b Xx5.out)
      clear b
      rw [hy.out] at LI ⊢
      generalize hV9 : U4.alloc (.cells #[.int .i64 x3] 3) = U5 at *
      clear hV9
      refine zK hK ⟨BF.out, XF.out, Xx5.out⟩ (fun hHeld => ?_)
      clear hK K
      refine zR 12 rfl (fun K hK => ?_)
      rw [if_pos (by kernel_rfl)]
      obtain ⟨oa3, oc3, U6, hrun, ho7, hk7, hb7⟩ := run_app_q U5 w.heap.size oa l2.length oc l2 OW.out (some ⟨y, 0, none⟩) 1 1 [x3] LI.out (by have := N2.out; omega) BF.out.size
      refine qappend _ _ _ rfl _ _ _ rfl rfl hrun ?_
      clear hrun
      replace OW := Lib.hid (show OwnI w U6 oa3 (l2.length + 1) oc3 (l2 ++ [x3]) from ho7)
      replace BF := Lib.hid (hb7 _ BF.out)
      replace XF := Lib.hid (hk7 _ _ XF.out (by simp))
      replace Xx5 := Lib.hid (hk7 _ _ Xx5.out (by simp))
      clear ho7 hk7 hb7 LI
      refine zK hK ⟨BF.out, XF.out, Xx5.out⟩ (fun hHeld => ?_)
      clear hK K
      refine zW 13 rfl (.slice oa3 (l2.length + 1) oc3) ?_
      refine zE ?_
      clear hHeld
      go_upto_region 8 with fail
      have hd : Below U6.heap.size U6 U6.drew := (Below.refl _ _).drew
      replace BF := Lib.hid (BF.out.trans (hd.mono BF.out.size))
      replace OW := Lib.hid (OW.out.below hd)
      replace XF := Lib.hid (qblk hd XF.out)
      replace Xx5 := Lib.hid (qblk hd Xx5.out)
      clear hd
      refine zD (fun W => Below w.heap.size w W ∧ W.heap[p]? = some (.cells (f.cells a n) 28 (0, 0)) ∧ W.heap[x5]? = some (.cells (cellA (rr, ss)) 41 (0, 0))) ⟨BF.out, XF.out, Xx5.out⟩ (fun hHeld => ?_)
      generalize U6.drew = VH8 at *
      refine zW 0 rfl (.slice oa3 (l2.length + 1) oc3) ?_
      refine zT 1 rfl (.agg (f.cells a n)) (qyrow (by kernel_rfl) 28 _ rfl p rfl _ 28 (0, 0) _ (fun W hW => hW.2.1) Tryz.underlying28 rfl (by exact (qJF f a n))) ?_
      refine zW 2 rfl (.pointer (some ⟨x5, 0, none⟩)) ?_
      refine zS 3 rfl (.int .i64 (rr, ss).1) (fun W hW => by have c := qcell hW.2.2 0 (.int .i64 (rr, ss).1) rfl; go_simp) ?_
      refine zT 4 rfl (.agg (f.cells a n)) (qyrow (by kernel_rfl) 28 _ rfl p rfl _ 28 (0, 0) _ (fun W hW => hW.2.1) Tryz.underlying28 rfl (by exact (qJF f a n))) ?_
      refine zW 5 rfl (.pointer (some ⟨x5, 1, none⟩)) ?_
      refine zS 6 rfl (.int .i64 (rr, ss).2) (fun W hW => by have c := qcell hW.2.2 1 (.int .i64 (rr, ss).2) rfl; go_simp) ?_
      refine zW 7 rfl (.int .i64 (ss - 1)) (hy := .inl ⟨by kernel_rfl, by intro W hW; go_simp; exact (IntWalk.i64_left _).trans WS5.out⟩) ?_
      refine zR 8 rfl (fun K hK => ?_)
      go_simp
      refine (rround_any f a n (ss - 1) _ (by have := IV.out; omega)).mono ?_
      rintro e U7 ⟨rfl, b⟩
      replace BF := Lib.hid (BF.out.trans (b.mono BF.out.size))
      replace OW := Lib.hid (OW.out.below b)
      replace XF := Lib.hid (qblk b XF.out)
      replace Xx5 := Lib.hid (qblk b Xx5.out)
      clear b
      try dsimp only
      refine zK hK ⟨BF.out, XF.out, Xx5.out⟩ (fun hHeld => ?_)
      clear hK K
      refine zW 9 rfl (.agg (cellA (rr, around (ss - 1) f.sectors))) (hy := .inl ⟨by kernel_rfl, by intro W hW; go_simp; rfl⟩) ?_
      refine zR 10 rfl (fun K hK => ?_)
      go_simp
      refine (rnum_any f a n (rr, around (ss - 1) f.sectors) _ HV.out HN4.out).mono ?_
      rintro e U8 ⟨rfl, b⟩
      replace BF := Lib.hid (BF.out.trans (b.mono BF.out.size))
      replace OW := Lib.hid (OW.out.below b)
      replace XF := Lib.hid (qblk b XF.out)
      replace Xx5 := Lib.hid (qblk b Xx5.out)
      clear b
      dsimp only
      rw [indexF_around HV.out, hx4.out]
      try dsimp only
      refine zK hK ⟨BF.out, XF.out, Xx5.out⟩ (fun hHeld => ?_)
      clear hK K
      refine zR 11 rfl (fun K hK => ?_)
      rw [if_pos (by kernel_rfl)]
      refine qbuild (w' := U8.alloc (.cells #[.int .i64 x4] 3)) (.slice (some ⟨U8.heap.size, 0, none⟩) 1 1) (by kernel_rfl) ?_
      have LI := Lib.hid (lit_int U8 x4)
      have b := zB U8 (.cells #[.int .i64 x4] 3)
      obtain ⟨y, hy⟩ : ∃ x, Hid (U8.heap.size = x) := ⟨_, Lib.hid rfl⟩
      replace BF := Lib.hid (BF.out.trans (b.mono BF.out.size))
      replace OW := Lib.hid (OW.out.below b)
      replace XF := Lib.hid (qblk b XF.out)
      replace Xx5 := Lib.hid (qblk b Xx5.out)
      clear b
      rw [hy.out] at LI ⊢
      generalize hV9 : U8.alloc (.cells #[.int .i64 x4] 3) = U9 at *
      clear hV9
      refine zK hK ⟨BF.out, XF.out, Xx5.out⟩ (fun hHeld => ?_)
      clear hK K
      refine zR 12 rfl (fun K hK => ?_)
      rw [if_pos (by kernel_rfl)]
      obtain ⟨oa4, oc4, U10, hrun, ho7, hk7, hb7⟩ := run_app_q U9 w.heap.size oa3 (l2.length + 1) oc3 (l2 ++ [x3]) OW.out (some ⟨y, 0, none⟩) 1 1 [x4] LI.out (by have := N2.out; omega) BF.out.size
      refine qappend _ _ _ rfl _ _ _ rfl rfl hrun ?_
      clear hrun
      replace OW := Lib.hid (show OwnI w U10 oa4 ((l2.length + 1) + 1) oc4 ((l2 ++ [x3]) ++ [x4]) from ho7)
      replace BF := Lib.hid (hb7 _ BF.out)
      replace XF := Lib.hid (hk7 _ _ XF.out (by simp))
      replace Xx5 := Lib.hid (hk7 _ _ Xx5.out (by simp))
      clear ho7 hk7 hb7 LI
      refine zK hK ⟨BF.out, XF.out, Xx5.out⟩ (fun hHeld => ?_)
      clear hK K
      refine zW 13 rfl (.slice oa4 ((l2.length + 1) + 1) oc4) ?_
      refine zE ?_
      clear hHeld
      go_wp2_with fail
      go_ret
      have LE : (nbR f i).length = l2.length + 1 + 1 := by rw [NB.out]; simp
      rw [NB.out] at LE ⊢
      rw [LE]
      exact ⟨⟨oa4, oc4, rfl, OW.out⟩, BF.out⟩
end Go.Proofs.YtimmadkbkimonaaGreatDoor
namespace Go.Proofs.YtimmadkbkimonaaGreatDoor
set_option linter.unusedSimpArgs false
set_option linter.unusedVariables false
open Go.RowKit

def deadK (f : FaceV) (k : Nat) : List Int := (List.range k).filterMap fun (n : Nat) => if deadB f ((regListF f)[n]?.getD []) = true then some (n : Int) else none
theorem deadK_succ (f : FaceV) (k : Nat) : deadK f (k + 1) = deadK f k ++ (if deadB f ((regListF f)[k]?.getD []) = true then [(k : Int)] else []) := by
  unfold deadK
  rw [List.range_succ, List.filterMap_append]
  congr 1
  by_cases h : deadB f ((regListF f)[k]?.getD []) = true
  · rw [if_pos h, List.filterMap_cons, if_pos h]; rfl
  · rw [if_neg h, List.filterMap_cons, if_neg h]; rfl
theorem deadK_len (f : FaceV) (k : Nat) : (deadK f k).length ≤ k := by
  unfold deadK
  refine Nat.le_trans (List.length_filterMap_le _ _) ?_
  rw [List.length_range]
  exact Nat.le_refl _
theorem rg_mem {f : FaceV} (hv : f.valid = true) {k : Nat} {cs : List Int} (h : (regListF f)[k]? = some cs) : cs ≠ [] ∧ ∀ x ∈ cs, 0 ≤ x ∧ x < f.kinds.length := by
  have hk := (List.getElem?_eq_some_iff.1 h).1
  rw [regList_len] at hk
  have e := regList_at hk
  rw [h] at e
  have e2 := (Option.some.inj e).symm
  obtain ⟨x, hx, _⟩ := reg_head hv hk
  refine ⟨fun h0 => (by rw [e2, h0] at hx; cases hx), fun y hy => ?_⟩
  rw [← e2] at hy
  have h3 := regAt_mem.1 hy
  exact ⟨h3.2.1, by omega⟩
theorem rdi_at {W : World} {b off n c k : Nat} {l : List Int} {x : Int} (h : RdI W (some ⟨b, off, none⟩) n c l) (hx : l[k]? = some x) : W.cell? ⟨b, off + k, none⟩ = some (.int .i64 x) := by
  obtain ⟨b2, o2, e, h2⟩ := h.get hx
  simp only [Option.some.injEq, Addr.mk.injEq, and_true] at e
  rw [e.1, e.2]
  exact h2
set_option maxHeartbeats 4000000 in
set_option maxRecDepth 100000 in
theorem deadP_any (f : FaceV) (a : Option Addr) (n : Nat) (w : World) (hr : RdI w a f.kinds.length n f.kinds) :
    Calls Tryz.prog 30 #[.agg (f.cells a n)] w fun e w' => (∃ oa oc, e = .returned (.tuple #[.slice oa (deadP f).1.length oc, .int .i64 (deadP f).2]) ∧ w'.ownsRow w.heap.size 3 1 (.slice oa (deadP f).1.length oc) (deadP f).1.length ((deadP f).1.map intV)) ∧ Below w.heap.size w w' := by
  have HR := Lib.hid hr
  clear hr
  have AL := Lib.hid (al1 w (.cells (f.cells a n) 28))
  go_enter Tryz.func30, Tryz.ntmps30
  go_upto_region 1 with fail
  obtain ⟨p, hp⟩ : ∃ p, Hid (w.heap.size = p) := ⟨_, Lib.hid rfl⟩
  rw [hp.out] at AL ⊢
  generalize (w.alloc (.cells (f.cells a n) 28)) = W0 at *
  have BF : Hid (Below w.heap.size w W0) := Lib.hid (by rw [hp.out]; exact AL.out.1)
  have XF : Hid (W0.heap[p]? = some (.cells (f.cells a n) 28 (0, 0))) := Lib.hid AL.out.2
  clear AL
  have c0 := qcell XF.out 0 (.int .i64 f.eye) rfl
  have c1 := qcell XF.out 1 (.int .i64 f.rings) rfl
  have c2 := qcell XF.out 2 (.int .i64 f.sectors) rfl
  have c3 := qcell XF.out 3 (.slice a f.kinds.length n) rfl
  clear c0 c1 c2 c3
  replace HR := Lib.hid (HR.out.below BF.out)
  go_upto_region 1 with fail
  refine yB ?_
  refine yW (.agg (f.cells a n)) ?_ (qyrow (by kernel_rfl) 28 _ rfl p rfl _ 28 (0, 0) _ (fun W hW => by rw [hW]; exact XF.out) Tryz.underlying28 rfl (by exact (qJF f a n)))
  refine yR (fun K hK => ?_)
  go_simp
  refine (regionsP_any f a n _ HR.out).mono ?_
  rintro e U1 ⟨⟨b1, m1, rfl, ll⟩, b⟩
  have RL := Lib.hid ll
  clear ll
  replace BF := Lib.hid (BF.out.trans (b.mono BF.out.size))
  replace HR := Lib.hid (HR.out.below b)
  replace XF := Lib.hid (qblk b XF.out)
  clear b
  obtain ⟨ls, hls⟩ : ∃ x, Hid ((regionsP f).1 = x) := ⟨_, Lib.hid rfl⟩
  obtain ⟨E, hE⟩ : ∃ x, Hid ((regionsP f).2 = x) := ⟨_, Lib.hid rfl⟩
  rw [hls.out] at RL ⊢
  rw [hE.out]
  obtain ⟨N, hN⟩ : ∃ x, Hid (ls.length = x) := ⟨_, Lib.hid rfl⟩
  rw [hN.out] at RL ⊢
  try dsimp only
  refine yK hK ?_
  clear hK K
  refine yM (.tuple #[.slice b1 N m1, .int .i64 E]) ?_
  refine yM (.slice b1 N m1) ?_
  refine yM (.int .i64 E) ?_
  refine yM (.slice b1 N m1) ?_
  refine yM (.int .i64 E) ?_
  refine yE ?_
  have VF : Hid (0 < N → f.valid = true) := Lib.hid (fun h => by
    cases hv : f.valid with
    | true => rfl
    | false =>
      have h1 := hls.out
      unfold regionsP at h1
      rw [if_neg (by rw [hv]; decide)] at h1
      have h2 := hN.out
      rw [← h1] at h2
      simp at h2
      omega)
  have LS : Hid (0 < N → ls = regListF f) := Lib.hid (fun h => by have h1 := hls.out; unfold regionsP at h1; rw [if_pos (VF.out h)] at h1; exact h1.symm)
  have NB : Hid (N ≤ 2304) := Lib.hid (by
    rcases Nat.eq_zero_or_pos N with h | h
    · omega
    · have h1 := LS.out h
      have h2 := hN.out
      rw [h1, regList_len] at h2
      have h3 := (regionsN_le f f.kinds.length).2
      have h4 := FaceV.len_le (VF.out h)
      have h5 : (regionsF f).2 = (regionsN f f.kinds.length).2 := rfl
      omega)
  have BF1 := BF
  have HRU := Lib.hid (fun W (hb : Below U1.heap.size U1 W) => HR.out.below hb)
  have RLU := Lib.hid (fun W (hb : Below U1.heap.size U1 W) => RL.out.below hb)
  have XFU := Lib.hid (fun W (hb : Below U1.heap.size U1 W) => qblk hb XF.out)
  have BU := Lib.hid (Below.refl U1.heap.size U1)
  clear BF HR RL XF
  go_wp2_with fail
  go_loopw [6, 16] (fun o v wr => ∃ (k : Nat) (oa : Option Addr) (oc : Nat), v = .int .i64 (k : Int) ∧ o = .slice oa (deadK f k).length oc ∧ k ≤ N ∧ Hid (wr.ownsRow U1.heap.size 3 1 (.slice oa (deadK f k).length oc) (deadK f k).length ((deadK f k).map intV)) ∧ Hid (Below U1.heap.size U1 wr)) (fun _ v _ => N - (intOf v).toNat)
  case atStart => exact ⟨0, none, 0, rfl, rfl, Nat.zero_le _, Lib.hid (World.ownsRow_nil _ _ _ _), BU⟩
  case round =>
    clear BU
    obtain ⟨k, oa, oc, rfl, rfl, hk, OW, BU⟩ := hrel
    have HR := Lib.hid (HRU.out wr BU.out)
    have RL := Lib.hid (RLU.out wr BU.out)
    have XF := Lib.hid (XFU.out wr BU.out)
    by_cases hkn : k < N
    · have t0 : decide ((k : Int) < (N : Int)) = true := by simp; omega
      have HK64 : Hid ((k : Int) + 1 ≤ 9223372036854775807) := Lib.hid (by have := NB.out; omega)
      have HV := Lib.hid (VF.out (by omega))
      have IV := Lib.hid (FaceV.int HV.out)
      have hls2 := LS.out (by omega)
      obtain ⟨cs, hcs⟩ : ∃ cs, ls[k]? = some cs := ⟨_, List.getElem?_eq_getElem (by rw [hN.out]; exact hkn)⟩
      obtain ⟨R, off, aj, cj, ha, hc, hrd⟩ := RL.out.at_ k cs hcs
      subst ha
      have hcs2 := hcs
      rw [hls2] at hcs2
      obtain ⟨hne, hin⟩ := rg_mem HV.out hcs2
      obtain ⟨x0, hx0⟩ : ∃ x, cs[0]? = some x := ⟨_, List.getElem?_eq_getElem (List.length_pos_iff.2 hne)⟩
      obtain ⟨x1, hx1⟩ : ∃ x, cs[cs.length - 1]? = some x := ⟨_, List.getElem?_eq_getElem (by have := List.length_pos_iff.2 hne; omega)⟩
      have X0 := Lib.hid (hin x0 (List.mem_of_getElem? hx0))
      obtain ⟨i0, hi0⟩ : ∃ i : Nat, Hid (x0 = (i : Int)) := ⟨x0.toNat, Lib.hid (by have := X0.out; omega)⟩
      rw [hi0.out] at hx0 X0
      have IL : Hid (i0 < f.kinds.length) := Lib.hid (by have := X0.out; omega)
      have H0 := Lib.hid hx0
      have H1 := Lib.hid hx1
      have CL : Hid (1 ≤ cs.length ∧ cs.length ≤ 2304) := Lib.hid (by
        have h1 := List.length_pos_iff.2 hne
        have h2 := hrd.le
        refine ⟨h1, ?_⟩
        rw [regList_at (by have := (List.getElem?_eq_some_iff.1 hcs2).1; rw [regList_len] at this; exact this)] at hcs2
        have h3 := Option.some.inj hcs2
        rw [← h3]
        exact Nat.le_trans (regAt_len _ _ _ _) (FaceV.len_le HV.out))
      have DB : Hid (deadB f ((regListF f)[k]?.getD []) = (!decide (f.kat i0 = 0) && decide (x1 < (f.rings - 1) * f.sectors))) := Lib.hid (by
        rw [hcs2]
        unfold deadB
        have e1 : (some cs).getD [] = cs := rfl
        rw [e1, show cs.head?.getD 0 = (i0 : Int) by rw [List.head?_eq_getElem?, hx0]; rfl, show cs.getLast?.getD 0 = x1 by rw [List.getLast?_eq_getElem?, hx1]; rfl, Int.toNat_natCast])
      have RC := Lib.hid hrd
      have GC := Lib.hid hc
      obtain ⟨gj, oj, haj, _⟩ := hrd.get hx0
      subst haj
      obtain ⟨gf, of, haf, _⟩ := HR.out.get (FaceV.kat_at IL.out)
      subst haf
      have DS := Lib.hid (deadK_succ f k)
      have DL := Lib.hid (deadK_len f k)
      clear hx0 hx1 hne hin hcs hcs2 hc hrd hls2
      have W1 := Lib.hid (show wrap64 ((cs.length : Int) - 1) = ((cs.length - 1 : Nat) : Int) by have := CL.out; unfold wrap64; omega)
      have W2 := Lib.hid (show wrap64 (f.rings - 1) = f.rings - 1 by have := IV.out; unfold wrap64; omega)
      obtain ⟨M, hM⟩ : ∃ M, Hid ((f.rings - 1) * f.sectors = M) := ⟨_, Lib.hid rfl⟩
      have MB : Hid (0 ≤ M ∧ M ≤ 2304) := Lib.hid (by have h := IV.out; rw [← hM.out]; exact ⟨Int.mul_nonneg (by omega) (by omega), Int.le_trans (Int.mul_le_mul (show f.rings - 1 ≤ 24 by omega) (show f.sectors ≤ 96 by omega) (by omega) (by omega)) (by omega)⟩)
      have W3 := Lib.hid (show wrap64 ((f.rings - 1) * f.sectors) = M by have := MB.out; have := hM.out; unfold wrap64; omega)
      rw [hM.out] at DB
      obtain ⟨z, hz⟩ : ∃ z : Nat, Hid (cs.length - 1 = z) := ⟨_, Lib.hid rfl⟩
      rw [hz.out] at H1 W1
      have ZL : Hid (z < cs.length) := Lib.hid (by have := CL.out; have := hz.out; omega)
      have zl := ZL.out
      have zi := IL.out
      have zc : 0 < cs.length := by have := CL.out; omega
      have zk : k < N := hkn
      go_upto_region 5 with fail
      clear t0
      refine yB ?_
      refine yM (.int .i64 (k : Int)) ?_
      refine yW (.pointer (some ⟨R, off + k, none⟩)) ?_
      refine yW (.slice (some ⟨gj, oj, none⟩) cs.length cj) ?_ (.inl ⟨by kernel_rfl, by intro W hW; rw [hW]; have c := GC.out; go_simp⟩)
      refine yM (.int .i64 (k : Int)) ?_
      refine yM (.slice (some ⟨gj, oj, none⟩) cs.length cj) ?_
      refine yE ?_
      go_upto_region 6 with fail
      replace GC := GC
      have hd : Below wr.heap.size wr wr.drew := (Below.refl _ _).drew
      replace OW := Lib.hid (own_below OW.out hd)
      replace RC := Lib.hid (RC.out.below hd)
      replace BU := Lib.hid (BU.out.trans (hd.mono BU.out.size))
      replace HR := Lib.hid (HR.out.below hd)
      replace RL := Lib.hid (RL.out.below hd)
      replace XF := Lib.hid (qblk hd XF.out)
      clear hd
      refine zD (fun W => Below wr.drew.heap.size wr.drew W) (Below.refl _ _) (fun hHeld => ?_)
      have BV := Lib.hid hHeld
      generalize wr.drew = V1 at *
      refine zW 0 rfl (.pointer (some ⟨p, 3, none⟩)) ?_
      refine zS 1 rfl (.slice (some ⟨gf, of, none⟩) f.kinds.length n) (fun W hW => by have c := qcell (qblk hW XF.out) 3 (.slice (some ⟨gf, of, none⟩) f.kinds.length n) rfl; go_simp) ?_
      refine zW 2 rfl (.slice (some ⟨gj, oj, none⟩) cs.length cj) ?_
      refine zW 3 rfl (.pointer (some ⟨gj, oj, none⟩)) ?_
      refine zS 4 rfl (.int .i64 (i0 : Int)) (fun W hW => by have c := (show W.cell? ⟨gj, oj, none⟩ = some (.int .i64 (i0 : Int)) from rdi_at (RC.out.below hW) H0.out); go_simp) ?_
      refine zW 5 rfl (.pointer (some ⟨gf, of + i0, none⟩)) ?_
      refine zS 6 rfl (.int .i64 (f.kat i0)) (fun W hW => by have c := rdi_at (HR.out.below hW) (FaceV.kat_at IL.out); go_simp) ?_
      cases hq : (!decide (f.kat i0 = 0))
      · refine zW 7 rfl (.bool false) (hy := .inl ⟨by kernel_rfl, by intro W hW; go_simp; simpa using hq⟩) ?_
        refine zW 8 rfl (.bool false) ?_
        refine zW 9 rfl undef (hy := .inr ⟨by kernel_rfl, rfl⟩) ?_
        refine zW 10 rfl undef (hy := .inr ⟨by kernel_rfl, rfl⟩) ?_
        refine zW 11 rfl undef (hy := .inr ⟨by kernel_rfl, rfl⟩) ?_
        refine zW 12 rfl undef (hy := .inr ⟨by kernel_rfl, rfl⟩) ?_
        refine zW 13 rfl undef (hy := .inr ⟨by kernel_rfl, rfl⟩) ?_
        refine zW 14 rfl undef (hy := .inr ⟨by kernel_rfl, rfl⟩) ?_
        refine zW 15 rfl undef (hy := .inr ⟨by kernel_rfl, rfl⟩) ?_
        refine zW 16 rfl undef (hy := .inr ⟨by kernel_rfl, rfl⟩) ?_
        refine zW 17 rfl undef (hy := .inr ⟨by kernel_rfl, rfl⟩) ?_
        refine zW 18 rfl undef (hy := .inr ⟨by kernel_rfl, rfl⟩) ?_
        refine zW 19 rfl undef (hy := .inr ⟨by kernel_rfl, rfl⟩) ?_
        refine zW 20 rfl undef (hy := .inr ⟨by kernel_rfl, rfl⟩) ?_
        refine zW 21 rfl undef (hy := .inr ⟨by kernel_rfl, rfl⟩) ?_
        refine zW 22 rfl (.bool false) ?_
        refine zE ?_
        have bz := BV.out
        have bz2 := BV.out
        replace BU := Lib.hid (BU.out.trans (bz.mono BU.out.size))
        replace HR := Lib.hid (HR.out.below bz)
        replace RL := Lib.hid (RL.out.below bz)
        replace XF := Lib.hid (qblk bz XF.out)
        clear bz
        clear BV
        replace OW := Lib.hid (own_below OW.out bz2)
        clear bz2
        have HS : Hid (deadB f ((regListF f)[k]?.getD []) = false) := Lib.hid (by rw [DB.out]; simp only [hq]; rfl)
        go_upto_region 8 with fail
        have hk64 := HK64.out
        go_wp2_with fail
        go_roundw
        case rel =>
          have e : deadK f (k + 1) = deadK f k := by rw [DS.out, if_neg (by rw [HS.out]; decide), List.append_nil]
          refine ⟨k + 1, oa, oc, by simp, by rw [e], by omega, ?_, BU⟩
          rw [e]
          exact OW
        case measure => simp [intOf]; omega
      · refine zW 7 rfl (.bool true) (hy := .inl ⟨by kernel_rfl, by intro W hW; go_simp; simpa using hq⟩) ?_
        refine zW 8 rfl (.bool true) ?_
        refine zW 9 rfl (.slice (some ⟨gj, oj, none⟩) cs.length cj) ?_
        refine zW 10 rfl (.slice (some ⟨gj, oj, none⟩) cs.length cj) ?_
        refine zW 11 rfl (.int .i64 (cs.length : Int)) ?_
        refine zW 12 rfl (.int .i64 (z : Int)) (hy := .inl ⟨by kernel_rfl, by intro W hW; go_simp; exact (IntWalk.i64_left _).trans W1.out⟩) ?_
        refine zW 13 rfl (.pointer (some ⟨gj, oj + z, none⟩)) ?_
        refine zS 14 rfl (.int .i64 x1) (fun W hW => by have c := rdi_at (RC.out.below hW) H1.out; go_simp) ?_
        refine zW 15 rfl (.pointer (some ⟨p, 1, none⟩)) ?_
        refine zS 16 rfl (.int .i64 f.rings) (fun W hW => by have c := qcell (qblk hW XF.out) 1 (.int .i64 f.rings) rfl; go_simp) ?_
        refine zW 17 rfl (.int .i64 (f.rings - 1)) (hy := .inl ⟨by kernel_rfl, by intro W hW; go_simp; exact (IntWalk.i64_left _).trans W2.out⟩) ?_
        refine zW 18 rfl (.pointer (some ⟨p, 2, none⟩)) ?_
        refine zS 19 rfl (.int .i64 f.sectors) (fun W hW => by have c := qcell (qblk hW XF.out) 2 (.int .i64 f.sectors) rfl; go_simp) ?_
        refine zW 20 rfl (.int .i64 M) (hy := .inl ⟨by kernel_rfl, by intro W hW; go_simp; exact (IntWalk.i64_left _).trans W3.out⟩) ?_
        cases hs : decide (x1 < M)
        · refine zW 21 rfl (.bool false) ?_
          refine zW 22 rfl (.bool false) ?_
          refine zE ?_
          have bz := BV.out
          have bz2 := BV.out
          replace BU := Lib.hid (BU.out.trans (bz.mono BU.out.size))
          replace HR := Lib.hid (HR.out.below bz)
          replace RL := Lib.hid (RL.out.below bz)
          replace XF := Lib.hid (qblk bz XF.out)
          clear bz
          clear BV
          replace OW := Lib.hid (own_below OW.out bz2)
          clear bz2
          have HS : Hid (deadB f ((regListF f)[k]?.getD []) = false) := Lib.hid (by rw [DB.out]; simp only [hq, hs]; rfl)
          go_upto_region 8 with fail
          have hk64 := HK64.out
          go_wp2_with fail
          go_roundw
          case rel =>
            have e : deadK f (k + 1) = deadK f k := by rw [DS.out, if_neg (by rw [HS.out]; decide), List.append_nil]
            refine ⟨k + 1, oa, oc, by simp, by rw [e], by omega, ?_, BU⟩
            rw [e]
            exact OW
          case measure => simp [intOf]; omega
        · refine zW 21 rfl (.bool true) ?_
          refine zW 22 rfl (.bool true) ?_
          refine zE ?_
          have bz := BV.out
          have bz2 := BV.out
          replace BU := Lib.hid (BU.out.trans (bz.mono BU.out.size))
          replace HR := Lib.hid (HR.out.below bz)
          replace RL := Lib.hid (RL.out.below bz)
          replace XF := Lib.hid (qblk bz XF.out)
          clear bz
          clear BV
          replace OW := Lib.hid (own_below OW.out bz2)
          clear bz2
          have HS : Hid (deadB f ((regListF f)[k]?.getD []) = true) := Lib.hid (by rw [DB.out, hq, hs]; rfl)
          have NK : Hid (k < 2400) := Lib.hid (by have := NB.out; omega)
          go_upto_region 8 with (first
            | (at_builtin; refine appq_ints _ rfl _ _ rfl U1.heap.size _ _ _ (deadK f k) rfl (own_below OW.out (zB V1 _)) _ _ _ [(k : Int)] rfl (lit_int V1 k) (by have := DL.out; have := NB.out; omega) (Nat.le_trans BU.out.size (zB V1 _).size) ?_; intro oa2 oc2 V6 h1 h2 h3; replace BU := Lib.hid (h3 _ (BU.out.trans ((zB V1 _).mono BU.out.size))); replace XF := Lib.hid (h2 _ _ (qblk (zB V1 _) XF.out) (by simp)); replace OW := Lib.hid h1; clear h1 h2 h3)
            | fail)
          have hk64 := HK64.out
          go_wp2_with fail
          go_roundw
          case rel =>
            have e : deadK f (k + 1) = deadK f k ++ [(k : Int)] := by rw [DS.out, if_pos HS.out]
            refine ⟨k + 1, oa2, oc2, by simp, by rw [e, List.length_append]; rfl, by omega, ?_, BU⟩
            rw [e, List.length_append]
            exact OW
          case measure => simp [intOf]; omega
    · have t0 : decide ((k : Int) < (N : Int)) = false := by simp; omega
      have e : k = N := by omega
      subst e
      have DE : Hid (deadP f = (deadK f k, E)) := Lib.hid (by
        have h1 := hls.out
        have h2 := hE.out
        have h3 := hN.out
        unfold regionsP at h1 h2
        unfold deadP deadF
        by_cases hv : f.valid = true
        · rw [if_pos hv] at h1 h2 ⊢
          have h4 : (regListF f).length = k := by rw [← h3, ← h1]
          rw [h4, ← h2]
          rfl
        · rw [if_neg hv] at h1 h2 ⊢
          have h4 : k = 0 := by rw [← h3, ← h1]; rfl
          rw [h4, ← h2]
          rfl)
      go_wp2_with fail
      go_ret2
      rw [DE.out]
      exact ⟨⟨oa, oc, rfl, own_mono OW.out BF1.out.size⟩, BF1.out.trans (BU.out.mono BF1.out.size)⟩
end Go.Proofs.YtimmadkbkimonaaGreatDoor
namespace Go.Proofs.YtimmadkbkimonaaGreatDoor
set_option linter.unusedSimpArgs false
set_option linter.unusedVariables false
open Go.RowKit

structure LkR (W : World) (lb NL lc : Nat) (l : List Int) (v : Value) : Prop where
  rd : RdI W (some ⟨lb, 0, none⟩) NL lc l
  ne : v.ownBlock ≠ some lb
  lt : lb < W.heap.size
theorem LkR.below {W W' : World} {lb NL lc : Nat} {l : List Int} {v : Value} (h : LkR W lb NL lc l v) (hb : Below W.heap.size W W') : LkR W' lb NL lc l v := ⟨h.rd.below hb, h.ne, Nat.lt_of_lt_of_le h.lt hb.size⟩
theorem LkR.grown {W W' : World} {lb NL lc g : Nat} {l : List Int} {v : Value} (h : LkR W lb NL lc l v) (hg : W.grownBy W' (some g)) (hne : lb ≠ g) : LkR W' lb NL lc l v := ⟨RdI_grown h.rd hg hne, h.ne, Nat.lt_of_lt_of_le h.lt hg.size⟩
theorem LkR.app {W W' : World} {lb NL lc : Nat} {l : List Int} {v v' : Value} (h : LkR W lb NL lc l v) (hk : AppK v v' W W') : LkR W' lb NL lc l v' := ⟨hk.rd h.rd (fun e => h.ne e.symm), (hk.no lb h.ne h.lt).1, (hk.no lb h.ne h.lt).2⟩
theorem nbR_len (f : FaceV) (x : Int) : 1 ≤ (nbR f x).length ∧ (nbR f x).length ≤ 4 := by
  unfold nbR
  simp only [List.length_append, List.length_singleton]
  constructor
  · omega
  · have h1 : (if 0 < x / f.sectors then [x - f.sectors] else []).length ≤ 1 := by split <;> simp
    have h2 : (if x / f.sectors + 1 < f.rings then [x + f.sectors] else []).length ≤ 1 := by split <;> simp
    omega
theorem regionsG_le2 (f : FaceV) : ∀ k : Nat, 0 ≤ (regionsG (nbR f) f k).2 ∧ (regionsG (nbR f) f k).2 ≤ k
  | 0 => ⟨Int.le_refl _, Int.le_refl _⟩
  | k + 1 => by
    have := regionsG_le2 f k
    rw [regionsN_succ]
    unfold regStepG
    split
    · omega
    · dsimp only; omega
theorem stF_nonneg (f : FaceV) (i m : Int) (hm : 0 ≤ m) : ∀ (ks : List Int) (o : OfM) (ws : List Int), (∀ x r, o x = some r → 0 ≤ r) → ∀ x r, (stF f i m o ws ks).1 x = some r → 0 ≤ r
  | [], o, ws, h => h
  | y :: ks, o, ws, h => by
    show ∀ x r, (stF f i m (visitF f i m (o, ws) y).1 (visitF f i m (o, ws) y).2 ks).1 x = some r → 0 ≤ r
    refine stF_nonneg f i m hm ks _ _ ?_
    unfold visitF
    split
    · intro x r hx
      dsimp only at hx
      unfold updM at hx
      split at hx
      · cases hx; exact hm
      · exact h x r hx
    · exact h
set_option maxHeartbeats 4000000 in
set_option maxRecDepth 100000 in
theorem rmarks_any (f : FaceV) (a : Option Addr) (n : Nat) (w : World) (hv : f.valid = true) (hr : RdI w a f.kinds.length n f.kinds) :
    Calls Tryz.prog 94 #[.agg (f.cells a n)] w fun e w' => (∃ g, e = .returned (.tuple #[.slice (some ⟨g, 0, none⟩) f.kinds.length f.kinds.length, .int .i64 (regionsF f).2]) ∧ OwnI w w' (some ⟨g, 0, none⟩) f.kinds.length f.kinds.length (mkL f.kinds.length (regionsF f).1)) ∧ Below w.heap.size w w' := by
  have HV := Lib.hid hv
  have IV := Lib.hid (FaceV.int hv)
  have LL := Lib.hid (FaceV.len_le hv)
  have N0 : Hid (0 < f.kinds.length) := Lib.hid (by have h := FaceV.nat hv; rw [h.2.2.2.2.2.2]; exact Nat.mul_pos (by omega) (by omega))
  have HNB := Lib.hid (fun (x : Int) (hx : InF f x) (y : Int) => nbR_mem hv hx y)
  obtain ⟨b0, off, ha, hx9⟩ := hr.get (FaceV.kat_at2 N0.out)
  subst ha
  have RC : Hid (∀ j, j < f.kinds.length → ∀ W, Below w.heap.size w W → W.cell? ⟨b0, off + j, none⟩ = some (.int .i64 (f.kat j))) := Lib.hid (fun j hj W hb => by
    obtain ⟨b1, o1, e1, h1⟩ := (hr.below hb).get (FaceV.kat_at2 hj)
    cases e1
    exact h1)
  clear hr hv hx9
  have AL := Lib.hid (al1 w (.cells (f.cells (some ⟨b0, off, none⟩) n) 28))
  go_enter Tryz.func94, Tryz.ntmps94
  go_upto_region 1 with fail
  obtain ⟨p, hp⟩ : ∃ p, Hid (w.heap.size = p) := ⟨_, Lib.hid rfl⟩
  rw [hp.out] at AL ⊢
  generalize (w.alloc (.cells (f.cells (some ⟨b0, off, none⟩) n) 28)) = W0 at *
  have BF : Hid (Below w.heap.size w W0) := Lib.hid (by rw [hp.out]; exact AL.out.1)
  have XF : Hid (W0.heap[p]? = some (.cells (f.cells (some ⟨b0, off, none⟩) n) 28 (0, 0))) := Lib.hid AL.out.2
  clear AL
  have c0 := qcell XF.out 0 (.int .i64 f.eye) rfl
  have c1 := qcell XF.out 1 (.int .i64 f.rings) rfl
  have c2 := qcell XF.out 2 (.int .i64 f.sectors) rfl
  have c3 := qcell XF.out 3 (.slice (some ⟨b0, off, none⟩) f.kinds.length n) rfl
  clear c0 c1 c2 c3
  refine yB ?_
  refine yW (.pointer (some ⟨p, 3, none⟩)) ?_
  refine yW (.slice (some ⟨b0, off, none⟩) f.kinds.length n) ?_ (.inl ⟨by kernel_rfl, by intro W hW; rw [hW]; have c := qcell XF.out 3 (.slice (some ⟨b0, off, none⟩) f.kinds.length n) rfl; go_simp⟩)
  refine yW (.int .i64 (f.kinds.length : Int)) ?_
  refine yR (fun K hK => ?_)
  have hmk := run_make_ints f.kinds.length (by have := LL.out; omega) W0
  refine qbuild (w' := W0.alloc (.cells ((List.replicate f.kinds.length (0 : Int)).map intV).toArray 3)) (.slice (some ⟨W0.heap.size, 0, none⟩) f.kinds.length f.kinds.length) (by go_simp) ?_
  clear hmk
  have OW : Hid (OwnI w (W0.alloc (.cells ((List.replicate f.kinds.length (0 : Int)).map intV).toArray 3)) (some ⟨W0.heap.size, 0, none⟩) f.kinds.length f.kinds.length (partK (List.replicate f.kinds.length 0) (fun _ => -1) 0)) := Lib.hid (by rw [partK_zero]; exact own_ints f.kinds.length (by have := LL.out; omega) W0 w.heap.size BF.out.size)
  have b := zB W0 (.cells ((List.replicate f.kinds.length (0 : Int)).map intV).toArray 3)
  obtain ⟨g, hg⟩ : ∃ x, Hid (W0.heap.size = x) := ⟨_, Lib.hid rfl⟩
  replace BF := Lib.hid (BF.out.trans (b.mono BF.out.size))
  replace XF := Lib.hid (qblk b XF.out)
  clear b
  rw [hg.out] at OW ⊢
  generalize hV9 : W0.alloc (.cells ((List.replicate f.kinds.length (0 : Int)).map intV).toArray 3) = U1 at *
  clear hV9
  refine yK hK ?_
  clear hK K
  refine yM (.slice (some ⟨g, 0, none⟩) f.kinds.length f.kinds.length) ?_
  refine yE ?_
  go_wp2_with fail
  generalize U1 = Y1 at *
  go_loopw [5] (fun v wr => ∃ k : Nat, v = .int .i64 (k : Int) ∧ k ≤ f.kinds.length ∧ Hid (Below w.heap.size w wr) ∧ Hid (wr.heap[p]? = some (.cells (f.cells (some ⟨b0, off, none⟩) n) 28 (0, 0))) ∧ Hid (OwnI w wr (some ⟨g, 0, none⟩) f.kinds.length f.kinds.length (partK (List.replicate f.kinds.length 0) (fun _ => -1) k))) (fun v _ => f.kinds.length - (intOf v).toNat)
  case atStart => exact ⟨0, rfl, Nat.zero_le _, BF, XF, OW⟩
  case round =>
    clear BF XF OW
    obtain ⟨k, rfl, hk, BF, XF, OW⟩ := hrel
    by_cases hkn : k < f.kinds.length
    · have t0 : decide ((k : Int) < (f.kinds.length : Int)) = true := by simp; omega
      have HK64 : Hid ((k : Int) + 1 ≤ 9223372036854775807) := Lib.hid (by have := LL.out; omega)
      have HKN : Hid (k < f.kinds.length) := Lib.hid hkn
      have hlk : k < f.kinds.length := hkn
      go_upto_region 5 with fail
      clear t0
      refine yB ?_
      refine yM (.slice (some ⟨g, 0, none⟩) f.kinds.length f.kinds.length) ?_
      refine yM (.int .i64 (k : Int)) ?_
      refine yW (.pointer (some ⟨g, k, none⟩)) ?_
      refine yR (fun K hK => ?_)
      have OP := Lib.hid (OW.out.put HKN.out (-1) BF.out.size)
      have cc := OP.out.2.1
      have cf := OP.out.2.2.1
      go_simp
      clear cc cf
      replace BF := Lib.hid (OP.out.2.2.2.2 w BF.out)
      replace XF := Lib.hid (OP.out.2.2.2.1 _ _ XF.out (by simp))
      replace OW := Lib.hid OP.out.1
      rw [partK_set _ _ (by rw [List.length_replicate]; exact HKN.out) rfl] at OW
      clear OP
      generalize wr.setCell ⟨g, k, none⟩ (.int .i64 (-1)) = X5 at *
      refine yK hK ?_
      clear hK K
      refine yE ?_
      go_upto_region 4 with fail
      clear hlk
      have hk64 := HK64.out
      go_wp2_with fail
      go_roundw
      case rel => exact ⟨k + 1, by simp, by omega, BF, XF, OW⟩
      case measure => simp [intOf]; omega
    · have t0 : decide ((k : Int) < (f.kinds.length : Int)) = false := by simp; omega
      have e : k = f.kinds.length := by omega
      subst e
      rw [mkL_none] at OW
      go_wp2_with fail
      clear t0
      generalize wr = Y2 at *
      go_loopw [6, 7] (fun nv iv wr => ∃ k : Nat, iv = .int .i64 (k : Int) ∧ nv = .int .i64 (regionsG (nbR f) f k).2 ∧ k ≤ f.kinds.length ∧ Hid (Below w.heap.size w wr) ∧ Hid (wr.heap[p]? = some (.cells (f.cells (some ⟨b0, off, none⟩) n) 28 (0, 0))) ∧ Hid (OwnI w wr (some ⟨g, 0, none⟩) f.kinds.length f.kinds.length (mkL f.kinds.length (regionsG (nbR f) f k).1))) (fun _ iv _ => f.kinds.length - (intOf iv).toNat)
      case atStart => exact ⟨0, rfl, rfl, Nat.zero_le _, BF, XF, OW⟩
      case round =>
        clear BF XF OW
        obtain ⟨k, rfl, rfl, hk, BF, XF, OW⟩ := hrel
        by_cases hkn : k < f.kinds.length
        · have t0 : decide ((k : Int) < (f.kinds.length : Int)) = true := by simp; omega
          have HK64 : Hid ((k : Int) + 1 ≤ 9223372036854775807) := Lib.hid (by have := LL.out; omega)
          have HKN : Hid (k < f.kinds.length) := Lib.hid hkn
          have hlk : k < f.kinds.length := hkn
          have RK := Lib.hid (regionsG_spec HNB.out HV.out k hk)
          have NS := Lib.hid (regionsN_succ (nbR f) f k)
          have EP : Hid ((regionsG (nbR f) f k) = ((regionsG (nbR f) f k).1, (regionsG (nbR f) f k).2)) := Lib.hid rfl
          have ML := Lib.hid (regionsG_le2 f k)
          obtain ⟨M, hM⟩ : ∃ z, Hid ((regionsG (nbR f) f k).2 = z) := ⟨_, Lib.hid rfl⟩
          obtain ⟨o0, ho0⟩ : ∃ z, Hid ((regionsG (nbR f) f k).1 = z) := ⟨_, Lib.hid rfl⟩
          rw [hM.out] at RK EP ML
          rw [ho0.out] at RK EP OW
          rw [hM.out]
          rw [EP.out] at NS
          have CK := Lib.hid (OW.out.put HKN.out 0 BF.out.size).2.1
          rw [mkL_at HKN.out] at CK
          have cc := CK.out
          clear CK
          cases hs : o0 (k : Int)
          case some r =>
            rw [hs] at cc
            dsimp only [Option.getD] at cc
            have HS := Lib.hid hs
            clear hs
            have t1 : decide ((0 : Int) ≤ r) = true := by have := (RK.out.rg.inr _ _ HS.out).2.1; simpa using this
            have ER : Hid (regionsG (nbR f) f (k + 1) = (o0, M)) := Lib.hid (by rw [NS.out]; unfold regStepG; rw [if_pos (by show (o0 (k : Int)).isSome = true; rw [HS.out]; rfl)])
            go_upto_region 9 with fail
            clear t0 t1 cc hlk
            have hk64 := HK64.out
            go_wp2_with fail
            go_roundw
            case rel => exact ⟨k + 1, by simp, by rw [ER.out], by omega, BF, XF, by rw [ER.out]; exact OW⟩
            case measure => simp [intOf]; omega
          case none =>
            rw [hs] at cc
            dsimp only [Option.getD] at cc
            have HS := Lib.hid hs
            clear hs
            go_upto_region 11 with fail
            clear t0 cc
            refine yB ?_
            refine yM (.slice (some ⟨g, 0, none⟩) f.kinds.length f.kinds.length) ?_
            refine yM (.int .i64 (k : Int)) ?_
            refine yM (.int .i64 M) ?_
            refine yW (.pointer (some ⟨g, k, none⟩)) ?_
            refine yR (fun K hK => ?_)
            have OP := Lib.hid (OW.out.put HKN.out M BF.out.size)
            have cc := OP.out.2.1
            have cf := OP.out.2.2.1
            go_simp
            clear cc cf
            replace BF := Lib.hid (OP.out.2.2.2.2 w BF.out)
            replace XF := Lib.hid (OP.out.2.2.2.1 _ _ XF.out (by simp))
            replace OW := Lib.hid OP.out.1
            rw [mkL_set HKN.out] at OW
            clear OP
            generalize wr.setCell ⟨g, k, none⟩ (.int .i64 M) = X1 at *
            refine yK hK ?_
            clear hK K
            refine yE ?_
            go_upto_region 12 with fail
            refine yB ?_
            refine yM (.int .i64 (k : Int)) ?_
            refine yR (fun K hK => ?_)
            refine qbuild (w' := X1.alloc (.cells #[.int .i64 (k : Int)] 3)) (.slice (some ⟨X1.heap.size, 0, none⟩) 1 1) (by kernel_rfl) ?_
            have GX : Hid (g < X1.heap.size) := Lib.hid (by obtain ⟨cur, hc⟩ := own_block OW.out; exact qlt hc)
            have WX : Hid (w.heap.size ≤ X1.heap.size) := Lib.hid BF.out.size
            have b := zB X1 (.cells #[.int .i64 (k : Int)] 3)
            have FA : Hid (FlR w X1 p g f (some ⟨b0, off, none⟩) n f.kinds.length (updM o0 (k : Int) M) [(k : Int)] (some ⟨X1.heap.size, 0, none⟩) 1 (X1.alloc (.cells #[.int .i64 (k : Int)] 3))) := Lib.hid ⟨BF.out.trans (b.mono BF.out.size), qblk b XF.out, OW.out.below b, World.ownsRow_lit (base := X1.heap.size) (e := 3) (size := 1) X1 #[.int .i64 (k : Int)] 1 (Nat.le_refl _) (by unfold maxLen; omega) rfl, b.size⟩
            clear b BF XF OW
            obtain ⟨y, hy⟩ : ∃ x, Hid (X1.heap.size = x) := ⟨_, Lib.hid rfl⟩
            have eA : (some ⟨X1.heap.size, 0, none⟩ : Option Addr) = some ⟨y, 0, none⟩ := by rw [hy.out]
            rw [eA] at FA
            rw [hy.out]
            clear eA
            generalize hV9 : X1.alloc (.cells #[.int .i64 (k : Int)] 3) = U2 at *
            clear hV9
            refine yK hK ?_
            clear hK K
            refine yM (.slice (some ⟨y, 0, none⟩) 1 1) ?_
            refine yE ?_
            go_wp2_with fail
            have HIN : Hid (InF f (k : Int)) := Lib.hid ⟨by omega, by have := HKN.out; omega⟩
            obtain ⟨T, hT⟩ : ∃ T, Hid (floodG (nbR f) f (k : Int) M (f.kinds.length + 1) (updM o0 (k : Int) M, [(k : Int)]) = T) := ⟨_, Lib.hid rfl⟩
            have HT := Lib.hid hT.out
            have FI := Lib.hid (FlI.start (f := f) RK.out.rg HIN.out HS.out (i := (k : Int)) (m := M))
            have FN := Lib.hid (free_upd (f := f) (m := M) HIN.out HS.out)
            generalize U2 = Y3 at *
            go_loopg [8] (f.kinds.length + 1) (fun gk s8 wr => ∃ (o : OfM) (ws : List Int) (wa : Option Addr) (wc : Nat), s8 = .slice wa ws.length wc ∧ Hid (FlR w X1 p g f (some ⟨b0, off, none⟩) n f.kinds.length o ws wa wc wr) ∧ Hid (FlI f o0 (k : Int) M o ws (fun _ => False)) ∧ Hid (floodG (nbR f) f (k : Int) M gk (o, ws) = T) ∧ Hid (freeN f o + ws.length ≤ gk) ∧ Hid (gk ≤ f.kinds.length + 1))
            case atStart => exact ⟨updM o0 (k : Int) M, [(k : Int)], some ⟨y, 0, none⟩, 1, rfl, FA, FI, hT, Lib.hid (by have h1 := FN.out; have h2 := free_le (f := f) o0; simp only [List.length_singleton]; omega), Lib.hid (Nat.le_refl _)⟩
            case round =>
              clear FA FI hT
              obtain ⟨o, ws, wa, wc, rfl, FA, FI, FT, KM, KB⟩ := hrel
              rcases List.eq_nil_or_concat ws with ew | ⟨ws2, x, ew⟩
              · subst ew
                have e1 : wrap64 (M + 1) = M + 1 := by have h1 := ML.out; have := LL.out; have := HKN.out; unfold wrap64; omega
                have ER : Hid (regionsG (nbR f) f (k + 1) = (T, M + 1)) := Lib.hid (by
                  rw [NS.out]
                  unfold regStepG
                  rw [if_neg (by show ¬ (o0 (k : Int)).isSome = true; rw [HS.out]; decide)]
                  exact congrArg (fun x => (x, M + 1)) HT.out)
                have EO : Hid (o = T) := Lib.hid (by rw [← FT.out]; exact (flood_nil _ _ _ _ _ _).symm)
                go_upto_region 23 with fail
                have E1 := Lib.hid e1
                go_upto_region 9 with fail
                clear e1 hlk
                have hk64 := HK64.out
                go_wp2_with fail
                go_roundw
                case rel => exact ⟨k + 1, by simp, by rw [ER.out, E1.out], by omega, Lib.hid FA.out.bel, Lib.hid FA.out.pf, by rw [ER.out, ← EO.out]; exact Lib.hid FA.out.out⟩
                case measure => simp [intOf]; omega
              · rw [List.concat_eq_append] at ew
                subst ew
                obtain ⟨hpop, g0, ewa, hcx, hwc⟩ := FA.out.pop
                subst ewa
                have FP := Lib.hid hpop
                clear hpop FA
                have el : (ws2 ++ [x]).length = ws2.length + 1 := by simp
                have WB : Hid (ws2.length + 1 ≤ 2305) := Lib.hid (by have h1 := LL.out; have h2 := KM.out; have h3 := KB.out; rw [el] at h2; omega)
                have HXI := Lib.hid (show InF f x ∧ Reach f (k : Int) x by
                  have hx := FI.out.wk x (List.mem_append_right _ (List.mem_singleton.2 rfl))
                  rcases FI.out.new x M hx with h5 | h5
                  · have := (RK.out.rg.inr x M h5).2.2; omega
                  · exact h5.2.2)
                rw [el]
                clear el
                have t1 : decide ((0 : Int) < (ws2.length : Int) + 1) = true := decide_eq_true (by omega)
                have e5 : wrap64 (ws2.length : Int) = ws2.length := by have := WB.out; unfold wrap64; omega
                go_upto_region 16 with fail
                clear t1 e5 hcx hwc
                have BF := Lib.hid FP.out.bel
                have XF := Lib.hid FP.out.pf
                refine yB ?_
                refine yW (.agg (f.cells (some ⟨b0, off, none⟩) n)) ?_ (qyrow (by kernel_rfl) 28 _ rfl p rfl _ 28 (0, 0) _ (fun W hW => by rw [hW]; exact XF.out) Tryz.underlying28 rfl (by exact (qJF f (some ⟨b0, off, none⟩) n)))
                refine yM (.int .i64 x) ?_
                refine yR (fun K hK => ?_)
                go_simp
                refine (rarnd_any f (some ⟨b0, off, none⟩) n x _ HV.out HXI.out.1).mono ?_
                rintro e U7 ⟨⟨la, lc, rfl, own⟩, b⟩
                obtain ⟨Lst, hL⟩ : ∃ z, Hid (nbR f x = z) := ⟨_, Lib.hid rfl⟩
                rw [hL.out] at own ⊢
                have NLL : Hid (1 ≤ Lst.length ∧ Lst.length ≤ 4) := Lib.hid (by rw [← hL.out]; exact nbR_len f x)
                obtain ⟨NL, hNL⟩ : ∃ z, Hid (Lst.length = z) := ⟨_, Lib.hid rfl⟩
                rw [hNL.out] at own NLL ⊢
                obtain ⟨lb, hlb⟩ := own.at (show 0 < NL by have := NLL.out; omega)
                subst hlb
                have LG : Hid (lb ≠ g) := Lib.hid (by have h1 := (own.lt lb rfl).1; have h2 := GX.out; have h3 := FP.out.sz; omega)
                have LR : Hid (LkR U7 lb NL lc Lst (.slice (some ⟨g0, 0, none⟩) ws2.length wc)) := Lib.hid ⟨own.rd, fun e => by
                  have h1 := (own.lt lb rfl).1
                  have h2 := (FP.out.work.lt lb e).2
                  omega, (own.lt lb rfl).2⟩
                clear own
                replace BF := Lib.hid (BF.out.trans (b.mono BF.out.size))
                replace FP := Lib.hid (FP.out.below b)
                replace XF := Lib.hid (qblk b XF.out)
                clear b
                try dsimp only
                refine yK hK ?_
                clear hK K
                refine yM (.slice (some ⟨lb, 0, none⟩) NL lc) ?_
                refine yE ?_
                have LIN : Hid (∀ z ∈ Lst, InF f z) := Lib.hid (fun z hz => by rw [← hL.out, HNB.out x HXI.out.1] at hz; exact (neigh_in HV.out HXI.out.1 hz).1)
                go_wp2_with fail
                generalize U7 = Y4 at *
                go_loopw [8, 11] (fun s8 mv wr => ∃ (j : Nat) (wa : Option Addr) (wc : Nat), mv = .int .i64 (j : Int) ∧ j ≤ NL ∧ s8 = .slice wa (stF f (k : Int) M o ws2 (Lst.take j)).2.length wc ∧ Hid (FlR w X1 p g f (some ⟨b0, off, none⟩) n f.kinds.length (stF f (k : Int) M o ws2 (Lst.take j)).1 (stF f (k : Int) M o ws2 (Lst.take j)).2 wa wc wr) ∧ Hid (LkR wr lb NL lc Lst (.slice wa (stF f (k : Int) M o ws2 (Lst.take j)).2.length wc))) (fun _ mv _ => NL - (intOf mv).toNat)
                case atStart => exact ⟨0, some ⟨g0, 0, none⟩, wc, rfl, Nat.zero_le _, rfl, FP, LR⟩
                case round =>
                  clear FP LR BF XF
                  obtain ⟨j, wa, wc2, rfl, hj, rfl, FR, LR⟩ := hrel
                  by_cases hjn : j < NL
                  · have t0 : decide ((j : Int) < (NL : Int)) = true := by simp; omega
                    have HJ64 : Hid ((j : Int) + 1 ≤ 9223372036854775807) := Lib.hid (by have := NLL.out; omega)
                    obtain ⟨z, hz⟩ : ∃ z, Lst[j]? = some z := ⟨_, List.getElem?_eq_getElem (by rw [hNL.out]; exact hjn)⟩
                    have HZI := Lib.hid (LIN.out z (List.mem_of_getElem? hz))
                    obtain ⟨zn, hzn⟩ : ∃ zn : Nat, z = (zn : Int) := ⟨z.toNat, by have := HZI.out.1; omega⟩
                    subst hzn
                    have HZ := Lib.hid hz
                    have HZL : Hid (zn < f.kinds.length) := Lib.hid (by have := HZI.out.2; omega)
                    have TS : Hid (Lst.take (j + 1) = Lst.take j ++ [(zn : Int)]) := Lib.hid (by rw [List.take_add_one, HZ.out]; rfl)
                    have SN := Lib.hid (stF_next f (k : Int) M o ws2 (Lst.take j) (zn : Int))
                    rw [← TS.out] at SN
                    have SL := Lib.hid (stF_len f (k : Int) M (Lst.take j) o ws2)
                    have TL : Hid ((Lst.take j).length ≤ 4) := Lib.hid (by have := NLL.out; rw [List.length_take]; omega)
                    clear hz
                    obtain ⟨st, hst⟩ : ∃ z, Hid (stF f (k : Int) M o ws2 (Lst.take j) = z) := ⟨_, Lib.hid rfl⟩
                    rw [hst.out] at FR LR SN SL
                    rw [hst.out]
                    obtain ⟨o2, wk⟩ := st
                    dsimp only at FR LR SL
                    dsimp only
                    obtain ⟨v, hv⟩ : ∃ v, Hid ((o2 (zn : Int)).getD (-1) = v) := ⟨_, Lib.hid rfl⟩
                    obtain ⟨bx, hbx⟩ : ∃ b, Hid ((f.kat zn == 0) = b) := ⟨_, Lib.hid rfl⟩
                    obtain ⟨by2, hby⟩ : ∃ b, Hid ((f.kat k == 0) = b) := ⟨_, Lib.hid rfl⟩
                    have LZ : Hid (landB f (zn : Int) = bx ∧ landB f (k : Int) = by2) := Lib.hid ⟨by rw [← hbx.out]; unfold landB; rw [Int.toNat_natCast, Bool.eq_iff_iff]; simp, by rw [← hby.out]; unfold landB; rw [Int.toNat_natCast, Bool.eq_iff_iff]; simp⟩
                    have BF := Lib.hid FR.out.bel
                    have XF := Lib.hid FR.out.pf
                    go_upto_region 20 with fail
                    clear t0
                    have hjl : j < NL := hjn
                    have hzl : zn < f.kinds.length := HZL.out
                    have STI : Hid (∀ x r, o2 x = some r → 0 ≤ r) := Lib.hid (fun x r h => by
                      have h1 := stF_nonneg f (k : Int) M (by have := ML.out; omega) (Lst.take j) o ws2 (fun x r h => by
                        rcases FI.out.new x r h with h5 | h5
                        · exact (RK.out.rg.inr x r h5).2.1
                        · have := ML.out; rw [h5.1]; omega)
                      rw [hst.out] at h1
                      exact h1 x r h)
                    have hd : Below wr.heap.size wr wr.drew := (Below.refl _ _).drew
                    replace BF := Lib.hid (BF.out.trans (hd.mono BF.out.size))
                    replace FR := Lib.hid (FR.out.below hd)
                    replace LR := Lib.hid (LR.out.below hd)
                    replace XF := Lib.hid (qblk hd XF.out)
                    clear hd
                    refine zD (fun W => Below wr.drew.heap.size wr.drew W) (Below.refl _ _) (fun hHeld => ?_)
                    have BV := Lib.hid hHeld
                    generalize wr.drew = V9 at *
                    refine zW 0 rfl (.slice (some ⟨g, 0, none⟩) f.kinds.length f.kinds.length) ?_
                    refine zW 1 rfl (.slice (some ⟨lb, 0, none⟩) NL lc) ?_
                    refine zW 2 rfl (.int .i64 (j : Int)) ?_
                    refine zW 3 rfl (.pointer (some ⟨lb, j, none⟩)) ?_
                    refine zS 4 rfl (.int .i64 (zn : Int)) (fun W hW => by have c := rdi_at (LR.out.below hW).rd HZ.out; rw [Nat.zero_add] at c; go_simp; (try rfl)) ?_
                    refine zW 5 rfl (.pointer (some ⟨g, zn, none⟩)) ?_
                    refine zS 6 rfl (.int .i64 v) (fun W hW => by have c := (FR.out.below hW).get HZL.out; rw [hv.out] at c; go_simp; (try rfl)) ?_
                    cases hv0 : decide (v < 0)
                    · refine zW 7 rfl (.bool false) ?_
                      refine zW 8 rfl (.bool false) ?_
                      refine zW 9 rfl undef (hy := .inr ⟨by kernel_rfl, rfl⟩) ?_
                      refine zW 10 rfl undef (hy := .inr ⟨by kernel_rfl, rfl⟩) ?_
                      refine zW 11 rfl undef (hy := .inr ⟨by kernel_rfl, rfl⟩) ?_
                      refine zW 12 rfl undef (hy := .inr ⟨by kernel_rfl, rfl⟩) ?_
                      refine zW 13 rfl undef (hy := .inr ⟨by kernel_rfl, rfl⟩) ?_
                      refine zW 14 rfl undef (hy := .inr ⟨by kernel_rfl, rfl⟩) ?_
                      refine zW 15 rfl undef (hy := .inr ⟨by kernel_rfl, rfl⟩) ?_
                      refine zW 16 rfl undef (hy := .inr ⟨by kernel_rfl, rfl⟩) ?_
                      refine zW 17 rfl undef (hy := .inr ⟨by kernel_rfl, rfl⟩) ?_
                      refine zW 18 rfl undef (hy := .inr ⟨by kernel_rfl, rfl⟩) ?_
                      refine zW 19 rfl undef (hy := .inr ⟨by kernel_rfl, rfl⟩) ?_
                      refine zW 20 rfl undef (hy := .inr ⟨by kernel_rfl, rfl⟩) ?_
                      refine zW 21 rfl undef (hy := .inr ⟨by kernel_rfl, rfl⟩) ?_
                      refine zW 22 rfl undef (hy := .inr ⟨by kernel_rfl, rfl⟩) ?_
                      refine zW 23 rfl undef (hy := .inr ⟨by kernel_rfl, rfl⟩) ?_
                      refine zW 24 rfl undef (hy := .inr ⟨by kernel_rfl, rfl⟩) ?_
                      refine zW 25 rfl (.bool false) ?_
                      refine zE ?_
                      have bz := BV.out
                      replace BF := Lib.hid (BF.out.trans (bz.mono BF.out.size))
                      replace FR := Lib.hid (FR.out.below bz)
                      replace LR := Lib.hid (LR.out.below bz)
                      replace XF := Lib.hid (qblk bz XF.out)
                      clear bz
                      clear BV
                      have EV : Hid (stF f (k : Int) M o ws2 (Lst.take (j + 1)) = (o2, wk)) := Lib.hid (by
                        rw [SN.out]
                        unfold visitF
                        rw [if_neg]
                        have h1 := of_decide_eq_false hv0
                        have h2 := hv.out
                        cases h3 : o2 (zn : Int) with
                        | none => rw [h3] at h2; simp at h2; omega
                        | some r => simp [h3])
                      go_upto_region 19 with fail
                      clear hjl hzl
                      have hj64 := HJ64.out
                      go_wp2_with fail
                      go_roundw
                      case rel => exact ⟨j + 1, wa, wc2, by simp, by omega, by rw [EV.out], by rw [EV.out]; exact FR, by rw [EV.out]; exact LR⟩
                      case measure => simp [intOf]; omega
                    · refine zW 7 rfl (.bool true) ?_
                      refine zW 8 rfl (.bool true) ?_
                      refine zW 9 rfl (.pointer (some ⟨p, 3, none⟩)) ?_
                      refine zS 10 rfl (.slice (some ⟨b0, off, none⟩) f.kinds.length n) (fun W hW => by have c := qcell (qblk hW XF.out) 3 (.slice (some ⟨b0, off, none⟩) f.kinds.length n) rfl; go_simp) ?_
                      refine zW 11 rfl (.slice (some ⟨lb, 0, none⟩) NL lc) ?_
                      refine zW 12 rfl (.int .i64 (j : Int)) ?_
                      refine zW 13 rfl (.pointer (some ⟨lb, j, none⟩)) ?_
                      refine zS 14 rfl (.int .i64 (zn : Int)) (fun W hW => by have c := rdi_at (LR.out.below hW).rd HZ.out; rw [Nat.zero_add] at c; go_simp; (try rfl)) ?_
                      refine zW 15 rfl (.pointer (some ⟨b0, off + zn, none⟩)) ?_
                      refine zS 16 rfl (.int .i64 (f.kat zn)) (fun W hW => by have c := RC.out zn HZL.out W (BF.out.trans (hW.mono BF.out.size)); go_simp) ?_
                      refine zW 17 rfl (.bool bx) (hy := .inl ⟨by kernel_rfl, by intro W _; go_simp; exact hbx.out⟩) ?_
                      refine zW 18 rfl (.pointer (some ⟨p, 3, none⟩)) ?_
                      refine zS 19 rfl (.slice (some ⟨b0, off, none⟩) f.kinds.length n) (fun W hW => by have c := qcell (qblk hW XF.out) 3 (.slice (some ⟨b0, off, none⟩) f.kinds.length n) rfl; go_simp) ?_
                      refine zW 20 rfl (.int .i64 (k : Int)) ?_
                      refine zW 21 rfl (.pointer (some ⟨b0, off + k, none⟩)) ?_
                      refine zS 22 rfl (.int .i64 (f.kat k)) (fun W hW => by have c := RC.out k HKN.out W (BF.out.trans (hW.mono BF.out.size)); go_simp) ?_
                      refine zW 23 rfl (.bool by2) (hy := .inl ⟨by kernel_rfl, by intro W _; go_simp; exact hby.out⟩) ?_
                      cases hb9 : (bx == by2)
                      · refine zW 24 rfl (.bool false) (hy := .inl ⟨by kernel_rfl, by intro W _; go_simp; first | done | exact hb9⟩) ?_
                        refine zW 25 rfl (.bool false) ?_
                        refine zE ?_
                        have bz := BV.out
                        replace BF := Lib.hid (BF.out.trans (bz.mono BF.out.size))
                        replace FR := Lib.hid (FR.out.below bz)
                        replace LR := Lib.hid (LR.out.below bz)
                        replace XF := Lib.hid (qblk bz XF.out)
                        clear bz
                        clear BV
                        have EV : Hid (stF f (k : Int) M o ws2 (Lst.take (j + 1)) = (o2, wk)) := Lib.hid (by
                          rw [SN.out]
                          unfold visitF
                          dsimp only
                          rw [LZ.out.1, LZ.out.2, hb9]
                          rw [if_neg (by simp)])
                        go_upto_region 19 with fail
                        clear hjl hzl
                        have hj64 := HJ64.out
                        go_wp2_with fail
                        go_roundw
                        case rel => exact ⟨j + 1, wa, wc2, by simp, by omega, by rw [EV.out], by rw [EV.out]; exact FR, by rw [EV.out]; exact LR⟩
                        case measure => simp [intOf]; omega
                      · refine zW 24 rfl (.bool true) (hy := .inl ⟨by kernel_rfl, by intro W _; go_simp; first | done | exact hb9⟩) ?_
                        refine zW 25 rfl (.bool true) ?_
                        refine zE ?_
                        have bz := BV.out
                        replace BF := Lib.hid (BF.out.trans (bz.mono BF.out.size))
                        replace FR := Lib.hid (FR.out.below bz)
                        replace LR := Lib.hid (LR.out.below bz)
                        replace XF := Lib.hid (qblk bz XF.out)
                        clear bz
                        clear BV
                        have ON : Hid (o2 (zn : Int) = none) := Lib.hid (by
                          have h1 := of_decide_eq_true hv0
                          have h2 := hv.out
                          cases h3 : o2 (zn : Int) with
                          | none => rfl
                          | some r =>
                            rw [h3] at h2
                            have h4 : r = v := h2
                            have h6 := STI.out _ _ h3
                            omega)
                        have EV : Hid (stF f (k : Int) M o ws2 (Lst.take (j + 1)) = (updM o2 (zn : Int) M, wk ++ [(zn : Int)])) := Lib.hid (by
                          rw [SN.out]
                          unfold visitF
                          dsimp only
                          rw [LZ.out.1, LZ.out.2, hb9]
                          rw [if_pos (by show ((o2 (zn : Int)).isNone && true) = true; rw [ON.out]; rfl)])
                        clear hv0 hb9
                        go_upto_region 21 with fail
                        refine yB ?_
                        refine yM (.slice (some ⟨g, 0, none⟩) f.kinds.length f.kinds.length) ?_
                        refine yM (.slice (some ⟨lb, 0, none⟩) NL lc) ?_
                        refine yM (.int .i64 (j : Int)) ?_
                        refine yW (.pointer (some ⟨lb, j, none⟩)) ?_
                        refine yW (.int .i64 (zn : Int)) ?_ (.inl ⟨by kernel_rfl, by intro W hW; rw [hW]; have c := rdi_at LR.out.rd HZ.out; rw [Nat.zero_add] at c; go_simp⟩)
                        refine yM (.int .i64 M) ?_
                        refine yW (.pointer (some ⟨g, zn, none⟩)) ?_
                        refine yR (fun K hK => ?_)
                        have OP := Lib.hid (FR.out.put GX.out HZL.out M)
                        have cc := OP.out.2.1
                        have cf := OP.out.2.2.1
                        go_simp
                        clear cc cf
                        replace LR := Lib.hid (LR.out.grown OP.out.2.2.2 LG.out)
                        replace FR := Lib.hid OP.out.1
                        replace BF := Lib.hid FR.out.bel
                        replace XF := Lib.hid FR.out.pf
                        clear OP
                        generalize V9.setCell ⟨g, zn, none⟩ (.int .i64 M) = X5 at *
                        refine yK hK ?_
                        clear hK K
                        refine yE ?_
                        go_upto_region 22 with fail
                        refine yB ?_
                        refine yM (.slice wa wk.length wc2) ?_
                        refine yM (.slice (some ⟨lb, 0, none⟩) NL lc) ?_
                        refine yM (.int .i64 (j : Int)) ?_
                        refine yW (.pointer (some ⟨lb, j, none⟩)) ?_
                        refine yW (.int .i64 (zn : Int)) ?_ (.inl ⟨by kernel_rfl, by intro W hW; rw [hW]; have c := rdi_at LR.out.rd HZ.out; rw [Nat.zero_add] at c; go_simp⟩)
                        refine yR (fun K hK => ?_)
                        refine qbuild (w' := X5.alloc (.cells #[.int .i64 (zn : Int)] 3)) (.slice (some ⟨X5.heap.size, 0, none⟩) 1 1) (by kernel_rfl) ?_
                        have LI := Lib.hid (lit_int X5 (zn : Int))
                        have b := zB X5 (.cells #[.int .i64 (zn : Int)] 3)
                        obtain ⟨y9, hy9⟩ : ∃ x, Hid (X5.heap.size = x) := ⟨_, Lib.hid rfl⟩
                        replace BF := Lib.hid (BF.out.trans (b.mono BF.out.size))
                        replace FR := Lib.hid (FR.out.below b)
                        replace LR := Lib.hid (LR.out.below b)
                        replace XF := Lib.hid (qblk b XF.out)
                        clear b
                        rw [hy9.out] at LI ⊢
                        generalize hV9 : X5.alloc (.cells #[.int .i64 (zn : Int)] 3) = X6 at *
                        clear hV9
                        refine yK hK ?_
                        clear hK K
                        refine yR (fun K hK => ?_)
                        obtain ⟨a7, c7, X7, hrun, FR7, AK⟩ := FR.out.app GX.out WX.out (zn : Int) LI.out (by have h1 := SL.out; have h2 := WB.out; have h3 := TL.out; omega)
                        refine qappend _ _ _ rfl _ _ _ rfl rfl hrun ?_
                        clear hrun
                        replace LR := Lib.hid (LR.out.app AK)
                        replace FR := Lib.hid FR7
                        replace BF := Lib.hid FR.out.bel
                        replace XF := Lib.hid FR.out.pf
                        clear FR7 AK LI
                        refine yK hK ?_
                        clear hK K
                        refine yM (.slice a7 (wk.length + 1) c7) ?_
                        refine yE ?_
                        have EL : Hid ((wk ++ [(zn : Int)]).length = wk.length + 1) := Lib.hid (by simp)
                        go_upto_region 19 with fail
                        clear hjl hzl
                        have hj64 := HJ64.out
                        go_wp2_with fail
                        go_roundw
                        case rel => exact ⟨j + 1, a7, c7, by simp, by omega, by rw [EV.out]; dsimp only; rw [EL.out], by rw [EV.out]; exact FR, by rw [EV.out]; dsimp only; rw [EL.out]; exact LR⟩
                        case measure => simp [intOf]; omega
                  · have t0 : decide ((j : Int) < (NL : Int)) = false := by simp; omega
                    have e : j = NL := by omega
                    subst e
                    have TA : Hid (Lst.take j = Lst) := Lib.hid (by rw [← hNL.out, List.take_length])
                    rw [TA.out] at FR LR
                    rw [TA.out]
                    have POP := FlI.pop HNB.out RK.out.rg HV.out FI.out
                    rw [hL.out] at POP
                    have POP2 : FlI f o0 (k : Int) M (stF f (k : Int) M o ws2 Lst).1 (stF f (k : Int) M o ws2 Lst).2 (fun _ => False) ∧ freeN f (stF f (k : Int) M o ws2 Lst).1 + (stF f (k : Int) M o ws2 Lst).2.length + 1 ≤ freeN f o + (ws2 ++ [x]).length := POP
                    have PP := Lib.hid POP2
                    have FLE : Hid (∀ q, floodG (nbR f) f (k : Int) M (q + 1) (o, ws2 ++ [x]) = floodG (nbR f) f (k : Int) M q (stF f (k : Int) M o ws2 Lst)) := Lib.hid (fun q => by
                      have := flood_cons (nbR f) f (k : Int) M o ws2 x q
                      rw [hL.out] at this
                      exact this)
                    clear POP POP2
                    obtain ⟨q, hq⟩ : ∃ q, Hid (gk = q + 1) := ⟨gk - 1, Lib.hid (by have h1 := PP.out.2; have h2 := KM.out; omega)⟩
                    rw [hq.out] at FT KM KB
                    rw [FLE.out] at FT
                    go_wp2_with fail
                    go_roundg q
                    case measure => have := hq.out; omega
                    case rel => exact ⟨_, _, wa, wc2, rfl, FR, Lib.hid PP.out.1, FT, Lib.hid (by have h1 := PP.out.2; have h2 := KM.out; omega), Lib.hid (by have := KB.out; omega)⟩
        · have t0 : decide ((k : Int) < (f.kinds.length : Int)) = false := by simp; omega
          have e : k = f.kinds.length := by omega
          subst e
          have ME := Lib.hid (marks_eq HV.out)
          rw [ME.out] at OW
          rw [ME.out]
          go_wp2_with fail
          go_ret2
          exact ⟨⟨g, rfl, OW.out⟩, BF.out⟩
end Go.Proofs.YtimmadkbkimonaaGreatDoor
namespace Go.Proofs.YtimmadkbkimonaaGreatDoor
set_option linter.unusedSimpArgs false
set_option linter.unusedVariables false
open Go.RowKit

structure LsR (w : World) (R q : Nat) (ls : Nat → List Int) (wa : Nat → Option Addr) (wc : Nat → Nat) (W : World) : Prop where
  bel : Below w.heap.size w W
  blk : W.heap[R]? = some (.cells (lsCells q ls wa wc) 26 (0, 0))
  own : ∀ j, j < q → W.ownsRow w.heap.size 3 1 (.slice (wa j) (ls j).length (wc j)) (ls j).length ((ls j).map intV)
  dis : ∀ j k, j < q → k < q → j ≠ k → ∀ g, Value.ownBlock (.slice (wa j) 0 0) = some g → Value.ownBlock (.slice (wa k) 0 0) ≠ some g
  ge : w.heap.size ≤ R
theorem LsR.below {w W W' : World} {R q : Nat} {ls : Nat → List Int} {wa : Nat → Option Addr} {wc : Nat → Nat} (h : LsR w R q ls wa wc W) (hb : Below W.heap.size W W') : LsR w R q ls wa wc W' :=
  ⟨h.bel.trans (hb.mono h.bel.size), qblk hb h.blk, fun j hj => own_below (h.own j hj) hb, h.dis, h.ge⟩
theorem LsR.push {w W V V7 : World} {R q r k : Nat} {f : FaceV} {o : OfM} {wa : Nat → Option Addr} {wc : Nat → Nat} {a7 : Option Addr} {c7 : Nat} (h : LsR w R q (fun j => regAt f o j k) wa wc V) (hr : r < q) (ho : o (k : Int) = some (r : Int))
    (ho7 : V7.ownsRow w.heap.size 3 1 (.slice a7 ((regAt f o r k).length + 1) c7) ((regAt f o r k).length + 1) ((regAt f o r k ++ [(k : Int)]).map intV))
    (hk7 : ∀ (p : Nat) (ob : Obj), V.heap[p]? = some ob → (∀ cur, ob ≠ .cells cur 3 (0, 0)) → V7.heap[p]? = some ob) (hb7 : ∀ W, Below w.heap.size W V → Below w.heap.size W V7)
    (hap : AppK (.slice (wa r) (regAt f o r k).length (wc r)) (.slice a7 ((regAt f o r k).length + 1) c7) V V7) (hg7 : V.grownBy V7 (Value.ownBlock (.slice (wa r) (regAt f o r k).length (wc r)))) :
    LsR w R q (fun j => regAt f o j ((k + 1 : Nat))) (fun j => if j = r then a7 else wa j) (fun j => if j = r then c7 else wc j) (V7.setCell ⟨R, r, none⟩ (.slice a7 ((regAt f o r k).length + 1) c7)) := by
  have hR := hk7 _ _ h.blk (by simp)
  have HG := qput_grown V7 R r (.slice a7 ((regAt f o r k).length + 1) c7)
  have er : regAt f o (r : Int) (k + 1) = regAt f o r k ++ [(k : Int)] := by rw [regAt_succ, if_pos ho]
  have ne : ∀ j : Nat, j ≠ r → regAt f o (j : Int) (k + 1) = regAt f o j k := fun j hj => by
    rw [regAt_succ, if_neg (by rw [ho]; intro e; have := Option.some.inj e; omega), List.append_nil]
  have lt : ∀ j : Nat, j < q → ∀ g, Value.ownBlock (.slice (wa j) 0 0) = some g → g < V.heap.size := fun j hj g e => ((h.own j hj).lt g (by rw [qob]; exact e)).2
  refine ⟨qstep (hb7 _ h.bel) HG h.ge, ?_, fun j hj => ?_, fun j k2 hj hk2 hjk g e => ?_, h.ge⟩
  · rw [qput_at hR r _]
    congr 2
    unfold lsCells
    apply Array.ext_getElem?
    intro j
    rw [Array.getElem?_setIfInBounds]
    by_cases hj : j < q
    · rw [List.getElem?_toArray, List.getElem?_toArray, List.getElem?_map, List.getElem?_map, List.getElem?_range hj]
      by_cases e : r = j
      · subst e
        rw [if_pos rfl, if_pos (by simp; omega)]
        simp only [Option.map_some, if_true]
        rw [er, List.length_append]
        rfl
      · rw [if_neg e]
        simp only [Option.map_some]
        rw [if_neg (fun e2 => e e2.symm), if_neg (fun e2 => e e2.symm), ne j (fun e2 => e e2.symm)]
    · rw [if_neg (by omega), List.getElem?_toArray, List.getElem?_toArray, List.getElem?_eq_none (by simp; omega), List.getElem?_eq_none (by simp; omega)]
  · try dsimp only
    by_cases e : j = r
    · subst e
      rw [if_pos rfl, if_pos rfl, er, List.length_append]
      exact ho7.kept HG (.inr (qown_no ho7 hR (by simp)).symm)
    · rw [if_neg e, if_neg e, ne j e]
      have h1 := h.own j hj
      have h2 := h1.kept hg7 (by
        cases hoj : Value.ownBlock (.slice (wa j) 0 0) with
        | none => left; rw [qob]; exact hoj
        | some g =>
          right
          intro e2
          rw [qob (wa j), qob (wa r), hoj] at e2
          exact h.dis j r hj hr e g hoj e2.symm)
      exact h2.kept HG (.inr (qown_no h2 hR (by simp)).symm)
  · try dsimp only at e ⊢
    by_cases e1 : j = r
    · rw [if_pos e1] at e
      rw [if_neg (fun e2 => hjk (e1.trans e2.symm))]
      intro e3
      have h1 := hap.no g (by rw [qob]; exact fun e4 => h.dis k2 r hk2 hr (fun e5 => hjk (e1.trans e5.symm)) g e3 e4) (lt k2 hk2 g e3)
      rw [qob] at h1
      exact h1.1 e
    · rw [if_neg e1] at e
      by_cases e2 : k2 = r
      · rw [if_pos e2]
        have h1 := hap.no g (by rw [qob]; exact fun e4 => h.dis j r hj hr e1 g e e4) (lt j hj g e)
        rw [qob] at h1
        exact h1.1
      · rw [if_neg e2]
        exact h.dis j k2 hj hk2 hjk g e
set_option maxHeartbeats 4000000 in
set_option maxRecDepth 100000 in
theorem rregionsP_any (f : FaceV) (a : Option Addr) (n : Nat) (w : World) (hr : RdI w a f.kinds.length n f.kinds) :
    Calls Tryz.prog 25 #[.agg (f.cells a n)] w fun e w' => (∃ oa oc, e = .returned (.tuple #[.slice oa (regionsP f).1.length oc, .int .i64 (regionsP f).2]) ∧ RdLL w' oa (regionsP f).1.length oc (regionsP f).1) ∧ Below w.heap.size w w' := by
  have AV := Lib.hid (fun W (hb : Below w.heap.size w W) => rvalid_any f a n W (hr.below hb))
  have HR := Lib.hid (fun W (hb : Below w.heap.size w W) => hr.below hb)
  clear hr
  have AL := Lib.hid (al1 w (.cells (f.cells a n) 28))
  go_enter Tryz.func25, Tryz.ntmps25
  go_upto_region 1 with fail
  obtain ⟨p, hp⟩ : ∃ p, Hid (w.heap.size = p) := ⟨_, Lib.hid rfl⟩
  rw [hp.out] at AL ⊢
  generalize (w.alloc (.cells (f.cells a n) 28)) = W0 at *
  have BF : Hid (Below w.heap.size w W0) := Lib.hid (by rw [hp.out]; exact AL.out.1)
  have XF : Hid (W0.heap[p]? = some (.cells (f.cells a n) 28 (0, 0))) := Lib.hid AL.out.2
  clear AL
  have c0 := qcell XF.out 0 (.int .i64 f.eye) rfl
  have c1 := qcell XF.out 1 (.int .i64 f.rings) rfl
  have c2 := qcell XF.out 2 (.int .i64 f.sectors) rfl
  have c3 := qcell XF.out 3 (.slice a f.kinds.length n) rfl
  go_wp2_with (first
    | (refine wpList_load_row rfl 28 _ rfl p rfl 28 (f.cells a n) (0, 0) _ XF.out Tryz.underlying28 rfl (by exact (qJF f a n)) ?_)
    | fail)
  refine (AV.out W0 BF.out).mono ?_
  rintro e V1 ⟨rfl, b⟩
  clear c0 c1 c2 c3
  replace BF := Lib.hid (BF.out.trans (b.mono BF.out.size))
  replace XF := Lib.hid (qblk b XF.out)
  clear b
  have c0 := qcell XF.out 0 (.int .i64 f.eye) rfl
  have c1 := qcell XF.out 1 (.int .i64 f.rings) rfl
  have c2 := qcell XF.out 2 (.int .i64 f.sectors) rfl
  have c3 := qcell XF.out 3 (.slice a f.kinds.length n) rfl
  cases hv : f.valid
  · go_wp2_with (first
      | (refine wpList_load_row rfl 28 _ rfl p rfl 28 (f.cells a n) (0, 0) _ XF.out Tryz.underlying28 rfl (by exact (qJF f a n)) ?_)
      | fail)
    go_ret2
    unfold regionsP
    rw [if_neg (by rw [hv]; decide)]
    exact ⟨⟨none, 0, rfl, RdLL.nil _⟩, BF.out⟩
  · have HV := Lib.hid hv
    have LL := Lib.hid (FaceV.len_le hv)
    have RF := Lib.hid (regF hv)
    have ML := Lib.hid (regionsN_le f f.kinds.length)
    clear hv
    clear c0 c1 c2 c3
    go_upto_region 3 with fail
    refine yB ?_
    refine yW (.agg (f.cells a n)) ?_ (qyrow (by kernel_rfl) 28 _ rfl p rfl _ 28 (0, 0) _ (fun W hW => by rw [hW]; exact XF.out) Tryz.underlying28 rfl (by exact (qJF f a n)))
    refine yR (fun K hK => ?_)
    go_simp
    refine (rmarks_any f a n _ HV.out (HR.out _ BF.out)).mono ?_
    rintro e V2 ⟨⟨b0, rfl, own⟩, b⟩
    have MK := Lib.hid own.rd
    clear own
    obtain ⟨q, hq⟩ : ∃ q : Nat, (regionsF f).2 = q := ⟨(regionsF f).2.toNat, (Int.toNat_of_nonneg RF.out.m0).symm⟩
    obtain ⟨o, ho⟩ : ∃ o, Hid ((regionsF f).1 = o) := ⟨_, Lib.hid rfl⟩
    have HQ : Hid ((regionsF f).2 = (q : Int)) := Lib.hid hq
    have QL : Hid (q ≤ 2304) := Lib.hid (by have h1 := ML.out.2; have h2 := LL.out; have h3 : (regionsN f f.kinds.length).2 = (q : Int) := hq; omega)
    rw [hq]
    rw [hq, ho.out] at RF
    rw [ho.out] at MK
    clear hq
    replace BF := Lib.hid (BF.out.trans (b.mono BF.out.size))
    replace XF := Lib.hid (qblk b XF.out)
    clear b
    try dsimp only
    refine yK hK ?_
    clear hK K
    refine yM (.tuple #[.slice (some ⟨b0, 0, none⟩) f.kinds.length f.kinds.length, .int .i64 (q : Int)]) ?_
    refine yM (.slice (some ⟨b0, 0, none⟩) f.kinds.length f.kinds.length) ?_
    refine yM (.int .i64 (q : Int)) ?_
    refine yM (.slice (some ⟨b0, 0, none⟩) f.kinds.length f.kinds.length) ?_
    refine yM (.int .i64 (q : Int)) ?_
    refine yE ?_
    go_upto_region 4 with fail
    refine yB ?_
    refine yM (.int .i64 (q : Int)) ?_
    refine yR (fun K hK => ?_)
    have hmk := run_make_slices q (by have := QL.out; omega) V2
    refine qbuild (w' := V2.alloc (.cells (lsCells q (fun _ => []) (fun _ => none) (fun _ => 0)) 26)) (.slice (some ⟨V2.heap.size, 0, none⟩) q q) (by go_simp) ?_
    clear hmk
    have AL := al1 V2 (.cells (lsCells q (fun _ => []) (fun _ => none) (fun _ => 0)) 26)
    obtain ⟨R, hR⟩ : ∃ R, Hid (V2.heap.size = R) := ⟨_, Lib.hid rfl⟩
    have L0 := Lib.hid (show LsR V2 R q (fun j => regAt f o j (0 : Nat)) (fun _ => none) (fun _ => 0) (V2.alloc (.cells (lsCells q (fun _ => []) (fun _ => none) (fun _ => 0)) 26)) from
      ⟨AL.1, by rw [← hR.out]; exact AL.2, fun j _ => World.ownsRow_nil _ _ _ _, fun j k _ _ _ g e => (by cases e), Nat.le_of_eq hR.out⟩)
    rw [hR.out]
    clear AL XF
    generalize V2.alloc (.cells (lsCells q (fun _ => []) (fun _ => none) (fun _ => 0)) 26) = V3 at *
    refine yK hK ?_
    clear hK K
    refine yM (.slice (some ⟨R, 0, none⟩) q q) ?_
    refine yE ?_
    go_wp2_with fail
    generalize V3 = Y1 at *
    go_loopw [7] (fun v wr => ∃ (k : Nat) (wa : Nat → Option Addr) (wc : Nat → Nat), v = .int .i64 k ∧ k ≤ f.kinds.length ∧ Hid (LsR V2 R q (fun j => regAt f o j k) wa wc wr)) (fun v _ => f.kinds.length - (intOf v).toNat)
    case atStart => exact ⟨0, _, _, rfl, Nat.zero_le _, L0⟩
    case round =>
      clear L0
      obtain ⟨k, wa, wc, rfl, hk, LA⟩ := hrel
      by_cases hkn : k < f.kinds.length
      · have t0 : decide ((k : Int) < (f.kinds.length : Int)) = true := by simp; omega
        have HK64 : Hid ((k : Int) + 1 ≤ 9223372036854775807) := Lib.hid (by have := LL.out; omega)
        obtain ⟨r0, hr0⟩ := Option.isSome_iff_exists.1 (RF.out.dn k hkn)
        have hri := RF.out.rg.inr _ _ hr0
        obtain ⟨r, rfl⟩ : ∃ r : Nat, r0 = r := ⟨r0.toNat, (Int.toNat_of_nonneg hri.2.1).symm⟩
        have HO := Lib.hid hr0
        have HRQ : Hid (r < q) := Lib.hid (by omega)
        have HKA : Hid ((mkL f.kinds.length o)[k]? = some (r : Int)) := Lib.hid (by rw [mkL_at hkn, hr0]; rfl)
        clear hr0 hri
        go_upto_region 8 with fail
        clear t0
        have hd : Below wr.heap.size wr wr.drew := (Below.refl _ _).drew
        replace LA := Lib.hid (LA.out.below hd)
        clear hd
        obtain ⟨V0, hV0⟩ : ∃ V0, wr.drew = V0 := ⟨_, rfl⟩
        rw [hV0] at LA
        have RL := Lib.hid (regAt_len f o r k)
        obtain ⟨l, hl⟩ : ∃ l, Hid (regAt f o (r : Int) k = l) := ⟨_, Lib.hid rfl⟩
        have hrq : r < q := HRQ.out
        have hkl : k < f.kinds.length := hkn
        refine bDq 16 (fun W => Below V2.heap.size V2 W ∧ W.heap[R]? = some (.cells (lsCells q (fun j => regAt f o j k) wa wc) 26 (0, 0))) ⟨LA.out.bel, LA.out.blk⟩ (fun hHeld => ?_)
        clear hV0
        refine bW 0 rfl (.slice (some ⟨R, 0, none⟩) q q) ?_
        refine bW 1 rfl (.slice (some ⟨b0, 0, none⟩) f.kinds.length f.kinds.length) ?_
        refine bW 2 rfl (.int .i64 (k : Int)) ?_
        refine bW 3 rfl (.pointer (some ⟨b0, k, none⟩)) ?_
        refine bS 4 rfl (.int .i64 (r : Int)) (fun W hW => by have c := rdi_at (MK.out.below hW.1) HKA.out; rw [Nat.zero_add] at c; go_simp) ?_
        refine bW 5 rfl (.slice (some ⟨R, 0, none⟩) q q) ?_
        refine bW 6 rfl (.slice (some ⟨b0, 0, none⟩) f.kinds.length f.kinds.length) ?_
        refine bW 7 rfl (.int .i64 (k : Int)) ?_
        refine bW 8 rfl (.pointer (some ⟨b0, k, none⟩)) ?_
        refine bS 9 rfl (.int .i64 (r : Int)) (fun W hW => by have c := rdi_at (MK.out.below hW.1) HKA.out; rw [Nat.zero_add] at c; go_simp) ?_
        refine bW 10 rfl (.pointer (some ⟨R, r, none⟩)) ?_
        refine bS 11 rfl (.slice (wa r) l.length (wc r)) (fun W hW => by have c := qcell hW.2 r _ (lsCells_at hrq); (try dsimp only at c); rw [hl.out] at c; go_simp) ?_
        refine bW 12 rfl (.int .i64 (k : Int)) ?_
        refine bR 13 rfl (fun K hK => ?_)
        rw [if_pos (by kernel_rfl)]
        refine qbuild (w' := V0.alloc (.cells #[.int .i64 (k : Int)] 3)) (.slice (some ⟨V0.heap.size, 0, none⟩) 1 1) (by kernel_rfl) ?_
        have L5 := Lib.hid (lit_int V0 (k : Int))
        replace LA := Lib.hid (LA.out.below (zB V0 (.cells #[.int .i64 (k : Int)] 3)))
        obtain ⟨p5, hp5⟩ : ∃ z, Hid (V0.heap.size = z) := ⟨_, Lib.hid rfl⟩
        rw [hp5.out] at L5 ⊢
        generalize V0.alloc (.cells #[.int .i64 (k : Int)] 3) = V4 at *
        refine bK hK ⟨LA.out.bel, LA.out.blk⟩ (fun hHeld => ?_)
        clear hK K
        refine bR 14 rfl (fun K hK => ?_)
        rw [if_pos (by kernel_rfl)]
        have OWR := LA.out.own r hrq
        try dsimp only at OWR
        rw [hl.out] at OWR RL
        obtain ⟨a7, c7, V7, hrun, ho7, hk7, hb7, hap7, hg7⟩ := run_app_at V4 V2.heap.size (wa r) _ (wc r) l OWR (some ⟨p5, 0, none⟩) 1 1 [(k : Int)] (by decide) L5.out (by have h1 := RL.out; have h2 := LL.out; omega) LA.out.bel.size
        refine qappend _ _ _ rfl _ _ _ rfl rfl hrun ?_
        clear hrun
        have F7 := Lib.hid (show Below V2.heap.size V2 V7 ∧ V7.heap[R]? = some (.cells (lsCells q (fun j => regAt f o j k) wa wc) 26 (0, 0)) from ⟨hb7 _ LA.out.bel, hk7 _ _ LA.out.blk (by simp)⟩)
        have LP : Hid (LsR V2 R q (fun j => regAt f o j ((k + 1 : Nat))) (fun j => if j = r then a7 else wa j) (fun j => if j = r then c7 else wc j) (V7.setCell ⟨R, r, none⟩ (.slice a7 (l.length + 1) c7))) := Lib.hid (by
          rw [← hl.out] at ho7 hap7 hg7 ⊢
          exact LA.out.push (W := V2) hrq HO.out ho7 hk7 hb7 hap7 hg7)
        clear ho7 hk7 hb7 hap7 hg7 OWR
        refine bK hK F7.out (fun hHeld => ?_)
        clear hK K
        refine bW 15 rfl (.pointer (some ⟨R, r, none⟩)) ?_
        refine bL rfl (fun K hK => ?_)
        have hce := qcell F7.out.2 r _ (lsCells_at hrq)
        have hfz := qfroz F7.out.2 r
        try dsimp only at hce
        go_simp
        refine hK.out _ _ ?_
        clear hK K hce hfz hHeld hrq hkl
        refine bE ?_
        go_upto_region 7 with fail
        have hk64 := HK64.out
        go_wp2_with fail
        go_roundw
        case rel => exact ⟨k + 1, _, _, by simp, by omega, LP⟩
        case measure => simp [intOf]; omega
      · have t0 : decide ((k : Int) < (f.kinds.length : Int)) = false := by simp; omega
        have e : k = f.kinds.length := by omega
        subst e
        go_wp2_with fail
        go_ret2
        have e9 : regionsP f = (regListF f, 0) := by unfold regionsP; rw [if_pos HV.out]
        have e8 : (regListF f).length = q := by rw [regList_len, HQ.out, Int.toNat_natCast]
        rw [e9]
        try dsimp only
        refine ⟨⟨some ⟨R, 0, none⟩, q, (by rw [e8]; rfl), ⟨rfl, by rw [e8]; exact Nat.le_refl _, by have := QL.out; unfold maxLen; omega, fun j l hj => ?_⟩⟩, BF.out.trans (LA.out.bel.mono BF.out.size)⟩
        have hjq : j < q := by rw [← e8]; exact (List.getElem?_eq_some_iff.1 hj).1
        have hjl : l = regAt f o j f.kinds.length := by
          have := regList_at (f := f) (n := j) (by rw [HQ.out, Int.toNat_natCast]; exact hjq)
          rw [hj, ho.out] at this
          exact Option.some.inj this
        subst hjl
        have hc := qcell LA.out.blk j _ (lsCells_at hjq)
        refine ⟨R, 0, wa j, wc j, rfl, ?_, RdA.of_own (LA.out.own j hjq)⟩
        rw [Nat.zero_add]
        exact hc
end Go.Proofs.YtimmadkbkimonaaGreatDoor
namespace Go.Proofs.YtimmadkbkimonaaGreatDoor
set_option linter.unusedSimpArgs false
set_option linter.unusedVariables false
open Go.RowKit

def drainsB (f : FaceV) : Bool := decide ((deadP f).2 = 0) && decide ((deadP f).1.length = 0)
set_option maxHeartbeats 4000000 in
set_option maxRecDepth 100000 in
theorem drainsP_any (f : FaceV) (a : Option Addr) (n : Nat) (w : World) (hr : RdI w a f.kinds.length n f.kinds) :
    Calls Tryz.prog 32 #[.agg (f.cells a n)] w fun e w' => e = .returned (.tuple #[.bool (drainsB f), .int .i64 (deadP f).2]) ∧ Below w.heap.size w w' := by
  have HR := Lib.hid hr
  clear hr
  have AL := Lib.hid (al1 w (.cells (f.cells a n) 28))
  go_enter Tryz.func32, Tryz.ntmps32
  go_upto_region 1 with fail
  obtain ⟨p, hp⟩ : ∃ p, Hid (w.heap.size = p) := ⟨_, Lib.hid rfl⟩
  rw [hp.out] at AL ⊢
  generalize (w.alloc (.cells (f.cells a n) 28)) = W0 at *
  have BF : Hid (Below w.heap.size w W0) := Lib.hid (by rw [hp.out]; exact AL.out.1)
  have XF : Hid (W0.heap[p]? = some (.cells (f.cells a n) 28 (0, 0))) := Lib.hid AL.out.2
  clear AL
  have c0 := qcell XF.out 0 (.int .i64 f.eye) rfl
  have c1 := qcell XF.out 1 (.int .i64 f.rings) rfl
  have c2 := qcell XF.out 2 (.int .i64 f.sectors) rfl
  have c3 := qcell XF.out 3 (.slice a f.kinds.length n) rfl
  clear c0 c1 c2 c3
  replace HR := Lib.hid (HR.out.below BF.out)
  go_upto_region 1 with fail
  refine yB ?_
  refine yW (.agg (f.cells a n)) ?_ (qyrow (by kernel_rfl) 28 _ rfl p rfl _ 28 (0, 0) _ (fun W hW => by rw [hW]; exact XF.out) Tryz.underlying28 rfl (by exact (qJF f a n)))
  refine yR (fun K hK => ?_)
  go_simp
  refine (deadP_any f a n _ HR.out).mono ?_
  rintro e U1 ⟨⟨b1, m1, rfl, own⟩, b⟩
  replace BF := Lib.hid (BF.out.trans (b.mono BF.out.size))
  replace HR := Lib.hid (HR.out.below b)
  replace XF := Lib.hid (qblk b XF.out)
  clear b
  clear own
  obtain ⟨N, hN⟩ : ∃ x, Hid ((deadP f).1.length = x) := ⟨_, Lib.hid rfl⟩
  obtain ⟨E, hE⟩ : ∃ x, Hid ((deadP f).2 = x) := ⟨_, Lib.hid rfl⟩
  rw [hN.out, hE.out]
  have DB : Hid (drainsB f = (decide (E = 0) && decide (N = 0))) := Lib.hid (by unfold drainsB; rw [hE.out, hN.out])
  try dsimp only
  refine yK hK ?_
  clear hK K
  refine yM (.tuple #[.slice b1 N m1, .int .i64 E]) ?_
  refine yM (.slice b1 N m1) ?_
  refine yM (.int .i64 E) ?_
  refine yM (.slice b1 N m1) ?_
  refine yM (.int .i64 E) ?_
  refine yE ?_
  go_upto_region 2 with fail
  refine yB ?_
  refine yM (.int .i64 E) ?_
  cases h1 : decide (E = 0)
  · refine yW (.bool false) ?_ (.inl ⟨by kernel_rfl, by intro W hW; rw [hW]; have h2 : (E == 0) = _ := h1; go_simp⟩) 
    refine yM (.bool false) ?_
    go_skip
    refine yM (.bool false) ?_
    refine yM (.int .i64 E) ?_
    refine yM (.bool false) ?_
    refine yM (.int .i64 E) ?_
    refine yE ?_
    have DV : Hid (drainsB f = false) := Lib.hid (by rw [DB.out]; simp only [h1]; rfl)
    go_wp2_with fail
    go_ret2
    rw [DV.out, hE.out]
    exact ⟨rfl, BF.out⟩
  · refine yW (.bool true) ?_ (.inl ⟨by kernel_rfl, by intro W hW; rw [hW]; have h2 : (E == 0) = _ := h1; go_simp⟩) 
    refine yM (.bool true) ?_
    refine yM (.slice b1 N m1) ?_
    refine yW (.int .i64 (N : Int)) ?_
    cases h2 : decide (N = 0)
    · refine yW (.bool false) ?_ (.inl ⟨by kernel_rfl, by intro W hW; rw [hW]; go_simp; simpa using h2⟩) 
      refine yM (.bool false) ?_
      refine yM (.int .i64 E) ?_
      refine yM (.bool false) ?_
      refine yM (.int .i64 E) ?_
      refine yE ?_
      have DV : Hid (drainsB f = false) := Lib.hid (by rw [DB.out]; simp only [h1, h2]; rfl)
      go_wp2_with fail
      go_ret2
      rw [DV.out, hE.out]
      exact ⟨rfl, BF.out⟩
    · refine yW (.bool true) ?_ (.inl ⟨by kernel_rfl, by intro W hW; rw [hW]; go_simp; simpa using h2⟩) 
      refine yM (.bool true) ?_
      refine yM (.int .i64 E) ?_
      refine yM (.bool true) ?_
      refine yM (.int .i64 E) ?_
      refine yE ?_
      have DV : Hid (drainsB f = true) := Lib.hid (by rw [DB.out]; simp only [h1, h2]; rfl)
      go_wp2_with fail
      go_ret2
      rw [DV.out, hE.out]
      exact ⟨rfl, BF.out⟩
end Go.Proofs.YtimmadkbkimonaaGreatDoor
