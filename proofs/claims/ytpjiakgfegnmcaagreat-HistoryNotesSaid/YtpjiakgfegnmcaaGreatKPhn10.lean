/- The given row HistoryNotes, proved: whatever the input, true, and the input reads as it did. -/
import Derived.Test.YtpjiakgfegnmcaaGreatRows
import Derived.ProofKit
import Derived.OpenShut
import Derived.Deep.Strs
import Derived.Test.YtpjiakgfegnmcaaGreatKPhn9
set_option linter.unusedSimpArgs false
set_option linter.unusedVariables false
namespace Go.Proofs.YtpjiakgfegnmcaaGreat
open Go.RowKit

/-- A frame and a note, boxed one behind the other. -/
structure LocF (w W : World) (p0 p1 : Nat) (f : FrV) (n : NoteV) (sa : Option Addr) (sc : Nat) : Prop where
  e0 : W.heap[p0]? = some (.cells #[.int .i64 f.rings, .int .i64 f.sectors, .int .i64 f.wide] 23 (0, 0))
  e1 : W.heap[p1]? = some (.cells (noteA n sa sc) 51 (0, 0))
  b : Below p0 w W
  lt : p0 < p1
theorem LocF.below {w W W' : World} {p0 p1 : Nat} {f : FrV} {n : NoteV} {sa : Option Addr} {sc : Nat} (h : LocF w W p0 p1 f n sa sc) (hb : Below W.heap.size W W') : LocF w W' p0 p1 f n sa sc := by
  have g : ∀ {k : Nat} {o : Obj}, W.heap[k]? = some o → W'.heap[k]? = some o := fun {k o} hk => (hb.block k (Array.getElem?_eq_some_iff.1 hk).1).trans hk
  have h0 := (Array.getElem?_eq_some_iff.1 h.e0).1
  exact ⟨g h.e0, g h.e1, h.b.trans (hb.mono (by omega)), h.lt⟩
theorem frame_cells {W : World} {p : Nat} {A : Array Value} {t : TypeId} {sp : Nat × Nat} (h : W.heap[p]? = some (.cells A t sp)) (j : Nat) (v : Value) (hv : A[j]? = some v) : W.cell? ⟨p, j, none⟩ = some v := by
  simp [World.cell?, h, hv]
section
attribute [local go_sem] noteA_0 noteA_1 noteA_2 noteA_3 noteA_4 noteA_5 noteA_6 noteA_7 noteA_8 noteA_9 noteA_10 noteA_11 noteA_12 noteA_13 noteA_14 noteA_15 noteA_16 noteA_17 noteA_18
variable (f : FrV) (n : NoteV) (sa : Option Addr) (sc : Nat) (w : World)
set_option maxHeartbeats 20000000 in
set_option maxRecDepth 100000 in
theorem well_2 (hv : f.valid = true) (hs : RdI w sa n.strokes.length sc n.strokes) (hk : n.kind = 2) :
    Calls Tryz.prog 65 #[f.val, .agg (noteA n sa sc)] w fun e w' => e = .returned (.bool (wellB f n)) ∧ Below w.heap.size w w' := by
  have I43 := Lib.hid (show ∀ (m : NoteV) (a : Option Addr) (c : Nat), (Tryz.prog.info? 51).map (·.size) = some (noteA m a c).size from fun m a c => by kernel_rfl)
  have g1 := heap_at (w.alloc (.cells #[.int .i64 f.rings, .int .i64 f.sectors, .int .i64 f.wide] 23)) (.cells (noteA n sa sc) 51) (w.heap.size + 1) (by simp)
  have g0 := heap_before (w.alloc (.cells #[.int .i64 f.rings, .int .i64 f.sectors, .int .i64 f.wide] 23)) (.cells (noteA n sa sc) 51) _ _ (heap_at w (.cells #[.int .i64 f.rings, .int .i64 f.sectors, .int .i64 f.wide] 23) _ rfl)
  have bb : Below w.heap.size w ((w.alloc (.cells #[.int .i64 f.rings, .int .i64 f.sectors, .int .i64 f.wide] 23)).alloc (.cells (noteA n sa sc) 51)) := ((Below.refl _ _).alloc (Nat.le_refl _) _).alloc (by simp) _
  have L0 : Hid (LocF w ((w.alloc (.cells #[.int .i64 f.rings, .int .i64 f.sectors, .int .i64 f.wide] 23)).alloc (.cells (noteA n sa sc) 51)) w.heap.size (w.heap.size + 1) f n sa sc) := Lib.hid ⟨g0, g1, bb, by omega⟩
  clear g0 g1 bb
  unfold FrV.val
  go_enter Tryz.func65, Tryz.ntmps65
  go_upto_region 1 with fail
  generalize hW0 : (w.alloc (.cells #[.int .i64 f.rings, .int .i64 f.sectors, .int .i64 f.wide] 23)).alloc (.cells (noteA n sa sc) 51) = W0 at *
  generalize hp0 : w.heap.size = p0 at *
  generalize hp1 : p0 + 1 = p1 at *
  have RDb := Lib.hid (show ∀ W', Below p0 w W' → RdI W' sa n.strokes.length sc n.strokes from fun W' h => hs.below (by rw [hp0]; exact h))
  have HP0 := Lib.hid hp0; clear hp0 hp1 hW0
  have HV := Lib.hid hv; clear hv
  have HK := Lib.hid hk; clear hk
  have q2 : (n.kind == 2) = true := by simp [HK.out]
  have q2' : decide (n.kind = 2) = true := by simp [HK.out]
  have q5 : (n.kind == 5) = false := by simp [HK.out]
  have q5' : decide (n.kind = 5) = false := by simp [HK.out]
  have q6 : (n.kind == 6) = false := by simp [HK.out]
  have q6' : decide (n.kind = 6) = false := by simp [HK.out]
  have HRS := Lib.hid (show refersB n = true by simp [refersB, HK.out])
  have HK2 := Lib.hid (show ¬ n.kind = 6 ∧ ¬ n.kind = 5 by rw [HK.out]; decide)
  go_wp2_with   (first
      | (refine wpList_load_row rfl 51 _ rfl p1 rfl 51 (noteA n sa sc) (0, 0) _ L0.out.e1 Tryz.underlying51 rfl (I43.out _ _ _) ?_)
      | (refine wpList_load_rowG ?hw 51 _ rfl p1 rfl 51 (noteA n sa sc) (0, 0) _ L0.out.e1 Tryz.underlying51 rfl (I43.out _ _ _) ?_; case hw => rfl))
  refine (rNameOf_any n sa sc _).mono ?_
  rintro e w1 ⟨rfl, b1⟩
  have L1 := Lib.hid (L0.out.below b1); clear b1
  go_wp2_with fail
  refine (rrightName_any n.house n.num _).mono ?_
  rintro e w2 ⟨rfl, b2⟩
  have L2 := Lib.hid (L1.out.below b2); clear b2
  cases hrn : rightNameB n.house n.num
  · have hR : wellB f n = false := by simp [wellB, HRS.out, HK2.out.1, HK2.out.2, hrn]
    have HRX := Lib.hid hR; clear hR
    go_wp2_with fail
    go_ret
    rw [HRX.out]
    exact ⟨rfl, by first | exact L2.out.b | (rw [HP0.out]; exact L2.out.b)⟩
  · have HRN := Lib.hid hrn; clear hrn
    have k2 := note_cells L2.out.e1 2 _ rfl
    simp only [Nat.zero_add] at k2
    have k3 := note_cells L2.out.e1 3 _ rfl
    simp only [Nat.zero_add] at k3
    have k4 := note_cells L2.out.e1 4 _ rfl
    simp only [Nat.zero_add] at k4
    have k16 := note_cells L2.out.e1 16 _ rfl
    simp only [Nat.zero_add] at k16
    have k17 := note_cells L2.out.e1 17 _ rfl
    simp only [Nat.zero_add] at k17
    go_wp2_with fail
    refine (rin_any n.clock 1 1099511627776 _).mono ?_
    rintro e w' ⟨rfl, rfl⟩
    cases hcl : inB n.clock 1 1099511627776
    · have hR : wellB f n = false := by simp [wellB, HRS.out, HK2.out.1, HK2.out.2, HRN.out, hcl]
      have HRX := Lib.hid hR; clear hR
      go_wp2_with fail
      go_ret
      rw [HRX.out]
      exact ⟨rfl, by first | exact L2.out.b | (rw [HP0.out]; exact L2.out.b)⟩
    · have HCL := Lib.hid hcl; clear hcl
      go_wp2_with fail
      refine (rin_any n.day 0 99999 _).mono ?_
      rintro e w' ⟨rfl, rfl⟩
      cases hda : inB n.day 0 99999
      · have hR : wellB f n = false := by simp [wellB, HRS.out, HK2.out.1, HK2.out.2, HRN.out, HCL.out, hda]
        have HRX := Lib.hid hR; clear hR
        go_wp2_with fail
        go_ret
        rw [HRX.out]
        exact ⟨rfl, by first | exact L2.out.b | (rw [HP0.out]; exact L2.out.b)⟩
      · have HDA := Lib.hid hda; clear hda
        by_cases h16 : n.refH = 0
        · by_cases h17 : n.refN = 0
          · have r16 : (n.refH == 0) = true := by simp [h16]
            have r16' : decide (n.refH = 0) = true := by simp [h16]
            have r17 : (n.refN == 0) = true := by simp [h17]
            have r17' : decide (n.refN = 0) = true := by simp [h17]
            have HNM := Lib.hid (show namedB n = false by simp [namedB, h16, h17])
            clear h16 h17
            have hR : wellB f n = false := by simp [wellB, HRS.out, HK2.out.1, HK2.out.2, HRN.out, HCL.out, HDA.out, HNM.out]
            have HRX := Lib.hid hR; clear hR
            go_wp2_with fail
            go_ret
            rw [HRX.out]
            exact ⟨rfl, by first | exact L2.out.b | (rw [HP0.out]; exact L2.out.b)⟩
          · have r16 : (n.refH == 0) = true := by simp [h16]
            have r16' : decide (n.refH = 0) = true := by simp [h16]
            have r17 : (n.refN == 0) = false := by simp [h17]
            have r17' : decide (n.refN = 0) = false := by simp [h17]
            have HNM := Lib.hid (show namedB n = true by simp [namedB, h16, h17])
            clear h16 h17
            go_wp2_with fail
            refine (rrightName_any n.refH n.refN _).mono ?_
            rintro e w3 ⟨rfl, b3⟩
            have L3 := Lib.hid (L2.out.below b3); clear b3
            cases hrf : rightNameB n.refH n.refN
            · have hR : wellB f n = false := by simp [wellB, HRS.out, HK2.out.1, HK2.out.2, HRN.out, HCL.out, HDA.out, HNM.out, hrf]
              have HRX := Lib.hid hR; clear hR
              go_wp2_with fail
              go_ret
              rw [HRX.out]
              exact ⟨rfl, by first | exact L3.out.b | (rw [HP0.out]; exact L3.out.b)⟩
            · have HRF := Lib.hid hrf; clear hrf
              clear k2 k3 k4 k16 k17
              have k4 := note_cells L3.out.e1 4 _ rfl
              simp only [Nat.zero_add] at k4
              by_cases hfx : n.fix = 0
              · have hfx1 : (n.fix == 0) = true := by simp [hfx]
                have hfx2 : decide (n.fix = 0) = true := by simp [hfx]
                have HFX := Lib.hid hfx; clear hfx
                have k18 := note_cells L3.out.e1 18 _ rfl
                simp only [Nat.zero_add] at k18
                have c0 := frame_cells L3.out.e0 0 _ rfl
                have c1 := frame_cells L3.out.e0 1 _ rfl
                have c2 := frame_cells L3.out.e0 2 _ rfl
                go_wp2_with   (first
                    | (refine wpList_load_row rfl 51 _ rfl p1 rfl 51 (noteA n sa sc) (0, 0) _ L3.out.e1 Tryz.underlying51 rfl (I43.out _ _ _) ?_)
                    | (refine wpList_load_rowG ?hw 51 _ rfl p1 rfl 51 (noteA n sa sc) (0, 0) _ L3.out.e1 Tryz.underlying51 rfl (I43.out _ _ _) ?_; case hw => rfl))

                refine (right_any f n sa sc _ HV.out (RDb.out _ L3.out.b) (n.kind)).mono ?_
                rintro e w5 ⟨rfl, b5⟩
                have L5 := Lib.hid (L3.out.below b5); clear b5
                cases hr : rightB f (n.kind) n
                · have hR : wellB f n = false := by simp [wellB, HRS.out, HK2.out.1, HK2.out.2, HRN.out, HCL.out, HDA.out, HNM.out, HRF.out, HFX.out, hr]
                  have HRX := Lib.hid hR; clear hR
                  go_wp2_with fail
                  go_ret
                  rw [HRX.out]
                  exact ⟨rfl, by first | exact L5.out.b | (rw [HP0.out]; exact L5.out.b)⟩
                · have HRR := Lib.hid hr; clear hr
                  go_wp2_with   (first
                      | (refine wpList_load_row rfl 51 _ rfl p1 rfl 51 (noteA n sa sc) (0, 0) _ L5.out.e1 Tryz.underlying51 rfl (I43.out _ _ _) ?_)
                      | (refine wpList_load_rowG ?hw 51 _ rfl p1 rfl 51 (noteA n sa sc) (0, 0) _ L5.out.e1 Tryz.underlying51 rfl (I43.out _ _ _) ?_; case hw => rfl))

                  refine (bare_any n sa sc _ (RDb.out _ L5.out.b) (n.kind)).mono ?_
                  rintro e w6 ⟨ta, tc, rfl, hrd, b6⟩
                  have L6 := Lib.hid (L5.out.below b6); clear b6
                  have hR : wellB f n = sameB (bareR (n.kind) n) zeroN := by simp [wellB, HRS.out, HK2.out.1, HK2.out.2, HRN.out, HCL.out, HDA.out, HNM.out, HRF.out, HFX.out, HRR.out]
                  obtain ⟨N, HN⟩ : ∃ N, Hid (bareR (n.kind) n = N) := ⟨_, Lib.hid rfl⟩
                  rw [HN.out] at hrd hR
                  have HRX := Lib.hid hR; clear hR
                  have RD6 := Lib.hid hrd; clear hrd
                  rw [HN.out]
                  go_wp2_with fail
                  refine (rsame_any N zeroN ta tc none 0 _ RD6.out (RdA.nil _ 1)).mono ?_
                  rintro e w7 ⟨rfl, b7⟩
                  have L7 := Lib.hid (L6.out.below b7); clear b7
                  go_wp2_with fail
                  go_ret
                  rw [HRX.out]
                  exact ⟨rfl, by first | exact L7.out.b | (rw [HP0.out]; exact L7.out.b)⟩
              · have hfx1 : (n.fix == 0) = false := by simp [hfx]
                have hfx2 : decide (n.fix = 0) = false := by simp [hfx]
                have HFX := Lib.hid hfx; clear hfx
                have k18 := note_cells L3.out.e1 18 _ rfl
                simp only [Nat.zero_add] at k18
                have hR : wellB f n = false := by simp [wellB, HRS.out, HK2.out.1, HK2.out.2, HRN.out, HCL.out, HDA.out, HNM.out, HRF.out, HFX.out]
                have HRX := Lib.hid hR; clear hR
                go_wp2_with fail
                go_ret
                rw [HRX.out]
                exact ⟨rfl, by first | exact L3.out.b | (rw [HP0.out]; exact L3.out.b)⟩
        · have r16 : (n.refH == 0) = false := by simp [h16]
          have r16' : decide (n.refH = 0) = false := by simp [h16]
          have HNM := Lib.hid (show namedB n = true by simp [namedB, h16])
          clear h16
          go_wp2_with fail
          refine (rrightName_any n.refH n.refN _).mono ?_
          rintro e w3 ⟨rfl, b3⟩
          have L3 := Lib.hid (L2.out.below b3); clear b3
          cases hrf : rightNameB n.refH n.refN
          · have hR : wellB f n = false := by simp [wellB, HRS.out, HK2.out.1, HK2.out.2, HRN.out, HCL.out, HDA.out, HNM.out, hrf]
            have HRX := Lib.hid hR; clear hR
            go_wp2_with fail
            go_ret
            rw [HRX.out]
            exact ⟨rfl, by first | exact L3.out.b | (rw [HP0.out]; exact L3.out.b)⟩
          · have HRF := Lib.hid hrf; clear hrf
            clear k2 k3 k4 k16 k17
            have k4 := note_cells L3.out.e1 4 _ rfl
            simp only [Nat.zero_add] at k4
            by_cases hfx : n.fix = 0
            · have hfx1 : (n.fix == 0) = true := by simp [hfx]
              have hfx2 : decide (n.fix = 0) = true := by simp [hfx]
              have HFX := Lib.hid hfx; clear hfx
              have k18 := note_cells L3.out.e1 18 _ rfl
              simp only [Nat.zero_add] at k18
              have c0 := frame_cells L3.out.e0 0 _ rfl
              have c1 := frame_cells L3.out.e0 1 _ rfl
              have c2 := frame_cells L3.out.e0 2 _ rfl
              go_wp2_with   (first
                  | (refine wpList_load_row rfl 51 _ rfl p1 rfl 51 (noteA n sa sc) (0, 0) _ L3.out.e1 Tryz.underlying51 rfl (I43.out _ _ _) ?_)
                  | (refine wpList_load_rowG ?hw 51 _ rfl p1 rfl 51 (noteA n sa sc) (0, 0) _ L3.out.e1 Tryz.underlying51 rfl (I43.out _ _ _) ?_; case hw => rfl))

              refine (right_any f n sa sc _ HV.out (RDb.out _ L3.out.b) (n.kind)).mono ?_
              rintro e w5 ⟨rfl, b5⟩
              have L5 := Lib.hid (L3.out.below b5); clear b5
              cases hr : rightB f (n.kind) n
              · have hR : wellB f n = false := by simp [wellB, HRS.out, HK2.out.1, HK2.out.2, HRN.out, HCL.out, HDA.out, HNM.out, HRF.out, HFX.out, hr]
                have HRX := Lib.hid hR; clear hR
                go_wp2_with fail
                go_ret
                rw [HRX.out]
                exact ⟨rfl, by first | exact L5.out.b | (rw [HP0.out]; exact L5.out.b)⟩
              · have HRR := Lib.hid hr; clear hr
                go_wp2_with   (first
                    | (refine wpList_load_row rfl 51 _ rfl p1 rfl 51 (noteA n sa sc) (0, 0) _ L5.out.e1 Tryz.underlying51 rfl (I43.out _ _ _) ?_)
                    | (refine wpList_load_rowG ?hw 51 _ rfl p1 rfl 51 (noteA n sa sc) (0, 0) _ L5.out.e1 Tryz.underlying51 rfl (I43.out _ _ _) ?_; case hw => rfl))

                refine (bare_any n sa sc _ (RDb.out _ L5.out.b) (n.kind)).mono ?_
                rintro e w6 ⟨ta, tc, rfl, hrd, b6⟩
                have L6 := Lib.hid (L5.out.below b6); clear b6
                have hR : wellB f n = sameB (bareR (n.kind) n) zeroN := by simp [wellB, HRS.out, HK2.out.1, HK2.out.2, HRN.out, HCL.out, HDA.out, HNM.out, HRF.out, HFX.out, HRR.out]
                obtain ⟨N, HN⟩ : ∃ N, Hid (bareR (n.kind) n = N) := ⟨_, Lib.hid rfl⟩
                rw [HN.out] at hrd hR
                have HRX := Lib.hid hR; clear hR
                have RD6 := Lib.hid hrd; clear hrd
                rw [HN.out]
                go_wp2_with fail
                refine (rsame_any N zeroN ta tc none 0 _ RD6.out (RdA.nil _ 1)).mono ?_
                rintro e w7 ⟨rfl, b7⟩
                have L7 := Lib.hid (L6.out.below b7); clear b7
                go_wp2_with fail
                go_ret
                rw [HRX.out]
                exact ⟨rfl, by first | exact L7.out.b | (rw [HP0.out]; exact L7.out.b)⟩
            · have hfx1 : (n.fix == 0) = false := by simp [hfx]
              have hfx2 : decide (n.fix = 0) = false := by simp [hfx]
              have HFX := Lib.hid hfx; clear hfx
              have k18 := note_cells L3.out.e1 18 _ rfl
              simp only [Nat.zero_add] at k18
              have hR : wellB f n = false := by simp [wellB, HRS.out, HK2.out.1, HK2.out.2, HRN.out, HCL.out, HDA.out, HNM.out, HRF.out, HFX.out]
              have HRX := Lib.hid hR; clear hR
              go_wp2_with fail
              go_ret
              rw [HRX.out]
              exact ⟨rfl, by first | exact L3.out.b | (rw [HP0.out]; exact L3.out.b)⟩
set_option maxHeartbeats 20000000 in
set_option maxRecDepth 100000 in
theorem well_5 (hv : f.valid = true) (hs : RdI w sa n.strokes.length sc n.strokes) (hk : n.kind = 5) :
    Calls Tryz.prog 65 #[f.val, .agg (noteA n sa sc)] w fun e w' => e = .returned (.bool (wellB f n)) ∧ Below w.heap.size w w' := by
  have I43 := Lib.hid (show ∀ (m : NoteV) (a : Option Addr) (c : Nat), (Tryz.prog.info? 51).map (·.size) = some (noteA m a c).size from fun m a c => by kernel_rfl)
  have g1 := heap_at (w.alloc (.cells #[.int .i64 f.rings, .int .i64 f.sectors, .int .i64 f.wide] 23)) (.cells (noteA n sa sc) 51) (w.heap.size + 1) (by simp)
  have g0 := heap_before (w.alloc (.cells #[.int .i64 f.rings, .int .i64 f.sectors, .int .i64 f.wide] 23)) (.cells (noteA n sa sc) 51) _ _ (heap_at w (.cells #[.int .i64 f.rings, .int .i64 f.sectors, .int .i64 f.wide] 23) _ rfl)
  have bb : Below w.heap.size w ((w.alloc (.cells #[.int .i64 f.rings, .int .i64 f.sectors, .int .i64 f.wide] 23)).alloc (.cells (noteA n sa sc) 51)) := ((Below.refl _ _).alloc (Nat.le_refl _) _).alloc (by simp) _
  have L0 : Hid (LocF w ((w.alloc (.cells #[.int .i64 f.rings, .int .i64 f.sectors, .int .i64 f.wide] 23)).alloc (.cells (noteA n sa sc) 51)) w.heap.size (w.heap.size + 1) f n sa sc) := Lib.hid ⟨g0, g1, bb, by omega⟩
  clear g0 g1 bb
  unfold FrV.val
  go_enter Tryz.func65, Tryz.ntmps65
  go_upto_region 1 with fail
  generalize hW0 : (w.alloc (.cells #[.int .i64 f.rings, .int .i64 f.sectors, .int .i64 f.wide] 23)).alloc (.cells (noteA n sa sc) 51) = W0 at *
  generalize hp0 : w.heap.size = p0 at *
  generalize hp1 : p0 + 1 = p1 at *
  have RDb := Lib.hid (show ∀ W', Below p0 w W' → RdI W' sa n.strokes.length sc n.strokes from fun W' h => hs.below (by rw [hp0]; exact h))
  have HP0 := Lib.hid hp0; clear hp0 hp1 hW0
  have HV := Lib.hid hv; clear hv
  have HK := Lib.hid hk; clear hk
  have q2 : (n.kind == 2) = false := by simp [HK.out]
  have q2' : decide (n.kind = 2) = false := by simp [HK.out]
  have q5 : (n.kind == 5) = true := by simp [HK.out]
  have q5' : decide (n.kind = 5) = true := by simp [HK.out]
  have q6 : (n.kind == 6) = false := by simp [HK.out]
  have q6' : decide (n.kind = 6) = false := by simp [HK.out]
  have HRS := Lib.hid (show refersB n = true by simp [refersB, HK.out])
  go_wp2_with   (first
      | (refine wpList_load_row rfl 51 _ rfl p1 rfl 51 (noteA n sa sc) (0, 0) _ L0.out.e1 Tryz.underlying51 rfl (I43.out _ _ _) ?_)
      | (refine wpList_load_rowG ?hw 51 _ rfl p1 rfl 51 (noteA n sa sc) (0, 0) _ L0.out.e1 Tryz.underlying51 rfl (I43.out _ _ _) ?_; case hw => rfl))
  refine (rNameOf_any n sa sc _).mono ?_
  rintro e w1 ⟨rfl, b1⟩
  have L1 := Lib.hid (L0.out.below b1); clear b1
  go_wp2_with fail
  refine (rrightName_any n.house n.num _).mono ?_
  rintro e w2 ⟨rfl, b2⟩
  have L2 := Lib.hid (L1.out.below b2); clear b2
  cases hrn : rightNameB n.house n.num
  · have hR : wellB f n = false := by simp [wellB, HRS.out, HK.out, hrn]
    have HRX := Lib.hid hR; clear hR
    go_wp2_with fail
    go_ret
    rw [HRX.out]
    exact ⟨rfl, by first | exact L2.out.b | (rw [HP0.out]; exact L2.out.b)⟩
  · have HRN := Lib.hid hrn; clear hrn
    have k2 := note_cells L2.out.e1 2 _ rfl
    simp only [Nat.zero_add] at k2
    have k3 := note_cells L2.out.e1 3 _ rfl
    simp only [Nat.zero_add] at k3
    have k4 := note_cells L2.out.e1 4 _ rfl
    simp only [Nat.zero_add] at k4
    have k16 := note_cells L2.out.e1 16 _ rfl
    simp only [Nat.zero_add] at k16
    have k17 := note_cells L2.out.e1 17 _ rfl
    simp only [Nat.zero_add] at k17
    go_wp2_with fail
    refine (rin_any n.clock 1 1099511627776 _).mono ?_
    rintro e w' ⟨rfl, rfl⟩
    cases hcl : inB n.clock 1 1099511627776
    · have hR : wellB f n = false := by simp [wellB, HRS.out, HK.out, HRN.out, hcl]
      have HRX := Lib.hid hR; clear hR
      go_wp2_with fail
      go_ret
      rw [HRX.out]
      exact ⟨rfl, by first | exact L2.out.b | (rw [HP0.out]; exact L2.out.b)⟩
    · have HCL := Lib.hid hcl; clear hcl
      go_wp2_with fail
      refine (rin_any n.day 0 99999 _).mono ?_
      rintro e w' ⟨rfl, rfl⟩
      cases hda : inB n.day 0 99999
      · have hR : wellB f n = false := by simp [wellB, HRS.out, HK.out, HRN.out, HCL.out, hda]
        have HRX := Lib.hid hR; clear hR
        go_wp2_with fail
        go_ret
        rw [HRX.out]
        exact ⟨rfl, by first | exact L2.out.b | (rw [HP0.out]; exact L2.out.b)⟩
      · have HDA := Lib.hid hda; clear hda
        by_cases h16 : n.refH = 0
        · by_cases h17 : n.refN = 0
          · have r16 : (n.refH == 0) = true := by simp [h16]
            have r16' : decide (n.refH = 0) = true := by simp [h16]
            have r17 : (n.refN == 0) = true := by simp [h17]
            have r17' : decide (n.refN = 0) = true := by simp [h17]
            have HNM := Lib.hid (show namedB n = false by simp [namedB, h16, h17])
            clear h16 h17
            have hR : wellB f n = false := by simp [wellB, HRS.out, HK.out, HRN.out, HCL.out, HDA.out, HNM.out]
            have HRX := Lib.hid hR; clear hR
            go_wp2_with fail
            go_ret
            rw [HRX.out]
            exact ⟨rfl, by first | exact L2.out.b | (rw [HP0.out]; exact L2.out.b)⟩
          · have r16 : (n.refH == 0) = true := by simp [h16]
            have r16' : decide (n.refH = 0) = true := by simp [h16]
            have r17 : (n.refN == 0) = false := by simp [h17]
            have r17' : decide (n.refN = 0) = false := by simp [h17]
            have HNM := Lib.hid (show namedB n = true by simp [namedB, h16, h17])
            clear h16 h17
            go_wp2_with fail
            refine (rrightName_any n.refH n.refN _).mono ?_
            rintro e w3 ⟨rfl, b3⟩
            have L3 := Lib.hid (L2.out.below b3); clear b3
            cases hrf : rightNameB n.refH n.refN
            · have hR : wellB f n = false := by simp [wellB, HRS.out, HK.out, HRN.out, HCL.out, HDA.out, HNM.out, hrf]
              have HRX := Lib.hid hR; clear hR
              go_wp2_with fail
              go_ret
              rw [HRX.out]
              exact ⟨rfl, by first | exact L3.out.b | (rw [HP0.out]; exact L3.out.b)⟩
            · have HRF := Lib.hid hrf; clear hrf
              clear k2 k3 k4 k16 k17
              have k4 := note_cells L3.out.e1 4 _ rfl
              simp only [Nat.zero_add] at k4
              have k18 := note_cells L3.out.e1 18 _ rfl
              simp only [Nat.zero_add] at k18
              have c0 := frame_cells L3.out.e0 0 _ rfl
              have c1 := frame_cells L3.out.e0 1 _ rfl
              have c2 := frame_cells L3.out.e0 2 _ rfl
              go_wp2_with   (first
                  | (refine wpList_load_row rfl 51 _ rfl p1 rfl 51 (noteA n sa sc) (0, 0) _ L3.out.e1 Tryz.underlying51 rfl (I43.out _ _ _) ?_)
                  | (refine wpList_load_rowG ?hw 51 _ rfl p1 rfl 51 (noteA n sa sc) (0, 0) _ L3.out.e1 Tryz.underlying51 rfl (I43.out _ _ _) ?_; case hw => rfl))

              refine (right_any f n sa sc _ HV.out (RDb.out _ L3.out.b) (n.fix)).mono ?_
              rintro e w5 ⟨rfl, b5⟩
              have L5 := Lib.hid (L3.out.below b5); clear b5
              cases hr : rightB f (n.fix) n
              · have hR : wellB f n = false := by simp [wellB, HRS.out, HK.out, HRN.out, HCL.out, HDA.out, HNM.out, HRF.out, hr]
                have HRX := Lib.hid hR; clear hR
                go_wp2_with fail
                go_ret
                rw [HRX.out]
                exact ⟨rfl, by first | exact L5.out.b | (rw [HP0.out]; exact L5.out.b)⟩
              · have HRR := Lib.hid hr; clear hr
                go_wp2_with   (first
                    | (refine wpList_load_row rfl 51 _ rfl p1 rfl 51 (noteA n sa sc) (0, 0) _ L5.out.e1 Tryz.underlying51 rfl (I43.out _ _ _) ?_)
                    | (refine wpList_load_rowG ?hw 51 _ rfl p1 rfl 51 (noteA n sa sc) (0, 0) _ L5.out.e1 Tryz.underlying51 rfl (I43.out _ _ _) ?_; case hw => rfl))

                refine (bare_any n sa sc _ (RDb.out _ L5.out.b) (n.fix)).mono ?_
                rintro e w6 ⟨ta, tc, rfl, hrd, b6⟩
                have L6 := Lib.hid (L5.out.below b6); clear b6
                have hR : wellB f n = sameB (bareR (n.fix) n) zeroN := by simp [wellB, HRS.out, HK.out, HRN.out, HCL.out, HDA.out, HNM.out, HRF.out, HRR.out]
                obtain ⟨N, HN⟩ : ∃ N, Hid (bareR (n.fix) n = N) := ⟨_, Lib.hid rfl⟩
                rw [HN.out] at hrd hR
                have HRX := Lib.hid hR; clear hR
                have RD6 := Lib.hid hrd; clear hrd
                rw [HN.out]
                go_wp2_with fail
                refine (rsame_any N zeroN ta tc none 0 _ RD6.out (RdA.nil _ 1)).mono ?_
                rintro e w7 ⟨rfl, b7⟩
                have L7 := Lib.hid (L6.out.below b7); clear b7
                go_wp2_with fail
                go_ret
                rw [HRX.out]
                exact ⟨rfl, by first | exact L7.out.b | (rw [HP0.out]; exact L7.out.b)⟩
        · have r16 : (n.refH == 0) = false := by simp [h16]
          have r16' : decide (n.refH = 0) = false := by simp [h16]
          have HNM := Lib.hid (show namedB n = true by simp [namedB, h16])
          clear h16
          go_wp2_with fail
          refine (rrightName_any n.refH n.refN _).mono ?_
          rintro e w3 ⟨rfl, b3⟩
          have L3 := Lib.hid (L2.out.below b3); clear b3
          cases hrf : rightNameB n.refH n.refN
          · have hR : wellB f n = false := by simp [wellB, HRS.out, HK.out, HRN.out, HCL.out, HDA.out, HNM.out, hrf]
            have HRX := Lib.hid hR; clear hR
            go_wp2_with fail
            go_ret
            rw [HRX.out]
            exact ⟨rfl, by first | exact L3.out.b | (rw [HP0.out]; exact L3.out.b)⟩
          · have HRF := Lib.hid hrf; clear hrf
            clear k2 k3 k4 k16 k17
            have k4 := note_cells L3.out.e1 4 _ rfl
            simp only [Nat.zero_add] at k4
            have k18 := note_cells L3.out.e1 18 _ rfl
            simp only [Nat.zero_add] at k18
            have c0 := frame_cells L3.out.e0 0 _ rfl
            have c1 := frame_cells L3.out.e0 1 _ rfl
            have c2 := frame_cells L3.out.e0 2 _ rfl
            go_wp2_with   (first
                | (refine wpList_load_row rfl 51 _ rfl p1 rfl 51 (noteA n sa sc) (0, 0) _ L3.out.e1 Tryz.underlying51 rfl (I43.out _ _ _) ?_)
                | (refine wpList_load_rowG ?hw 51 _ rfl p1 rfl 51 (noteA n sa sc) (0, 0) _ L3.out.e1 Tryz.underlying51 rfl (I43.out _ _ _) ?_; case hw => rfl))

            refine (right_any f n sa sc _ HV.out (RDb.out _ L3.out.b) (n.fix)).mono ?_
            rintro e w5 ⟨rfl, b5⟩
            have L5 := Lib.hid (L3.out.below b5); clear b5
            cases hr : rightB f (n.fix) n
            · have hR : wellB f n = false := by simp [wellB, HRS.out, HK.out, HRN.out, HCL.out, HDA.out, HNM.out, HRF.out, hr]
              have HRX := Lib.hid hR; clear hR
              go_wp2_with fail
              go_ret
              rw [HRX.out]
              exact ⟨rfl, by first | exact L5.out.b | (rw [HP0.out]; exact L5.out.b)⟩
            · have HRR := Lib.hid hr; clear hr
              go_wp2_with   (first
                  | (refine wpList_load_row rfl 51 _ rfl p1 rfl 51 (noteA n sa sc) (0, 0) _ L5.out.e1 Tryz.underlying51 rfl (I43.out _ _ _) ?_)
                  | (refine wpList_load_rowG ?hw 51 _ rfl p1 rfl 51 (noteA n sa sc) (0, 0) _ L5.out.e1 Tryz.underlying51 rfl (I43.out _ _ _) ?_; case hw => rfl))

              refine (bare_any n sa sc _ (RDb.out _ L5.out.b) (n.fix)).mono ?_
              rintro e w6 ⟨ta, tc, rfl, hrd, b6⟩
              have L6 := Lib.hid (L5.out.below b6); clear b6
              have hR : wellB f n = sameB (bareR (n.fix) n) zeroN := by simp [wellB, HRS.out, HK.out, HRN.out, HCL.out, HDA.out, HNM.out, HRF.out, HRR.out]
              obtain ⟨N, HN⟩ : ∃ N, Hid (bareR (n.fix) n = N) := ⟨_, Lib.hid rfl⟩
              rw [HN.out] at hrd hR
              have HRX := Lib.hid hR; clear hR
              have RD6 := Lib.hid hrd; clear hrd
              rw [HN.out]
              go_wp2_with fail
              refine (rsame_any N zeroN ta tc none 0 _ RD6.out (RdA.nil _ 1)).mono ?_
              rintro e w7 ⟨rfl, b7⟩
              have L7 := Lib.hid (L6.out.below b7); clear b7
              go_wp2_with fail
              go_ret
              rw [HRX.out]
              exact ⟨rfl, by first | exact L7.out.b | (rw [HP0.out]; exact L7.out.b)⟩
set_option maxHeartbeats 20000000 in
set_option maxRecDepth 100000 in
theorem well_6 (hv : f.valid = true) (hs : RdI w sa n.strokes.length sc n.strokes) (hk : n.kind = 6) :
    Calls Tryz.prog 65 #[f.val, .agg (noteA n sa sc)] w fun e w' => e = .returned (.bool (wellB f n)) ∧ Below w.heap.size w w' := by
  have I43 := Lib.hid (show ∀ (m : NoteV) (a : Option Addr) (c : Nat), (Tryz.prog.info? 51).map (·.size) = some (noteA m a c).size from fun m a c => by kernel_rfl)
  have g1 := heap_at (w.alloc (.cells #[.int .i64 f.rings, .int .i64 f.sectors, .int .i64 f.wide] 23)) (.cells (noteA n sa sc) 51) (w.heap.size + 1) (by simp)
  have g0 := heap_before (w.alloc (.cells #[.int .i64 f.rings, .int .i64 f.sectors, .int .i64 f.wide] 23)) (.cells (noteA n sa sc) 51) _ _ (heap_at w (.cells #[.int .i64 f.rings, .int .i64 f.sectors, .int .i64 f.wide] 23) _ rfl)
  have bb : Below w.heap.size w ((w.alloc (.cells #[.int .i64 f.rings, .int .i64 f.sectors, .int .i64 f.wide] 23)).alloc (.cells (noteA n sa sc) 51)) := ((Below.refl _ _).alloc (Nat.le_refl _) _).alloc (by simp) _
  have L0 : Hid (LocF w ((w.alloc (.cells #[.int .i64 f.rings, .int .i64 f.sectors, .int .i64 f.wide] 23)).alloc (.cells (noteA n sa sc) 51)) w.heap.size (w.heap.size + 1) f n sa sc) := Lib.hid ⟨g0, g1, bb, by omega⟩
  clear g0 g1 bb
  unfold FrV.val
  go_enter Tryz.func65, Tryz.ntmps65
  go_upto_region 1 with fail
  generalize hW0 : (w.alloc (.cells #[.int .i64 f.rings, .int .i64 f.sectors, .int .i64 f.wide] 23)).alloc (.cells (noteA n sa sc) 51) = W0 at *
  generalize hp0 : w.heap.size = p0 at *
  generalize hp1 : p0 + 1 = p1 at *
  have RDb := Lib.hid (show ∀ W', Below p0 w W' → RdI W' sa n.strokes.length sc n.strokes from fun W' h => hs.below (by rw [hp0]; exact h))
  have HP0 := Lib.hid hp0; clear hp0 hp1 hW0
  have HV := Lib.hid hv; clear hv
  have HK := Lib.hid hk; clear hk
  have q2 : (n.kind == 2) = false := by simp [HK.out]
  have q2' : decide (n.kind = 2) = false := by simp [HK.out]
  have q5 : (n.kind == 5) = false := by simp [HK.out]
  have q5' : decide (n.kind = 5) = false := by simp [HK.out]
  have q6 : (n.kind == 6) = true := by simp [HK.out]
  have q6' : decide (n.kind = 6) = true := by simp [HK.out]
  have HRS := Lib.hid (show refersB n = true by simp [refersB, HK.out])
  go_wp2_with   (first
      | (refine wpList_load_row rfl 51 _ rfl p1 rfl 51 (noteA n sa sc) (0, 0) _ L0.out.e1 Tryz.underlying51 rfl (I43.out _ _ _) ?_)
      | (refine wpList_load_rowG ?hw 51 _ rfl p1 rfl 51 (noteA n sa sc) (0, 0) _ L0.out.e1 Tryz.underlying51 rfl (I43.out _ _ _) ?_; case hw => rfl))
  refine (rNameOf_any n sa sc _).mono ?_
  rintro e w1 ⟨rfl, b1⟩
  have L1 := Lib.hid (L0.out.below b1); clear b1
  go_wp2_with fail
  refine (rrightName_any n.house n.num _).mono ?_
  rintro e w2 ⟨rfl, b2⟩
  have L2 := Lib.hid (L1.out.below b2); clear b2
  cases hrn : rightNameB n.house n.num
  · have hR : wellB f n = false := by simp [wellB, HRS.out, HK.out, hrn]
    have HRX := Lib.hid hR; clear hR
    go_wp2_with fail
    go_ret
    rw [HRX.out]
    exact ⟨rfl, by first | exact L2.out.b | (rw [HP0.out]; exact L2.out.b)⟩
  · have HRN := Lib.hid hrn; clear hrn
    have k2 := note_cells L2.out.e1 2 _ rfl
    simp only [Nat.zero_add] at k2
    have k3 := note_cells L2.out.e1 3 _ rfl
    simp only [Nat.zero_add] at k3
    have k4 := note_cells L2.out.e1 4 _ rfl
    simp only [Nat.zero_add] at k4
    have k16 := note_cells L2.out.e1 16 _ rfl
    simp only [Nat.zero_add] at k16
    have k17 := note_cells L2.out.e1 17 _ rfl
    simp only [Nat.zero_add] at k17
    go_wp2_with fail
    refine (rin_any n.clock 1 1099511627776 _).mono ?_
    rintro e w' ⟨rfl, rfl⟩
    cases hcl : inB n.clock 1 1099511627776
    · have hR : wellB f n = false := by simp [wellB, HRS.out, HK.out, HRN.out, hcl]
      have HRX := Lib.hid hR; clear hR
      go_wp2_with fail
      go_ret
      rw [HRX.out]
      exact ⟨rfl, by first | exact L2.out.b | (rw [HP0.out]; exact L2.out.b)⟩
    · have HCL := Lib.hid hcl; clear hcl
      go_wp2_with fail
      refine (rin_any n.day 0 99999 _).mono ?_
      rintro e w' ⟨rfl, rfl⟩
      cases hda : inB n.day 0 99999
      · have hR : wellB f n = false := by simp [wellB, HRS.out, HK.out, HRN.out, HCL.out, hda]
        have HRX := Lib.hid hR; clear hR
        go_wp2_with fail
        go_ret
        rw [HRX.out]
        exact ⟨rfl, by first | exact L2.out.b | (rw [HP0.out]; exact L2.out.b)⟩
      · have HDA := Lib.hid hda; clear hda
        by_cases h16 : n.refH = 0
        · by_cases h17 : n.refN = 0
          · have r16 : (n.refH == 0) = true := by simp [h16]
            have r16' : decide (n.refH = 0) = true := by simp [h16]
            have r17 : (n.refN == 0) = true := by simp [h17]
            have r17' : decide (n.refN = 0) = true := by simp [h17]
            have HNM := Lib.hid (show namedB n = false by simp [namedB, h16, h17])
            clear h16 h17
            have hR : wellB f n = false := by simp [wellB, HRS.out, HK.out, HRN.out, HCL.out, HDA.out, HNM.out]
            have HRX := Lib.hid hR; clear hR
            go_wp2_with fail
            go_ret
            rw [HRX.out]
            exact ⟨rfl, by first | exact L2.out.b | (rw [HP0.out]; exact L2.out.b)⟩
          · have r16 : (n.refH == 0) = true := by simp [h16]
            have r16' : decide (n.refH = 0) = true := by simp [h16]
            have r17 : (n.refN == 0) = false := by simp [h17]
            have r17' : decide (n.refN = 0) = false := by simp [h17]
            have HNM := Lib.hid (show namedB n = true by simp [namedB, h16, h17])
            clear h16 h17
            go_wp2_with fail
            refine (rrightName_any n.refH n.refN _).mono ?_
            rintro e w3 ⟨rfl, b3⟩
            have L3 := Lib.hid (L2.out.below b3); clear b3
            cases hrf : rightNameB n.refH n.refN
            · have hR : wellB f n = false := by simp [wellB, HRS.out, HK.out, HRN.out, HCL.out, HDA.out, HNM.out, hrf]
              have HRX := Lib.hid hR; clear hR
              go_wp2_with fail
              go_ret
              rw [HRX.out]
              exact ⟨rfl, by first | exact L3.out.b | (rw [HP0.out]; exact L3.out.b)⟩
            · have HRF := Lib.hid hrf; clear hrf
              clear k2 k3 k4 k16 k17
              have k4 := note_cells L3.out.e1 4 _ rfl
              simp only [Nat.zero_add] at k4
              by_cases hfx : n.fix = 0
              · have hfx1 : (n.fix == 0) = true := by simp [hfx]
                have hfx2 : decide (n.fix = 0) = true := by simp [hfx]
                have HFX := Lib.hid hfx; clear hfx
                have k18 := note_cells L3.out.e1 18 _ rfl
                simp only [Nat.zero_add] at k18
                go_wp2_with   (first
                    | (refine wpList_load_row rfl 51 _ rfl p1 rfl 51 (noteA n sa sc) (0, 0) _ L3.out.e1 Tryz.underlying51 rfl (I43.out _ _ _) ?_)
                    | (refine wpList_load_rowG ?hw 51 _ rfl p1 rfl 51 (noteA n sa sc) (0, 0) _ L3.out.e1 Tryz.underlying51 rfl (I43.out _ _ _) ?_; case hw => rfl))

                refine (bare_any n sa sc _ (RDb.out _ L3.out.b) (0)).mono ?_
                rintro e w6 ⟨ta, tc, rfl, hrd, b6⟩
                have L6 := Lib.hid (L3.out.below b6); clear b6
                have hR : wellB f n = sameB (bareR (0) n) zeroN := by simp [wellB, HRS.out, HK.out, HRN.out, HCL.out, HDA.out, HNM.out, HRF.out, HFX.out]
                obtain ⟨N, HN⟩ : ∃ N, Hid (bareR (0) n = N) := ⟨_, Lib.hid rfl⟩
                rw [HN.out] at hrd hR
                have HRX := Lib.hid hR; clear hR
                have RD6 := Lib.hid hrd; clear hrd
                rw [HN.out]
                go_wp2_with fail
                refine (rsame_any N zeroN ta tc none 0 _ RD6.out (RdA.nil _ 1)).mono ?_
                rintro e w7 ⟨rfl, b7⟩
                have L7 := Lib.hid (L6.out.below b7); clear b7
                go_wp2_with fail
                go_ret
                rw [HRX.out]
                exact ⟨rfl, by first | exact L7.out.b | (rw [HP0.out]; exact L7.out.b)⟩
              · have hfx1 : (n.fix == 0) = false := by simp [hfx]
                have hfx2 : decide (n.fix = 0) = false := by simp [hfx]
                have HFX := Lib.hid hfx; clear hfx
                have k18 := note_cells L3.out.e1 18 _ rfl
                simp only [Nat.zero_add] at k18
                have hR : wellB f n = false := by simp [wellB, HRS.out, HK.out, HRN.out, HCL.out, HDA.out, HNM.out, HRF.out, HFX.out]
                have HRX := Lib.hid hR; clear hR
                go_wp2_with fail
                go_ret
                rw [HRX.out]
                exact ⟨rfl, by first | exact L3.out.b | (rw [HP0.out]; exact L3.out.b)⟩
        · have r16 : (n.refH == 0) = false := by simp [h16]
          have r16' : decide (n.refH = 0) = false := by simp [h16]
          have HNM := Lib.hid (show namedB n = true by simp [namedB, h16])
          clear h16
          go_wp2_with fail
          refine (rrightName_any n.refH n.refN _).mono ?_
          rintro e w3 ⟨rfl, b3⟩
          have L3 := Lib.hid (L2.out.below b3); clear b3
          cases hrf : rightNameB n.refH n.refN
          · have hR : wellB f n = false := by simp [wellB, HRS.out, HK.out, HRN.out, HCL.out, HDA.out, HNM.out, hrf]
            have HRX := Lib.hid hR; clear hR
            go_wp2_with fail
            go_ret
            rw [HRX.out]
            exact ⟨rfl, by first | exact L3.out.b | (rw [HP0.out]; exact L3.out.b)⟩
          · have HRF := Lib.hid hrf; clear hrf
            clear k2 k3 k4 k16 k17
            have k4 := note_cells L3.out.e1 4 _ rfl
            simp only [Nat.zero_add] at k4
            by_cases hfx : n.fix = 0
            · have hfx1 : (n.fix == 0) = true := by simp [hfx]
              have hfx2 : decide (n.fix = 0) = true := by simp [hfx]
              have HFX := Lib.hid hfx; clear hfx
              have k18 := note_cells L3.out.e1 18 _ rfl
              simp only [Nat.zero_add] at k18
              go_wp2_with   (first
                  | (refine wpList_load_row rfl 51 _ rfl p1 rfl 51 (noteA n sa sc) (0, 0) _ L3.out.e1 Tryz.underlying51 rfl (I43.out _ _ _) ?_)
                  | (refine wpList_load_rowG ?hw 51 _ rfl p1 rfl 51 (noteA n sa sc) (0, 0) _ L3.out.e1 Tryz.underlying51 rfl (I43.out _ _ _) ?_; case hw => rfl))

              refine (bare_any n sa sc _ (RDb.out _ L3.out.b) (0)).mono ?_
              rintro e w6 ⟨ta, tc, rfl, hrd, b6⟩
              have L6 := Lib.hid (L3.out.below b6); clear b6
              have hR : wellB f n = sameB (bareR (0) n) zeroN := by simp [wellB, HRS.out, HK.out, HRN.out, HCL.out, HDA.out, HNM.out, HRF.out, HFX.out]
              obtain ⟨N, HN⟩ : ∃ N, Hid (bareR (0) n = N) := ⟨_, Lib.hid rfl⟩
              rw [HN.out] at hrd hR
              have HRX := Lib.hid hR; clear hR
              have RD6 := Lib.hid hrd; clear hrd
              rw [HN.out]
              go_wp2_with fail
              refine (rsame_any N zeroN ta tc none 0 _ RD6.out (RdA.nil _ 1)).mono ?_
              rintro e w7 ⟨rfl, b7⟩
              have L7 := Lib.hid (L6.out.below b7); clear b7
              go_wp2_with fail
              go_ret
              rw [HRX.out]
              exact ⟨rfl, by first | exact L7.out.b | (rw [HP0.out]; exact L7.out.b)⟩
            · have hfx1 : (n.fix == 0) = false := by simp [hfx]
              have hfx2 : decide (n.fix = 0) = false := by simp [hfx]
              have HFX := Lib.hid hfx; clear hfx
              have k18 := note_cells L3.out.e1 18 _ rfl
              simp only [Nat.zero_add] at k18
              have hR : wellB f n = false := by simp [wellB, HRS.out, HK.out, HRN.out, HCL.out, HDA.out, HNM.out, HRF.out, HFX.out]
              have HRX := Lib.hid hR; clear hR
              go_wp2_with fail
              go_ret
              rw [HRX.out]
              exact ⟨rfl, by first | exact L3.out.b | (rw [HP0.out]; exact L3.out.b)⟩
set_option maxHeartbeats 20000000 in
set_option maxRecDepth 100000 in
theorem well_o (hv : f.valid = true) (hs : RdI w sa n.strokes.length sc n.strokes) (k2 : n.kind ≠ 2) (k5 : n.kind ≠ 5) (k6 : n.kind ≠ 6) :
    Calls Tryz.prog 65 #[f.val, .agg (noteA n sa sc)] w fun e w' => e = .returned (.bool (wellB f n)) ∧ Below w.heap.size w w' := by
  have I43 := Lib.hid (show ∀ (m : NoteV) (a : Option Addr) (c : Nat), (Tryz.prog.info? 51).map (·.size) = some (noteA m a c).size from fun m a c => by kernel_rfl)
  have g1 := heap_at (w.alloc (.cells #[.int .i64 f.rings, .int .i64 f.sectors, .int .i64 f.wide] 23)) (.cells (noteA n sa sc) 51) (w.heap.size + 1) (by simp)
  have g0 := heap_before (w.alloc (.cells #[.int .i64 f.rings, .int .i64 f.sectors, .int .i64 f.wide] 23)) (.cells (noteA n sa sc) 51) _ _ (heap_at w (.cells #[.int .i64 f.rings, .int .i64 f.sectors, .int .i64 f.wide] 23) _ rfl)
  have bb : Below w.heap.size w ((w.alloc (.cells #[.int .i64 f.rings, .int .i64 f.sectors, .int .i64 f.wide] 23)).alloc (.cells (noteA n sa sc) 51)) := ((Below.refl _ _).alloc (Nat.le_refl _) _).alloc (by simp) _
  have L0 : Hid (LocF w ((w.alloc (.cells #[.int .i64 f.rings, .int .i64 f.sectors, .int .i64 f.wide] 23)).alloc (.cells (noteA n sa sc) 51)) w.heap.size (w.heap.size + 1) f n sa sc) := Lib.hid ⟨g0, g1, bb, by omega⟩
  clear g0 g1 bb
  unfold FrV.val
  go_enter Tryz.func65, Tryz.ntmps65
  go_upto_region 1 with fail
  generalize hW0 : (w.alloc (.cells #[.int .i64 f.rings, .int .i64 f.sectors, .int .i64 f.wide] 23)).alloc (.cells (noteA n sa sc) 51) = W0 at *
  generalize hp0 : w.heap.size = p0 at *
  generalize hp1 : p0 + 1 = p1 at *
  have RDb := Lib.hid (show ∀ W', Below p0 w W' → RdI W' sa n.strokes.length sc n.strokes from fun W' h => hs.below (by rw [hp0]; exact h))
  have HP0 := Lib.hid hp0; clear hp0 hp1 hW0
  have HV := Lib.hid hv; clear hv
  have HK := Lib.hid (And.intro k2 (And.intro k5 k6)); clear k2 k5 k6
  have q2 : (n.kind == 2) = false := by simp [HK.out.1]
  have q2' : decide (n.kind = 2) = false := by simp [HK.out.1]
  have q5 : (n.kind == 5) = false := by simp [HK.out.2.1]
  have q5' : decide (n.kind = 5) = false := by simp [HK.out.2.1]
  have q6 : (n.kind == 6) = false := by simp [HK.out.2.2]
  have q6' : decide (n.kind = 6) = false := by simp [HK.out.2.2]
  have HRS := Lib.hid (show refersB n = false by simp [refersB, HK.out.1, HK.out.2.1, HK.out.2.2])
  go_wp2_with   (first
      | (refine wpList_load_row rfl 51 _ rfl p1 rfl 51 (noteA n sa sc) (0, 0) _ L0.out.e1 Tryz.underlying51 rfl (I43.out _ _ _) ?_)
      | (refine wpList_load_rowG ?hw 51 _ rfl p1 rfl 51 (noteA n sa sc) (0, 0) _ L0.out.e1 Tryz.underlying51 rfl (I43.out _ _ _) ?_; case hw => rfl))
  refine (rNameOf_any n sa sc _).mono ?_
  rintro e w1 ⟨rfl, b1⟩
  have L1 := Lib.hid (L0.out.below b1); clear b1
  go_wp2_with fail
  refine (rrightName_any n.house n.num _).mono ?_
  rintro e w2 ⟨rfl, b2⟩
  have L2 := Lib.hid (L1.out.below b2); clear b2
  cases hrn : rightNameB n.house n.num
  · have hR : wellB f n = false := by simp [wellB, HRS.out, HK.out.2.1, HK.out.2.2, hrn]
    have HRX := Lib.hid hR; clear hR
    go_wp2_with fail
    go_ret
    rw [HRX.out]
    exact ⟨rfl, by first | exact L2.out.b | (rw [HP0.out]; exact L2.out.b)⟩
  · have HRN := Lib.hid hrn; clear hrn
    have k2 := note_cells L2.out.e1 2 _ rfl
    simp only [Nat.zero_add] at k2
    have k3 := note_cells L2.out.e1 3 _ rfl
    simp only [Nat.zero_add] at k3
    have k4 := note_cells L2.out.e1 4 _ rfl
    simp only [Nat.zero_add] at k4
    have k16 := note_cells L2.out.e1 16 _ rfl
    simp only [Nat.zero_add] at k16
    have k17 := note_cells L2.out.e1 17 _ rfl
    simp only [Nat.zero_add] at k17
    go_wp2_with fail
    refine (rin_any n.clock 1 1099511627776 _).mono ?_
    rintro e w' ⟨rfl, rfl⟩
    cases hcl : inB n.clock 1 1099511627776
    · have hR : wellB f n = false := by simp [wellB, HRS.out, HK.out.2.1, HK.out.2.2, HRN.out, hcl]
      have HRX := Lib.hid hR; clear hR
      go_wp2_with fail
      go_ret
      rw [HRX.out]
      exact ⟨rfl, by first | exact L2.out.b | (rw [HP0.out]; exact L2.out.b)⟩
    · have HCL := Lib.hid hcl; clear hcl
      go_wp2_with fail
      refine (rin_any n.day 0 99999 _).mono ?_
      rintro e w' ⟨rfl, rfl⟩
      cases hda : inB n.day 0 99999
      · have hR : wellB f n = false := by simp [wellB, HRS.out, HK.out.2.1, HK.out.2.2, HRN.out, HCL.out, hda]
        have HRX := Lib.hid hR; clear hR
        go_wp2_with fail
        go_ret
        rw [HRX.out]
        exact ⟨rfl, by first | exact L2.out.b | (rw [HP0.out]; exact L2.out.b)⟩
      · have HDA := Lib.hid hda; clear hda
        by_cases h16 : n.refH = 0
        · by_cases h17 : n.refN = 0
          · have r16 : (n.refH == 0) = true := by simp [h16]
            have r16' : decide (n.refH = 0) = true := by simp [h16]
            have r17 : (n.refN == 0) = true := by simp [h17]
            have r17' : decide (n.refN = 0) = true := by simp [h17]
            have HNM := Lib.hid (show namedB n = false by simp [namedB, h16, h17])
            clear h16 h17
            by_cases hfx : n.fix = 0
            · have hfx1 : (n.fix == 0) = true := by simp [hfx]
              have hfx2 : decide (n.fix = 0) = true := by simp [hfx]
              have HFX := Lib.hid hfx; clear hfx
              have k18 := note_cells L2.out.e1 18 _ rfl
              simp only [Nat.zero_add] at k18
              have c0 := frame_cells L2.out.e0 0 _ rfl
              have c1 := frame_cells L2.out.e0 1 _ rfl
              have c2 := frame_cells L2.out.e0 2 _ rfl
              go_wp2_with   (first
                  | (refine wpList_load_row rfl 51 _ rfl p1 rfl 51 (noteA n sa sc) (0, 0) _ L2.out.e1 Tryz.underlying51 rfl (I43.out _ _ _) ?_)
                  | (refine wpList_load_rowG ?hw 51 _ rfl p1 rfl 51 (noteA n sa sc) (0, 0) _ L2.out.e1 Tryz.underlying51 rfl (I43.out _ _ _) ?_; case hw => rfl))

              refine (right_any f n sa sc _ HV.out (RDb.out _ L2.out.b) (n.kind)).mono ?_
              rintro e w5 ⟨rfl, b5⟩
              have L5 := Lib.hid (L2.out.below b5); clear b5
              cases hr : rightB f (n.kind) n
              · have hR : wellB f n = false := by simp [wellB, HRS.out, HK.out.2.1, HK.out.2.2, HRN.out, HCL.out, HDA.out, HNM.out, HFX.out, hr]
                have HRX := Lib.hid hR; clear hR
                go_wp2_with fail
                go_ret
                rw [HRX.out]
                exact ⟨rfl, by first | exact L5.out.b | (rw [HP0.out]; exact L5.out.b)⟩
              · have HRR := Lib.hid hr; clear hr
                go_wp2_with   (first
                    | (refine wpList_load_row rfl 51 _ rfl p1 rfl 51 (noteA n sa sc) (0, 0) _ L5.out.e1 Tryz.underlying51 rfl (I43.out _ _ _) ?_)
                    | (refine wpList_load_rowG ?hw 51 _ rfl p1 rfl 51 (noteA n sa sc) (0, 0) _ L5.out.e1 Tryz.underlying51 rfl (I43.out _ _ _) ?_; case hw => rfl))

                refine (bare_any n sa sc _ (RDb.out _ L5.out.b) (n.kind)).mono ?_
                rintro e w6 ⟨ta, tc, rfl, hrd, b6⟩
                have L6 := Lib.hid (L5.out.below b6); clear b6
                have hR : wellB f n = sameB (bareR (n.kind) n) zeroN := by simp [wellB, HRS.out, HK.out.2.1, HK.out.2.2, HRN.out, HCL.out, HDA.out, HNM.out, HFX.out, HRR.out]
                obtain ⟨N, HN⟩ : ∃ N, Hid (bareR (n.kind) n = N) := ⟨_, Lib.hid rfl⟩
                rw [HN.out] at hrd hR
                have HRX := Lib.hid hR; clear hR
                have RD6 := Lib.hid hrd; clear hrd
                rw [HN.out]
                go_wp2_with fail
                refine (rsame_any N zeroN ta tc none 0 _ RD6.out (RdA.nil _ 1)).mono ?_
                rintro e w7 ⟨rfl, b7⟩
                have L7 := Lib.hid (L6.out.below b7); clear b7
                go_wp2_with fail
                go_ret
                rw [HRX.out]
                exact ⟨rfl, by first | exact L7.out.b | (rw [HP0.out]; exact L7.out.b)⟩
            · have hfx1 : (n.fix == 0) = false := by simp [hfx]
              have hfx2 : decide (n.fix = 0) = false := by simp [hfx]
              have HFX := Lib.hid hfx; clear hfx
              have k18 := note_cells L2.out.e1 18 _ rfl
              simp only [Nat.zero_add] at k18
              have hR : wellB f n = false := by simp [wellB, HRS.out, HK.out.2.1, HK.out.2.2, HRN.out, HCL.out, HDA.out, HNM.out, HFX.out]
              have HRX := Lib.hid hR; clear hR
              go_wp2_with fail
              go_ret
              rw [HRX.out]
              exact ⟨rfl, by first | exact L2.out.b | (rw [HP0.out]; exact L2.out.b)⟩
          · have r16 : (n.refH == 0) = true := by simp [h16]
            have r16' : decide (n.refH = 0) = true := by simp [h16]
            have r17 : (n.refN == 0) = false := by simp [h17]
            have r17' : decide (n.refN = 0) = false := by simp [h17]
            have HNM := Lib.hid (show namedB n = true by simp [namedB, h16, h17])
            clear h16 h17
            have hR : wellB f n = false := by simp [wellB, HRS.out, HK.out.2.1, HK.out.2.2, HRN.out, HCL.out, HDA.out, HNM.out]
            have HRX := Lib.hid hR; clear hR
            go_wp2_with fail
            go_ret
            rw [HRX.out]
            exact ⟨rfl, by first | exact L2.out.b | (rw [HP0.out]; exact L2.out.b)⟩
        · have r16 : (n.refH == 0) = false := by simp [h16]
          have r16' : decide (n.refH = 0) = false := by simp [h16]
          have HNM := Lib.hid (show namedB n = true by simp [namedB, h16])
          clear h16
          have hR : wellB f n = false := by simp [wellB, HRS.out, HK.out.2.1, HK.out.2.2, HRN.out, HCL.out, HDA.out, HNM.out]
          have HRX := Lib.hid hR; clear hR
          go_wp2_with fail
          go_ret
          rw [HRX.out]
          exact ⟨rfl, by first | exact L2.out.b | (rw [HP0.out]; exact L2.out.b)⟩
theorem well_any (hv : f.valid = true) (hs : RdI w sa n.strokes.length sc n.strokes) :
    Calls Tryz.prog 65 #[f.val, .agg (noteA n sa sc)] w fun e w' => e = .returned (.bool (wellB f n)) ∧ Below w.heap.size w w' := by
  by_cases k2 : n.kind = 2
  · exact well_2 f n sa sc w hv hs k2
  by_cases k5 : n.kind = 5
  · exact well_5 f n sa sc w hv hs k5
  by_cases k6 : n.kind = 6
  · exact well_6 f n sa sc w hv hs k6
  exact well_o f n sa sc w hv hs k2 k5 k6
end
end Go.Proofs.YtpjiakgfegnmcaaGreat
namespace Go.Proofs.YtpjiakgfegnmcaaGreat
open Go.RowKit
section
attribute [local go_sem] noteA_0 noteA_1 noteA_2 noteA_3 noteA_4 noteA_5 noteA_6 noteA_7 noteA_8 noteA_9 noteA_10 noteA_11 noteA_12 noteA_13 noteA_14 noteA_15 noteA_16 noteA_17 noteA_18
variable (f : FrV) (n : NoteV) (sa : Option Addr) (sc : Nat) (w : World)
set_option maxHeartbeats 2000000 in
set_option maxRecDepth 100000 in
theorem rcheckNote_any (hs : RdI w sa n.strokes.length sc n.strokes) :
    Calls Tryz.prog 26 #[f.val, .agg (noteA n sa sc)] w fun e w' => e = .returned (.int .i64 (checkN f n)) ∧ Below w.heap.size w w' := by
  have I43 := Lib.hid (show ∀ (m : NoteV) (a : Option Addr) (c : Nat), (Tryz.prog.info? 51).map (·.size) = some (noteA m a c).size from fun m a c => by kernel_rfl)
  have g1 := heap_at (w.alloc (.cells #[.int .i64 f.rings, .int .i64 f.sectors, .int .i64 f.wide] 23)) (.cells (noteA n sa sc) 51) (w.heap.size + 1) (by simp)
  have g0 := heap_before (w.alloc (.cells #[.int .i64 f.rings, .int .i64 f.sectors, .int .i64 f.wide] 23)) (.cells (noteA n sa sc) 51) _ _ (heap_at w (.cells #[.int .i64 f.rings, .int .i64 f.sectors, .int .i64 f.wide] 23) _ rfl)
  have bb : Below w.heap.size w ((w.alloc (.cells #[.int .i64 f.rings, .int .i64 f.sectors, .int .i64 f.wide] 23)).alloc (.cells (noteA n sa sc) 51)) := ((Below.refl _ _).alloc (Nat.le_refl _) _).alloc (by simp) _
  have L0 : Hid (LocF w ((w.alloc (.cells #[.int .i64 f.rings, .int .i64 f.sectors, .int .i64 f.wide] 23)).alloc (.cells (noteA n sa sc) 51)) w.heap.size (w.heap.size + 1) f n sa sc) := Lib.hid ⟨g0, g1, bb, by omega⟩
  clear g0 g1 bb
  unfold FrV.val
  go_enter Tryz.func26, Tryz.ntmps26
  go_upto_region 1 with fail
  generalize hW0 : (w.alloc (.cells #[.int .i64 f.rings, .int .i64 f.sectors, .int .i64 f.wide] 23)).alloc (.cells (noteA n sa sc) 51) = W0 at *
  generalize hp0 : w.heap.size = p0 at *
  generalize hp1 : p0 + 1 = p1 at *
  have RDb := Lib.hid (show ∀ W', Below p0 w W' → RdI W' sa n.strokes.length sc n.strokes from fun W' h => hs.below (by rw [hp0]; exact h))
  have HP0 := Lib.hid hp0; clear hp0 hp1 hW0
  have c0 := cell_of L0.out.e0 0 _ rfl
  have c1 := cell_of L0.out.e0 1 _ rfl
  have c2 := cell_of L0.out.e0 2 _ rfl
  go_wp2_with fail
  refine (validFrame_any f.rings f.sectors f.wide _).mono ?_
  rintro e w1 ⟨rfl, b1⟩
  have L1 := Lib.hid (L0.out.below b1); clear b1 c0 c1 c2
  cases hv : f.valid
  · have hR : checkN f n = 1 := by unfold checkN; rw [hv]; rfl
    have HR := Lib.hid hR; clear hR hv
    go_wp2_with fail
    go_ret
    rw [HR.out]
    exact ⟨rfl, by rw [HP0.out]; exact L1.out.b⟩
  · have HV := Lib.hid hv; clear hv
    have c0 := cell_of L1.out.e0 0 _ rfl
    have c1 := cell_of L1.out.e0 1 _ rfl
    have c2 := cell_of L1.out.e0 2 _ rfl
    go_wp2_with     (first
        | (refine wpList_load_row rfl 51 _ rfl p1 rfl 51 (noteA n sa sc) (0, 0) _ L1.out.e1 Tryz.underlying51 rfl (I43.out _ _ _) ?_)
        | (refine wpList_load_rowG ?hw 51 _ rfl p1 rfl 51 (noteA n sa sc) (0, 0) _ L1.out.e1 Tryz.underlying51 rfl (I43.out _ _ _) ?_; case hw => rfl))
    refine (well_any f n sa sc _ HV.out (RDb.out _ L1.out.b)).mono ?_
    rintro e w2 ⟨rfl, b2⟩
    have L2 := Lib.hid (L1.out.below b2); clear b2
    rw [← formed_well HV.out]
    cases hf : formedB f n
    · have hR : checkN f n = 80 := by unfold checkN; rw [HV.out, hf]; rfl
      have HR := Lib.hid hR; clear hR hf
      go_wp2_with fail
      go_ret
      rw [HR.out]
      exact ⟨rfl, by rw [HP0.out]; exact L2.out.b⟩
    · have hR : checkN f n = 0 := by unfold checkN; rw [HV.out, hf]; rfl
      have HR := Lib.hid hR; clear hR hf
      go_wp2_with fail
      go_ret
      rw [HR.out]
      exact ⟨rfl, by rw [HP0.out]; exact L2.out.b⟩
end
end Go.Proofs.YtpjiakgfegnmcaaGreat
namespace Go.Proofs.YtpjiakgfegnmcaaGreat
set_option linter.unusedSimpArgs false
open Go.RowKit

set_option maxHeartbeats 16000000 in
set_option maxRecDepth 100000 in
theorem rcheckSet_any (f : FrV) (a : Option Addr) (n c : Nat) (l : List NoteV) (w : World) (hr : RdNs w a n c l) :
    Calls Tryz.prog 24 #[f.val, .slice a n c] w fun e w' => e = .returned (.tuple #[.int .i64 (checkSetP f l).1, .int .i64 (checkSetP f l).2]) ∧ Below w.heap.size w w' := by
  have hvl : f.val = .agg #[.int .i64 f.rings, .int .i64 f.sectors, .int .i64 f.wide] := rfl
  have HVL := Lib.hid hvl
  have WELL := Lib.hid (fun (x : NoteV) sa sc (W : World) (hv : f.valid = true) (hs : RdI W sa x.strokes.length sc x.strokes) => formed_well hv x ▸ well_any f x sa sc W hv hs)
  rw [hvl] at WELL ⊢; clear hvl
  have I43 : (Tryz.prog.info? 51).map (·.size) = some 19 := by kernel_rfl
  have hL := Lib.hid hr.1
  have hn63 : n ≤ 9223372036854775807 := by have h1 := hr.2.1; have h2 := hr.2.2.1; unfold maxLen at h2; omega
  have B0 := Lib.hid ((Below.refl w.heap.size w).alloc (Nat.le_refl _) (.cells #[.int .i64 f.rings, .int .i64 f.sectors, .int .i64 f.wide] 23))
  have F0 := Lib.hid (heap_last w (.cells #[.int .i64 f.rings, .int .i64 f.sectors, .int .i64 f.wide] 23))
  have R0 := Lib.hid (hr.below B0.out)
  clear hr
  go_enter Tryz.func24, Tryz.ntmps24
  go_upto_region 1 with fail
  obtain ⟨p, hp⟩ : ∃ p, Hid (w.heap.size = p) := ⟨_, Lib.hid rfl⟩
  rw [hp.out] at F0 ⊢
  generalize w.alloc (.cells #[.int .i64 f.rings, .int .i64 f.sectors, .int .i64 f.wide] 23) = W0 at *
  have c0 := cell_of F0.out 0 (.int .i64 f.rings) rfl
  have c1 := cell_of F0.out 1 (.int .i64 f.sectors) rfl
  have c2 := cell_of F0.out 2 (.int .i64 f.wide) rfl
  go_wp2_with fail
  refine (validFrame_any f.rings f.sectors f.wide _).mono ?_
  rintro e W1 ⟨rfl, b1⟩
  have B1 := Lib.hid (B0.out.trans (b1.mono B0.out.size))
  have F1 := Lib.hid (below_blk b1 F0.out)
  have R1 := Lib.hid (R0.out.below b1)
  clear b1 c0 c1 c2 B0 F0 R0
  cases hv : f.valid
  · have HR := Lib.hid (show checkSetP f l = (1, 0) by unfold checkSetP; rw [hv]; rfl)
    clear hv
    go_wp2_with fail
    go_ret2
    exact ⟨by rw [HR.out]; rfl, B1.out⟩
  · have HV := Lib.hid hv
    clear hv
    by_cases h4 : 400 < n
    · have t4 : decide ((400 : Int) < (n : Int)) = true := by simp; omega
      have HR := Lib.hid (show checkSetP f l = (2, 0) by unfold checkSetP; rw [if_neg (by rw [HV.out]; decide), if_pos (by rw [hL.out]; exact h4)])
      clear h4
      go_wp2_with fail
      go_ret2
      exact ⟨by rw [HR.out]; rfl, B1.out⟩
    · have t4 : decide ((400 : Int) < (n : Int)) = false := by simp; omega
      have HG0 := Lib.hid (show checkSetP f l = setGo f l (n - 0) 0 by unfold checkSetP; rw [if_neg (by rw [HV.out]; decide), if_neg (by rw [hL.out]; exact h4), hL.out, Nat.sub_zero])
      have HN4 : Hid (n ≤ 400) := Lib.hid (by omega)
      clear h4
      go_wp2_with fail
      clear t4
      go_loopw [6, 7] (fun i _ wr => ∃ k : Nat, i = .int .i64 k ∧ k ≤ n ∧ Hid (checkSetP f l = setGo f l (n - k) k) ∧ Hid (Below W1.heap.size W1 wr)) (fun i _ _ => n - (intOf i).toNat)
      case atStart => exact ⟨0, rfl, Nat.zero_le _, HG0, Lib.hid (Below.refl _ _)⟩
      case round =>
        obtain ⟨k, rfl, hk, HG, HB⟩ := hrel
        by_cases hlt : k < n
        · have t0 : decide ((k : Int) < (n : Int)) = true := by simp; omega
          obtain ⟨x, hx⟩ : ∃ x, l[k]? = some x := ⟨_, List.getElem?_eq_getElem (by rw [hL.out]; exact hlt)⟩
          have HX := Lib.hid hx
          obtain ⟨b, off, rfl, hall⟩ := (R1.out.below HB.out).at (by omega)
          obtain ⟨sa, sc, hrange, hrd⟩ := hall k x hx
          have HALL := Lib.hid hall
          obtain ⟨o, ho⟩ : ∃ o, Hid (off + k * 19 = o) := ⟨_, Lib.hid rfl⟩
          rw [ho.out] at hrange
          have HIX := Lib.hid (fun W => idx_off (W := W) (c := c) (b := b) Tryz.underlying43 I43 hlt ho.out)
          have LN := Lib.hid (show ∀ w0, Below wr.heap.size wr w0 → w0.rangeAt b o (x.cells sa sc) from fun w0 hb => rangeAt_below hrange hb)
          have RX := Lib.hid (show ∀ W', Below wr.heap.size wr W' → RdI W' sa x.strokes.length sc x.strokes from fun W' hb => hrd.below hb)
          have LF := Lib.hid (show ∀ w0, Below wr.heap.size wr w0 → w0.heap[p]? = some (.cells #[.int .i64 f.rings, .int .i64 f.sectors, .int .i64 f.wide] 23 (0, 0)) from fun w0 hb => below_blk (HB.out.trans (hb.mono HB.out.size)) F1.out)
          have hC0 : Below wr.heap.size wr wr.drew := (Below.refl _ _).drew
          clear hall hx hrange hrd
          have hk64 : (k : Int) + 1 ≤ 9223372036854775807 := by have := HN4.out; omega
          go_upto_region 8 with fail
          refine wp_region_quiet (C := fun w' : World => Below wr.heap.size wr w') (by kernel_rfl) (by kernel_rfl) hC0 ?_
          show wpQuiet _ _ _ _ (_ :: _) _
          go_big_quiet_want
          refine ⟨.agg #[.int .i64 f.rings, .int .i64 f.sectors, .int .i64 f.wide], fun w0 hC => ?_, ?_⟩
          · have c0 := cell_of (LF.out w0 hC) 0 (.int .i64 f.rings) rfl
            have c1 := cell_of (LF.out w0 hC) 1 (.int .i64 f.sectors) rfl
            have c2 := cell_of (LF.out w0 hC) 2 (.int .i64 f.wide) rfl
            clear hC
            go_simp
          simp only [Act.put, List.setIfInBounds_toArray, List.set_cons_zero, List.set_cons_succ]
          go_big_quiet_on
          go_big_quiet_want
          go_big_quiet_op
          go_big_quiet_on
          go_big_quiet_want
          go_big_quiet_op
          go_big_quiet_on
          go_big_quiet_want
          refine ⟨.pointer (some ⟨b, o, none⟩), fun w0 hC => ?_, ?_⟩
          · have hix := HIX.out w0
            clear hC
            go_simp
          simp only [Act.put, List.setIfInBounds_toArray, List.set_cons_zero, List.set_cons_succ]
          go_big_quiet_on
          go_big_quiet_want
          refine ⟨.agg (noteA x sa sc), fun w0 hC => quiet_load_note (.tmp 23) rfl b o rfl x sa sc (LN.out w0 hC), ?_⟩
          simp only [Act.put, List.setIfInBounds_toArray, List.set_cons_zero, List.set_cons_succ]
          go_big_quiet_on
          go_big_quiet_want
          refine ⟨.bool (formedB f x), fun w0 hC => ?_, ?_⟩
          · go_simp
            refine (WELL.out x sa sc w0 HV.out (RX.out w0 hC)).mono ?_
            rintro e w1 ⟨rfl, b1⟩
            exact ⟨rfl, hC.trans (b1.mono hC.size)⟩
          simp only [Act.put, List.setIfInBounds_toArray, List.set_cons_zero, List.set_cons_succ]
          go_big_quiet_on
          cases hf : formedB f x
          · have HR := Lib.hid (show checkSetP f l = (80, k) by rw [HG.out]; exact setGo_some hlt (by unfold setAt; rw [HX.out]; simp only; rw [if_pos hf]))
            clear hf
            go_big_quiet_want
            refine ⟨.bool true, fun w0 hC => ?_, ?_⟩
            · clear hC
              go_simp
            simp only [Act.put, List.setIfInBounds_toArray, List.set_cons_zero, List.set_cons_succ]
            go_big_quiet_on
            refine wpQuiet_nil ?_
            intro w' hC
            have BE := Lib.hid (HB.out.trans (hC.mono HB.out.size))
            clear hC
            go_wp2_with fail
            go_ret2
            exact ⟨by rw [HR.out]; rfl, B1.out.trans (BE.out.mono B1.out.size)⟩
          · have HF := Lib.hid hf; clear hf
            go_big_quiet_want
            refine ⟨.bool false, fun w0 hC => ?_, ?_⟩
            · clear hC
              go_simp
            simp only [Act.put, List.setIfInBounds_toArray, List.set_cons_zero, List.set_cons_succ]
            go_big_quiet_on
            refine wpQuiet_nil ?_
            intro w' hC
            have BE := Lib.hid (HB.out.trans (hC.mono HB.out.size))
            have HC := Lib.hid hC
            clear hC
            rcases Nat.eq_zero_or_pos k with hk0 | hk0
            · have k0a : ((k : Int) == 0) = true := by rw [hk0]; rfl
              have HR := Lib.hid (show setGo f l (n - k) k = setGo f l (n - (k + 1)) (k + 1) from setGo_none hlt (by unfold setAt; rw [HX.out]; simp only; rw [if_neg (by rw [HF.out]; decide), if_pos hk0]))
              clear hk0
              go_wp2_with fail
              go_roundw
              case rel => exact ⟨k + 1, by go_num, by omega, Lib.hid (by rw [← HR.out]; exact HG.out), BE⟩
              case measure => simp [intOf]; omega
            · have k0a : ((k : Int) == 0) = false := by rw [beq_eq_false_iff_ne]; omega
              have HK0 : Hid (¬ k = 0) := Lib.hid (by omega)
              obtain ⟨j, hkj⟩ : ∃ j, k = j + 1 := ⟨k - 1, by omega⟩
              have hj1 : (k : Int) - 1 = (j : Int) := by omega
              have hjn : j < n := by omega
              have HWJ : Hid (IntKind.i64.wrap (j : Int) = (j : Int)) := Lib.hid (by have := HN4.out; first | (rw [IntKind.wrap_i64]; omega) | (rw [IntKind.wrap_i64]; unfold wrap64; omega))
              obtain ⟨y, hy⟩ : ∃ y, l[j]? = some y := ⟨_, List.getElem?_eq_getElem (by rw [hL.out]; omega)⟩
              obtain ⟨ya, yc, hyr, _⟩ := HALL.out j y hy
              have HY := Lib.hid (show l[k - 1]? = some y by rw [hkj, Nat.add_sub_cancel]; exact hy)
              obtain ⟨oy, hoy⟩ : ∃ oy, Hid (off + j * 19 = oy) := ⟨_, Lib.hid rfl⟩
              rw [hoy.out] at hyr
              have HIY := Lib.hid (fun W => idx_off (W := W) (c := c) (b := b) Tryz.underlying43 I43 hjn hoy.out)
              have LY := Lib.hid (show ∀ w0, Below w'.heap.size w' w0 → w0.rangeAt b oy (y.cells ya yc) from fun w0 hb => rangeAt_below hyr (HC.out.trans (hb.mono HC.out.size)))
              have LX := Lib.hid (show ∀ w0, Below w'.heap.size w' w0 → w0.rangeAt b o (x.cells sa sc) from fun w0 hb => LN.out w0 (HC.out.trans (hb.mono HC.out.size)))
              have hC1 : Below w'.heap.size w' w'.drew := (Below.refl _ _).drew
              clear hy hyr hk0 hkj
              go_upto_region 11 with fail
              clear k0a
              refine wp_region_quiet (C := fun wz : World => Below w'.heap.size w' wz) (by kernel_rfl) (by kernel_rfl) hC1 ?_
              show wpQuiet _ _ _ _ (_ :: _) _
              go_big_quiet_want
              go_big_quiet_op
              go_big_quiet_on
              go_big_quiet_want
              go_big_quiet_op
              go_big_quiet_on
              go_big_quiet_want
              refine ⟨.int .i64 (j : Int), fun w0 hC => ?_, ?_⟩
              · clear hC
                go_simp
                first | done | exact HWJ.out
              simp only [Act.put, List.setIfInBounds_toArray, List.set_cons_zero, List.set_cons_succ]
              go_big_quiet_on
              go_big_quiet_want
              refine ⟨.pointer (some ⟨b, oy, none⟩), fun w0 hC => ?_, ?_⟩
              · have hix := HIY.out w0
                clear hC
                go_simp
              simp only [Act.put, List.setIfInBounds_toArray, List.set_cons_zero, List.set_cons_succ]
              go_big_quiet_on
              go_big_quiet_want
              refine ⟨.agg (noteA y ya yc), fun w0 hC => quiet_load_note (.tmp 33) rfl b oy rfl y ya yc (LY.out w0 hC), ?_⟩
              simp only [Act.put, List.setIfInBounds_toArray, List.set_cons_zero, List.set_cons_succ]
              go_big_quiet_on
              go_big_quiet_want
              refine ⟨.agg #[.int .i64 y.house, .int .i64 y.num], fun w0 hC => ?_, ?_⟩
              · go_simp
                refine (rNameOf_any y ya yc w0).mono ?_
                rintro e w1 ⟨rfl, b1⟩
                exact ⟨rfl, hC.trans (b1.mono hC.size)⟩
              simp only [Act.put, List.setIfInBounds_toArray, List.set_cons_zero, List.set_cons_succ]
              go_big_quiet_on
              go_big_quiet_want
              go_big_quiet_op
              go_big_quiet_on
              go_big_quiet_want
              go_big_quiet_op
              go_big_quiet_on
              go_big_quiet_want
              refine ⟨.pointer (some ⟨b, o, none⟩), fun w0 hC => ?_, ?_⟩
              · have hix := HIX.out w0
                clear hC
                go_simp
              simp only [Act.put, List.setIfInBounds_toArray, List.set_cons_zero, List.set_cons_succ]
              go_big_quiet_on
              go_big_quiet_want
              refine ⟨.agg (noteA x sa sc), fun w0 hC => quiet_load_note (.tmp 38) rfl b o rfl x sa sc (LX.out w0 hC), ?_⟩
              simp only [Act.put, List.setIfInBounds_toArray, List.set_cons_zero, List.set_cons_succ]
              go_big_quiet_on
              go_big_quiet_want
              refine ⟨.agg #[.int .i64 x.house, .int .i64 x.num], fun w0 hC => ?_, ?_⟩
              · go_simp
                refine (rNameOf_any x sa sc w0).mono ?_
                rintro e w1 ⟨rfl, b1⟩
                exact ⟨rfl, hC.trans (b1.mono hC.size)⟩
              simp only [Act.put, List.setIfInBounds_toArray, List.set_cons_zero, List.set_cons_succ]
              go_big_quiet_on
              go_big_quiet_want
              refine ⟨.int .i64 (namesC y.house y.num x.house x.num), fun w0 hC => ?_, ?_⟩
              · go_simp
                refine (rcmp_any _ _ _ _ w0).mono ?_
                rintro e w1 ⟨rfl, b1⟩
                exact ⟨rfl, hC.trans (b1.mono hC.size)⟩
              simp only [Act.put, List.setIfInBounds_toArray, List.set_cons_zero, List.set_cons_succ]
              go_big_quiet_on
              go_big_quiet_want
              go_big_quiet_op
              go_big_quiet_on
              refine wpQuiet_nil ?_
              intro wz hC
              have BF := Lib.hid (BE.out.trans (hC.mono BE.out.size))
              clear hC
              obtain ⟨z, hz⟩ : ∃ z, Hid (namesC y.house y.num x.house x.num = z) := ⟨_, Lib.hid rfl⟩
              rw [hz.out]
              by_cases hz0 : z = 0
              · have ho1 : (z == 0) = true := by simp [hz0]
                have HR := Lib.hid (show checkSetP f l = (81, k) by rw [HG.out]; exact setGo_some hlt (by unfold setAt; rw [HX.out]; simp only; rw [if_neg (by rw [HF.out]; decide), if_neg HK0.out, HY.out]; simp only; rw [hz.out, if_pos hz0]))
                clear hz0
                go_wp2_with fail
                go_ret2
                exact ⟨by rw [HR.out]; rfl, B1.out.trans (BF.out.mono B1.out.size)⟩
              · have ho1 : (z == 0) = false := by simp [hz0]
                by_cases hz1 : 0 < z
                · have ho2 : decide (0 < z) = true := by simp [hz1]
                  have HR := Lib.hid (show checkSetP f l = (1, k) by rw [HG.out]; exact setGo_some hlt (by unfold setAt; rw [HX.out]; simp only; rw [if_neg (by rw [HF.out]; decide), if_neg HK0.out, HY.out]; simp only; rw [hz.out, if_neg hz0, if_pos hz1]))
                  clear hz0 hz1
                  go_wp2_with fail
                  go_ret2
                  exact ⟨by rw [HR.out]; rfl, B1.out.trans (BF.out.mono B1.out.size)⟩
                · have ho2 : decide (0 < z) = false := by simp; omega
                  have HR := Lib.hid (show setGo f l (n - k) k = setGo f l (n - (k + 1)) (k + 1) from setGo_none hlt (by unfold setAt; rw [HX.out]; simp only; rw [if_neg (by rw [HF.out]; decide), if_neg HK0.out, HY.out]; simp only; rw [hz.out, if_neg hz0, if_neg hz1]))
                  clear hz0 hz1
                  go_wp2_with fail
                  go_roundw
                  case rel => exact ⟨k + 1, by go_num, by omega, Lib.hid (by rw [← HR.out]; exact HG.out), BF⟩
                  case measure => simp [intOf]; omega
        · have hkn : n - k = 0 := by omega
          have HR := Lib.hid (show checkSetP f l = (0, 0) by rw [HG.out, hkn]; rfl)
          have t0 : decide ((k : Int) < (n : Int)) = false := by simp; omega
          go_wp2_with fail
          go_ret2
          exact ⟨by rw [HR.out]; rfl, B1.out.trans (HB.out.mono B1.out.size)⟩
end Go.Proofs.YtpjiakgfegnmcaaGreat
namespace Go.Proofs.YtpjiakgfegnmcaaGreat
set_option linter.unusedSimpArgs false
open Go.RowKit

set_option maxHeartbeats 16000000 in
set_option maxRecDepth 100000 in
theorem hnotes_any (f : FrV) (a : Option Addr) (n c : Nat) (l : List NoteV) (w : World) (hr : RdNs w a n c l) :
    Calls Tryz.prog 5 #[f.val, .slice a n c] w fun e w' => e = .returned (.bool true) ∧ Below w.heap.size w w' := by
  have hvl : f.val = .agg #[.int .i64 f.rings, .int .i64 f.sectors, .int .i64 f.wide] := rfl
  have CS := Lib.hid (fun (W : World) (hr : RdNs W a n c l) => checkSet_any f a n c l W hr)
  have RCS := Lib.hid (fun (W : World) (hr : RdNs W a n c l) => rcheckSet_any f a n c l W hr)
  have CN := Lib.hid (fun (x : NoteV) sa sc (W : World) (hs : RdI W sa x.strokes.length sc x.strokes) => checkNote_any f x sa sc W hs)
  have RCN := Lib.hid (fun (x : NoteV) sa sc (W : World) (hs : RdI W sa x.strokes.length sc x.strokes) => rcheckNote_any f x sa sc W hs)
  rw [hvl] at CS RCS CN RCN ⊢; clear hvl
  obtain ⟨z1, hz1⟩ : ∃ z, Hid ((checkSetP f l).1 = z) := ⟨_, Lib.hid rfl⟩
  obtain ⟨z2, hz2⟩ : ∃ z, Hid ((checkSetP f l).2 = z) := ⟨_, Lib.hid rfl⟩
  rw [hz1.out, hz2.out] at CS RCS
  have I43 : (Tryz.prog.info? 51).map (·.size) = some 19 := by kernel_rfl
  have hL := Lib.hid hr.1
  have hn63 : n ≤ 9223372036854775807 := by have h1 := hr.2.1; have h2 := hr.2.2.1; unfold maxLen at h2; omega
  have B0 := Lib.hid ((Below.refl w.heap.size w).alloc (Nat.le_refl _) (.cells #[.int .i64 f.rings, .int .i64 f.sectors, .int .i64 f.wide] 23))
  have F0 := Lib.hid (heap_last w (.cells #[.int .i64 f.rings, .int .i64 f.sectors, .int .i64 f.wide] 23))
  have R0 := Lib.hid (hr.below B0.out)
  clear hr
  go_enter Tryz.func5, Tryz.ntmps5
  go_upto_region 1 with fail
  obtain ⟨p, hp⟩ : ∃ p, Hid (w.heap.size = p) := ⟨_, Lib.hid rfl⟩
  rw [hp.out] at F0 ⊢
  generalize w.alloc (.cells #[.int .i64 f.rings, .int .i64 f.sectors, .int .i64 f.wide] 23) = W0 at *
  go_wp2_with fail
  refine (hawake_any _).mono ?_
  rintro e W1 ⟨rfl, b1⟩
  have B1 := Lib.hid (B0.out.trans (b1.mono B0.out.size))
  have F1 := Lib.hid (below_blk b1 F0.out)
  have R1 := Lib.hid (R0.out.below b1)
  clear b1 B0 F0 R0
  go_wp2_with fail
  refine (few_any a n c l _ R1.out).mono ?_
  rintro e W2 ⟨rfl, rfl⟩
  cases hq : fewB l
  · clear hq
    go_wp2_with fail
    go_ret
    exact ⟨rfl, B1.out⟩
  · clear hq
    have c0 := cell_of F1.out 0 (.int .i64 f.rings) rfl
    have c1 := cell_of F1.out 1 (.int .i64 f.sectors) rfl
    have c2 := cell_of F1.out 2 (.int .i64 f.wide) rfl
    go_upto_region 5 with (first
      | (go_at_call 23
         refine (CS.out W1 R1.out).mono ?_
         rintro e W3 ⟨rfl, b3⟩
         have B3 := Lib.hid (B1.out.trans (b3.mono B1.out.size))
         have F3 := Lib.hid (below_blk b3 F1.out)
         have R3 := Lib.hid (R1.out.below b3)
         clear b3 B1 F1 R1
         dsimp only)
      | fail)
    clear c0 c1 c2
    have c0 := cell_of F3.out 0 (.int .i64 f.rings) rfl
    have c1 := cell_of F3.out 1 (.int .i64 f.sectors) rfl
    have c2 := cell_of F3.out 2 (.int .i64 f.wide) rfl
    go_upto_region 8 with (first
      | (go_at_call 24
         refine (RCS.out W3 R3.out).mono ?_
         rintro e W4 ⟨rfl, b4⟩
         have B4 := Lib.hid (B3.out.trans (b4.mono B3.out.size))
         have F4 := Lib.hid (below_blk b4 F3.out)
         have R4 := Lib.hid (R3.out.below b4)
         clear b4 B3 F3 R3
         dsimp only)
      | fail)
    clear c0 c1 c2
    go_wp2_with fail
    go_loopw [10] (fun i wr => ∃ k : Nat, i = .int .i64 k ∧ k ≤ n ∧ k ≤ 60 ∧ Hid (Below W4.heap.size W4 wr)) (fun i _ => n - (intOf i).toNat)
    case atStart => exact ⟨0, rfl, Nat.zero_le _, by omega, Lib.hid (Below.refl _ _)⟩
    case round =>
      obtain ⟨k, rfl, hk, hk60, HB⟩ := hrel
      by_cases hlt : k < n
      · have t0 : decide ((k : Int) < (n : Int)) = true := by simp; omega
        by_cases h6 : k < 60
        · have t6 : decide ((k : Int) < 60) = true := by simp; omega
          obtain ⟨x, hx⟩ : ∃ x, l[k]? = some x := ⟨_, List.getElem?_eq_getElem (by rw [hL.out]; exact hlt)⟩
          obtain ⟨b, off, rfl, hall⟩ := (R4.out.below HB.out).at (by omega)
          obtain ⟨sa, sc, hrange, hrd⟩ := hall k x hx
          have HALL := Lib.hid hall
          obtain ⟨o, ho⟩ : ∃ o, Hid (off + k * 19 = o) := ⟨_, Lib.hid rfl⟩
          rw [ho.out] at hrange
          have HIX := Lib.hid (fun W => idx_off (W := W) (c := c) (b := b) Tryz.underlying43 I43 hlt ho.out)
          have LN := Lib.hid (show ∀ w0, Below wr.heap.size wr w0 → w0.rangeAt b o (x.cells sa sc) from fun w0 hb => rangeAt_below hrange hb)
          have RX := Lib.hid (show ∀ W', Below wr.heap.size wr W' → RdI W' sa x.strokes.length sc x.strokes from fun W' hb => hrd.below hb)
          have LF := Lib.hid (show ∀ w0, Below wr.heap.size wr w0 → w0.heap[p]? = some (.cells #[.int .i64 f.rings, .int .i64 f.sectors, .int .i64 f.wide] 23 (0, 0)) from fun w0 hb => below_blk (HB.out.trans (hb.mono HB.out.size)) F4.out)
          have hC0 : Below wr.heap.size wr wr.drew := (Below.refl _ _).drew
          obtain ⟨ck, hck⟩ : ∃ z, Hid (checkN f x = z) := ⟨_, Lib.hid rfl⟩
          have CNX := Lib.hid (CN.out x sa sc)
          have RCNX := Lib.hid (RCN.out x sa sc)
          rw [hck.out] at CNX RCNX
          clear hx hrange hrd
          have hk64 : (k : Int) + 1 ≤ 9223372036854775807 := by omega
          have HK6 := Lib.hid h6; clear h6
          go_upto_region 11 with fail
          clear t0 t6
          refine wp_region_quiet (C := fun w' : World => Below wr.heap.size wr w') (by kernel_rfl) (by kernel_rfl) hC0 ?_
          show wpQuiet _ _ _ _ (_ :: _) _
          go_big_quiet_want
          refine ⟨.agg #[.int .i64 f.rings, .int .i64 f.sectors, .int .i64 f.wide], fun w0 hC => ?_, ?_⟩
          · have c0 := cell_of (LF.out w0 hC) 0 (.int .i64 f.rings) rfl
            have c1 := cell_of (LF.out w0 hC) 1 (.int .i64 f.sectors) rfl
            have c2 := cell_of (LF.out w0 hC) 2 (.int .i64 f.wide) rfl
            clear hC
            go_simp
          simp only [Act.put, List.setIfInBounds_toArray, List.set_cons_zero, List.set_cons_succ]
          go_big_quiet_on
          go_big_quiet_want
          go_big_quiet_op
          go_big_quiet_on
          go_big_quiet_want
          go_big_quiet_op
          go_big_quiet_on
          go_big_quiet_want
          refine ⟨.pointer (some ⟨b, o, none⟩), fun w0 hC => ?_, ?_⟩
          · have hix := HIX.out w0
            clear hC
            go_simp
          simp only [Act.put, List.setIfInBounds_toArray, List.set_cons_zero, List.set_cons_succ]
          go_big_quiet_on
          go_big_quiet_want
          refine ⟨.agg (noteA x sa sc), fun w0 hC => quiet_load_note (.tmp 49) rfl b o rfl x sa sc (LN.out w0 hC), ?_⟩
          simp only [Act.put, List.setIfInBounds_toArray, List.set_cons_zero, List.set_cons_succ]
          go_big_quiet_on
          go_big_quiet_want
          refine ⟨.int .i64 ck, fun w0 hC => ?_, ?_⟩
          · go_simp
            refine (CNX.out w0 (RX.out w0 hC)).mono ?_
            rintro e w1 ⟨rfl, b1⟩
            exact ⟨rfl, hC.trans (b1.mono hC.size)⟩
          simp only [Act.put, List.setIfInBounds_toArray, List.set_cons_zero, List.set_cons_succ]
          go_big_quiet_on
          go_big_quiet_want
          refine ⟨.agg #[.int .i64 f.rings, .int .i64 f.sectors, .int .i64 f.wide], fun w0 hC => ?_, ?_⟩
          · have c0 := cell_of (LF.out w0 hC) 0 (.int .i64 f.rings) rfl
            have c1 := cell_of (LF.out w0 hC) 1 (.int .i64 f.sectors) rfl
            have c2 := cell_of (LF.out w0 hC) 2 (.int .i64 f.wide) rfl
            clear hC
            go_simp
          simp only [Act.put, List.setIfInBounds_toArray, List.set_cons_zero, List.set_cons_succ]
          go_big_quiet_on
          go_big_quiet_want
          go_big_quiet_op
          go_big_quiet_on
          go_big_quiet_want
          go_big_quiet_op
          go_big_quiet_on
          go_big_quiet_want
          refine ⟨.pointer (some ⟨b, o, none⟩), fun w0 hC => ?_, ?_⟩
          · have hix := HIX.out w0
            clear hC
            go_simp
          simp only [Act.put, List.setIfInBounds_toArray, List.set_cons_zero, List.set_cons_succ]
          go_big_quiet_on
          go_big_quiet_want
          refine ⟨.agg (noteA x sa sc), fun w0 hC => quiet_load_note (.tmp 55) rfl b o rfl x sa sc (LN.out w0 hC), ?_⟩
          simp only [Act.put, List.setIfInBounds_toArray, List.set_cons_zero, List.set_cons_succ]
          go_big_quiet_on
          go_big_quiet_want
          refine ⟨.int .i64 ck, fun w0 hC => ?_, ?_⟩
          · go_simp
            refine (RCNX.out w0 (RX.out w0 hC)).mono ?_
            rintro e w1 ⟨rfl, b1⟩
            exact ⟨rfl, hC.trans (b1.mono hC.size)⟩
          simp only [Act.put, List.setIfInBounds_toArray, List.set_cons_zero, List.set_cons_succ]
          go_big_quiet_on
          go_big_quiet_want
          refine ⟨.bool false, fun w0 hC => ?_, ?_⟩
          · clear hC
            go_simp
          simp only [Act.put, List.setIfInBounds_toArray, List.set_cons_zero, List.set_cons_succ]
          go_big_quiet_on
          go_big_quiet_want
          go_big_quiet_op
          go_big_quiet_on
          go_big_quiet_want
          go_big_quiet_op
          go_big_quiet_on
          rcases Nat.eq_zero_or_pos k with hk0 | hk0
          · have k0a : decide ((0 : Int) < (k : Int)) = false := by simp; omega
            have HK0 := Lib.hid hk0
            clear hk0
            go_big_quiet_want
            refine ⟨.bool false, fun w0 hC => ?_, ?_⟩
            · clear hC
              go_simp
              first | done | exact HK0.out
            simp only [Act.put, List.setIfInBounds_toArray, List.set_cons_zero, List.set_cons_succ]
            go_big_quiet_on
            go_big_quiet_want
            go_big_quiet_op
            go_big_quiet_on
            go_big_quiet_skip
            go_big_quiet_skip
            go_big_quiet_skip
            go_big_quiet_skip
            go_big_quiet_skip
            go_big_quiet_skip
            go_big_quiet_skip
            go_big_quiet_skip
            go_big_quiet_skip
            go_big_quiet_skip
            go_big_quiet_skip
            go_big_quiet_skip
            go_big_quiet_skip
            go_big_quiet_skip
            go_big_quiet_skip
            go_big_quiet_skip
            go_big_quiet_skip
            go_big_quiet_skip
            go_big_quiet_skip
            go_big_quiet_skip
            go_big_quiet_skip
            go_big_quiet_skip
            go_big_quiet_skip
            go_big_quiet_skip
            go_big_quiet_skip
            go_big_quiet_skip
            go_big_quiet_skip
            go_big_quiet_skip
            go_big_quiet_skip
            go_big_quiet_skip
            go_big_quiet_skip
            go_big_quiet_skip
            go_big_quiet_skip
            go_big_quiet_skip
            go_big_quiet_skip
            go_big_quiet_skip
            go_big_quiet_skip
            go_big_quiet_skip
            go_big_quiet_skip
            go_big_quiet_skip
            go_big_quiet_skip
            go_big_quiet_skip
            go_big_quiet_skip
            go_big_quiet_skip
            go_big_quiet_want
            refine ⟨.bool false, fun w0 hC => ?_, ?_⟩
            · clear hC
              go_simp
            simp only [Act.put, List.setIfInBounds_toArray, List.set_cons_zero, List.set_cons_succ]
            go_big_quiet_on
            go_big_quiet_want
            refine ⟨.bool false, fun w0 hC => ?_, ?_⟩
            · clear hC
              go_simp
            simp only [Act.put, List.setIfInBounds_toArray, List.set_cons_zero, List.set_cons_succ]
            go_big_quiet_on
            refine wpQuiet_nil ?_
            intro w' hC
            have BE := Lib.hid (HB.out.trans (hC.mono HB.out.size))
            clear hC
            go_wp2_with fail
            go_roundw
            case rel => exact ⟨k + 1, by go_num, by omega, by have := HK6.out; omega, BE⟩
            case measure => simp [intOf]; omega
          · have k0a : decide ((0 : Int) < (k : Int)) = true := by simp; omega
            have HK0 := Lib.hid hk0
            obtain ⟨j, hkj⟩ : ∃ j, k = j + 1 := ⟨k - 1, by omega⟩
            have hj1 : (k : Int) - 1 = (j : Int) := by omega
            have hjn : j < n := by omega
            have HWJ : Hid (IntKind.i64.wrap (j : Int) = (j : Int)) := Lib.hid (by first | (rw [IntKind.wrap_i64]; omega) | (rw [IntKind.wrap_i64]; unfold wrap64; omega))
            obtain ⟨y, hy⟩ : ∃ y, l[j]? = some y := ⟨_, List.getElem?_eq_getElem (by rw [hL.out]; omega)⟩
            obtain ⟨ya, yc, hyr, _⟩ := HALL.out j y hy
            obtain ⟨oy, hoy⟩ : ∃ oy, Hid (off + j * 19 = oy) := ⟨_, Lib.hid rfl⟩
            rw [hoy.out] at hyr
            have HIY := Lib.hid (fun W => idx_off (W := W) (c := c) (b := b) Tryz.underlying43 I43 hjn hoy.out)
            have LY := Lib.hid (show ∀ w0, Below wr.heap.size wr w0 → w0.rangeAt b oy (y.cells ya yc) from fun w0 hb => rangeAt_below hyr hb)
            obtain ⟨b1, hb1⟩ : ∃ z, Hid (decide (whenC y x < 0) = z) := ⟨_, Lib.hid rfl⟩
            obtain ⟨b2, hb2⟩ : ∃ z, Hid (decide (whenC x y < 0) = z) := ⟨_, Lib.hid rfl⟩
            have CB1 := Lib.hid (fun W => before_any y x ya yc sa sc W)
            have RB1 := Lib.hid (fun W => rbefore_any y x ya yc sa sc W)
            have CB2 := Lib.hid (fun W => before_any x y sa sc ya yc W)
            have RB2 := Lib.hid (fun W => rbefore_any x y sa sc ya yc W)
            rw [hb1.out] at CB1 RB1
            rw [hb2.out] at CB2 RB2
            clear hy hyr hk0 hkj
            go_big_quiet_want
            refine ⟨.bool true, fun w0 hC => ?_, ?_⟩
            · clear hC
              go_simp
              first | done | exact HK0.out
            simp only [Act.put, List.setIfInBounds_toArray, List.set_cons_zero, List.set_cons_succ]
            go_big_quiet_on
            go_big_quiet_want
            go_big_quiet_op
            go_big_quiet_on
            go_big_quiet_want
            go_big_quiet_op
            go_big_quiet_on
            go_big_quiet_want
            go_big_quiet_op
            go_big_quiet_on
            go_big_quiet_want
            refine ⟨.int .i64 (j : Int), fun w0 hC => ?_, ?_⟩
            · clear hC
              go_simp
              first | done | exact HWJ.out
            simp only [Act.put, List.setIfInBounds_toArray, List.set_cons_zero, List.set_cons_succ]
            go_big_quiet_on
            go_big_quiet_want
            refine ⟨.pointer (some ⟨b, oy, none⟩), fun w0 hC => ?_, ?_⟩
            · have hix := HIY.out w0
              clear hC
              go_simp
            simp only [Act.put, List.setIfInBounds_toArray, List.set_cons_zero, List.set_cons_succ]
            go_big_quiet_on
            go_big_quiet_want
            refine ⟨.agg (noteA y ya yc), fun w0 hC => quiet_load_note (.tmp 66) rfl b oy rfl y ya yc (LY.out w0 hC), ?_⟩
            simp only [Act.put, List.setIfInBounds_toArray, List.set_cons_zero, List.set_cons_succ]
            go_big_quiet_on
            go_big_quiet_want
            go_big_quiet_op
            go_big_quiet_on
            go_big_quiet_want
            go_big_quiet_op
            go_big_quiet_on
            go_big_quiet_want
            refine ⟨.pointer (some ⟨b, o, none⟩), fun w0 hC => ?_, ?_⟩
            · have hix := HIX.out w0
              clear hC
              go_simp
            simp only [Act.put, List.setIfInBounds_toArray, List.set_cons_zero, List.set_cons_succ]
            go_big_quiet_on
            go_big_quiet_want
            refine ⟨.agg (noteA x sa sc), fun w0 hC => quiet_load_note (.tmp 70) rfl b o rfl x sa sc (LN.out w0 hC), ?_⟩
            simp only [Act.put, List.setIfInBounds_toArray, List.set_cons_zero, List.set_cons_succ]
            go_big_quiet_on
            go_big_quiet_want
            refine ⟨.bool b1, fun w0 hC => ?_, ?_⟩
            · go_simp
              refine (CB1.out w0).mono ?_
              rintro e w1 ⟨rfl, b1⟩
              exact ⟨rfl, hC.trans (b1.mono hC.size)⟩
            simp only [Act.put, List.setIfInBounds_toArray, List.set_cons_zero, List.set_cons_succ]
            go_big_quiet_on
            go_big_quiet_want
            go_big_quiet_op
            go_big_quiet_on
            go_big_quiet_want
            go_big_quiet_op
            go_big_quiet_on
            go_big_quiet_want
            refine ⟨.int .i64 (j : Int), fun w0 hC => ?_, ?_⟩
            · clear hC
              go_simp
              first | done | exact HWJ.out
            simp only [Act.put, List.setIfInBounds_toArray, List.set_cons_zero, List.set_cons_succ]
            go_big_quiet_on
            go_big_quiet_want
            refine ⟨.pointer (some ⟨b, oy, none⟩), fun w0 hC => ?_, ?_⟩
            · have hix := HIY.out w0
              clear hC
              go_simp
            simp only [Act.put, List.setIfInBounds_toArray, List.set_cons_zero, List.set_cons_succ]
            go_big_quiet_on
            go_big_quiet_want
            refine ⟨.agg (noteA y ya yc), fun w0 hC => quiet_load_note (.tmp 76) rfl b oy rfl y ya yc (LY.out w0 hC), ?_⟩
            simp only [Act.put, List.setIfInBounds_toArray, List.set_cons_zero, List.set_cons_succ]
            go_big_quiet_on
            go_big_quiet_want
            go_big_quiet_op
            go_big_quiet_on
            go_big_quiet_want
            go_big_quiet_op
            go_big_quiet_on
            go_big_quiet_want
            refine ⟨.pointer (some ⟨b, o, none⟩), fun w0 hC => ?_, ?_⟩
            · have hix := HIX.out w0
              clear hC
              go_simp
            simp only [Act.put, List.setIfInBounds_toArray, List.set_cons_zero, List.set_cons_succ]
            go_big_quiet_on
            go_big_quiet_want
            refine ⟨.agg (noteA x sa sc), fun w0 hC => quiet_load_note (.tmp 80) rfl b o rfl x sa sc (LN.out w0 hC), ?_⟩
            simp only [Act.put, List.setIfInBounds_toArray, List.set_cons_zero, List.set_cons_succ]
            go_big_quiet_on
            go_big_quiet_want
            refine ⟨.bool b1, fun w0 hC => ?_, ?_⟩
            · go_simp
              refine (RB1.out w0).mono ?_
              rintro e w1 ⟨rfl, b1⟩
              exact ⟨rfl, hC.trans (b1.mono hC.size)⟩
            simp only [Act.put, List.setIfInBounds_toArray, List.set_cons_zero, List.set_cons_succ]
            go_big_quiet_on
            go_big_quiet_want
            refine ⟨.bool false, fun w0 hC => ?_, ?_⟩
            · clear hC
              go_simp
              try simp
            simp only [Act.put, List.setIfInBounds_toArray, List.set_cons_zero, List.set_cons_succ]
            go_big_quiet_on
            go_big_quiet_want
            go_big_quiet_op
            go_big_quiet_on
            go_big_quiet_want
            go_big_quiet_op
            go_big_quiet_on
            go_big_quiet_want
            go_big_quiet_op
            go_big_quiet_on
            go_big_quiet_want
            refine ⟨.pointer (some ⟨b, o, none⟩), fun w0 hC => ?_, ?_⟩
            · have hix := HIX.out w0
              clear hC
              go_simp
            simp only [Act.put, List.setIfInBounds_toArray, List.set_cons_zero, List.set_cons_succ]
            go_big_quiet_on
            go_big_quiet_want
            refine ⟨.agg (noteA x sa sc), fun w0 hC => quiet_load_note (.tmp 87) rfl b o rfl x sa sc (LN.out w0 hC), ?_⟩
            simp only [Act.put, List.setIfInBounds_toArray, List.set_cons_zero, List.set_cons_succ]
            go_big_quiet_on
            go_big_quiet_want
            go_big_quiet_op
            go_big_quiet_on
            go_big_quiet_want
            go_big_quiet_op
            go_big_quiet_on
            go_big_quiet_want
            refine ⟨.int .i64 (j : Int), fun w0 hC => ?_, ?_⟩
            · clear hC
              go_simp
              first | done | exact HWJ.out
            simp only [Act.put, List.setIfInBounds_toArray, List.set_cons_zero, List.set_cons_succ]
            go_big_quiet_on
            go_big_quiet_want
            refine ⟨.pointer (some ⟨b, oy, none⟩), fun w0 hC => ?_, ?_⟩
            · have hix := HIY.out w0
              clear hC
              go_simp
            simp only [Act.put, List.setIfInBounds_toArray, List.set_cons_zero, List.set_cons_succ]
            go_big_quiet_on
            go_big_quiet_want
            refine ⟨.agg (noteA y ya yc), fun w0 hC => quiet_load_note (.tmp 92) rfl b oy rfl y ya yc (LY.out w0 hC), ?_⟩
            simp only [Act.put, List.setIfInBounds_toArray, List.set_cons_zero, List.set_cons_succ]
            go_big_quiet_on
            go_big_quiet_want
            refine ⟨.bool b2, fun w0 hC => ?_, ?_⟩
            · go_simp
              refine (CB2.out w0).mono ?_
              rintro e w1 ⟨rfl, b1⟩
              exact ⟨rfl, hC.trans (b1.mono hC.size)⟩
            simp only [Act.put, List.setIfInBounds_toArray, List.set_cons_zero, List.set_cons_succ]
            go_big_quiet_on
            go_big_quiet_want
            go_big_quiet_op
            go_big_quiet_on
            go_big_quiet_want
            go_big_quiet_op
            go_big_quiet_on
            go_big_quiet_want
            refine ⟨.pointer (some ⟨b, o, none⟩), fun w0 hC => ?_, ?_⟩
            · have hix := HIX.out w0
              clear hC
              go_simp
            simp only [Act.put, List.setIfInBounds_toArray, List.set_cons_zero, List.set_cons_succ]
            go_big_quiet_on
            go_big_quiet_want
            refine ⟨.agg (noteA x sa sc), fun w0 hC => quiet_load_note (.tmp 97) rfl b o rfl x sa sc (LN.out w0 hC), ?_⟩
            simp only [Act.put, List.setIfInBounds_toArray, List.set_cons_zero, List.set_cons_succ]
            go_big_quiet_on
            go_big_quiet_want
            go_big_quiet_op
            go_big_quiet_on
            go_big_quiet_want
            go_big_quiet_op
            go_big_quiet_on
            go_big_quiet_want
            refine ⟨.int .i64 (j : Int), fun w0 hC => ?_, ?_⟩
            · clear hC
              go_simp
              first | done | exact HWJ.out
            simp only [Act.put, List.setIfInBounds_toArray, List.set_cons_zero, List.set_cons_succ]
            go_big_quiet_on
            go_big_quiet_want
            refine ⟨.pointer (some ⟨b, oy, none⟩), fun w0 hC => ?_, ?_⟩
            · have hix := HIY.out w0
              clear hC
              go_simp
            simp only [Act.put, List.setIfInBounds_toArray, List.set_cons_zero, List.set_cons_succ]
            go_big_quiet_on
            go_big_quiet_want
            refine ⟨.agg (noteA y ya yc), fun w0 hC => quiet_load_note (.tmp 102) rfl b oy rfl y ya yc (LY.out w0 hC), ?_⟩
            simp only [Act.put, List.setIfInBounds_toArray, List.set_cons_zero, List.set_cons_succ]
            go_big_quiet_on
            go_big_quiet_want
            refine ⟨.bool b2, fun w0 hC => ?_, ?_⟩
            · go_simp
              refine (RB2.out w0).mono ?_
              rintro e w1 ⟨rfl, b1⟩
              exact ⟨rfl, hC.trans (b1.mono hC.size)⟩
            simp only [Act.put, List.setIfInBounds_toArray, List.set_cons_zero, List.set_cons_succ]
            go_big_quiet_on
            go_big_quiet_want
            refine ⟨.bool false, fun w0 hC => ?_, ?_⟩
            · clear hC
              go_simp
              try simp
            simp only [Act.put, List.setIfInBounds_toArray, List.set_cons_zero, List.set_cons_succ]
            go_big_quiet_on
            go_big_quiet_want
            refine ⟨.bool false, fun w0 hC => ?_, ?_⟩
            · clear hC
              go_simp
            simp only [Act.put, List.setIfInBounds_toArray, List.set_cons_zero, List.set_cons_succ]
            go_big_quiet_on
            go_big_quiet_want
            refine ⟨.bool false, fun w0 hC => ?_, ?_⟩
            · clear hC
              go_simp
            simp only [Act.put, List.setIfInBounds_toArray, List.set_cons_zero, List.set_cons_succ]
            go_big_quiet_on
            go_big_quiet_want
            refine ⟨.bool false, fun w0 hC => ?_, ?_⟩
            · clear hC
              go_simp
            simp only [Act.put, List.setIfInBounds_toArray, List.set_cons_zero, List.set_cons_succ]
            go_big_quiet_on
            refine wpQuiet_nil ?_
            intro w' hC
            have BE := Lib.hid (HB.out.trans (hC.mono HB.out.size))
            clear hC
            go_wp2_with fail
            go_roundw
            case rel => exact ⟨k + 1, by go_num, by omega, by have := HK6.out; omega, BE⟩
            case measure => simp [intOf]; omega
        · have t6 : decide ((k : Int) < 60) = false := by simp; omega
          have BE := Lib.hid (B4.out.trans (HB.out.mono B4.out.size))
          go_wp2_with fail
          go_ret
          exact ⟨rfl, BE.out⟩
      · have t0 : decide ((k : Int) < (n : Int)) = false := by simp; omega
        have BE := Lib.hid (B4.out.trans (HB.out.mono B4.out.size))
        go_wp2_with fail
        go_ret
        exact ⟨rfl, BE.out⟩
end Go.Proofs.YtpjiakgfegnmcaaGreat
namespace Go.Proofs.YtpjiakgfegnmcaaGreat
open Go.ChangeShapes Go.WideShapes Go.ChangeAt Go.RowKit

theorem Tryz.own : ownKnob Tryz.prog.godebug = none := by kernel_rfl
theorem Tryz.laidOut : laidOutB Tryz.prog = true := by kernel_rfl

/-- All arguments read behind the call as before. -/
theorem below_trodAll {H : Type} {enc : TypeId × Value → H} {P : Program} (hl : laidOutB P = true) {W W' : World} (hb : Below W.heap.size W W') :
    ∀ (ts : List TypeId) {vs : List Value} {ds : List (DataW H)} {ps : List MemPlace}, ts.all (fun t => P.readableRec t && decide (t < P.types.size)) = true → (∀ x ∈ ps, x.block < W.heap.size) →
      DataW.TrodAll enc P W 0 (fun _ => true) true ts vs ds ps → DataW.TrodAll enc P W' 0 (fun b => decide (b < W.heap.size)) true ts vs ds ps
  | [], [], [], _, _, _, h => h
  | [], _ :: _, _, _, _, _, h => h.elim
  | [], [], _ :: _, _, _, _, h => h.elim
  | _ :: _, [], _, _, _, _, h => h.elim
  | _ :: _, _ :: _, [], _, _, _, h => h.elim
  | t :: ts, v :: vs, d :: ds, ps, hr, hlt, h => by
    obtain ⟨p, q, h1, h2, rfl⟩ := h
    simp only [List.all_cons, Bool.and_eq_true, decide_eq_true_eq] at hr
    exact ⟨p, q, Below.trod hl hr.1.1 hr.1.2 h1 hb (fun x hx => hlt x (List.mem_append_left _ hx)), below_trodAll hl hb ts hr.2 (fun x hx => hlt x (List.mem_append_right _ hx)) h2, rfl⟩

/-- The row's end: the value true; the arguments as they were. -/
theorem post_of_law {H : Type} {enc : TypeId × Value → H} {P : Program} (hl : laidOutB P = true) {t : TypeId} (ht : P.underlying t = some .bool) {f : Func} {s : ChangeSpec} {W W' : World} {args : Array Value} {ds : List (DataW H)} {ps : List MemPlace}
    (hv : s.vars = []) (hf : f.resultTypes = #[t]) (hr : f.params.toList.all (fun t => P.readableRec t && decide (t < P.types.size)) = true)
    (hW : DataW.Whole enc P f.params.toList s.vars false W args.toList ds [] ps) (hA : DataW.TrodAll enc P W 0 (fun _ => true) true f.params.toList args.toList ds ps)
    (hs : s.fn H (ds ++ []) = { results := [.lit (.bool true)], args := ds }) (hb : Below W.heap.size W W') : s.post enc P f false true false false W args (.bool true) W' := by
  refine ⟨ds, [], ps, [], ps, [], hW, ?_, ?_, ?_, hb.frame _, fun h => by cases h⟩
  · rw [hs, hf]
    exact trodAll_mk1 (shut_bool ht _)
  · rw [hs]
    exact below_trodAll hl hb _ hr hW.lt hA
  · rw [hs, hv]
    rfl

end Go.Proofs.YtpjiakgfegnmcaaGreat
namespace Go.Proofs.YtpjiakgfegnmcaaGreat
open Go.ChangeShapes Go.WideShapes Go.ChangeAt Go.RowKit

theorem i64_of_wf {x : Int} (h : (Lit.int .i64 x).wf = true) : I64 x := by
  simp [Lit.wf, IntKind.min, IntKind.max, IntKind.signed, IntKind.bits] at h
  unfold I64
  omega
theorem Tryz.cells3 : Tryz.prog.cellsOf 3 = 1 := by kernel_rfl
theorem Tryz.cells38 : Tryz.prog.cellsOf 38 = 1 := by kernel_rfl
theorem Tryz.cells49 : Tryz.prog.cellsOf 49 = 2 := by kernel_rfl
theorem Tryz.cells29 : Tryz.prog.cellsOf 29 = 2 := by kernel_rfl
theorem Tryz.cells51 : Tryz.prog.cellsOf 51 = 19 := by kernel_rfl

section
variable {H : Type} {enc : TypeId × Value → H} {W : World} {fuel : Nat}

/-- One slice of ints, as a reading finds it. -/
theorem open_ri1 {cs : List Value} {y : DataW H × List MemPlace} (h : DataW.trod enc Tryz.prog W 0 (fun _ => true) true fuel 38 cs = some y) : ∃ a c l, cs = [.slice a l.length c] ∧ RdI W a l.length c l ∧ ∀ z ∈ l, I64 z := by
  rcases open_ints Tryz.underlying38 Tryz.underlying3 Tryz.cells3 h with ⟨hcs, hx⟩ | ⟨a, n, c, zs, hcs, _, hl, hm, hz, hx, hcell, hwz⟩
  · exact ⟨none, 0, [], hcs, RdA.nil _ _, fun z hz => by cases hz⟩
  · simp only [if_true] at hz
    have hlen : (zs.take n).length = n := by rw [List.length_take]; omega
    refine ⟨some a, c, zs.take n, by rw [hlen]; exact hcs, ⟨by simp, by omega, hm, ?_⟩, fun z hz => i64_of_wf (hwz z (List.mem_of_mem_take hz))⟩
    by_cases hc0 : c = 0
    · exact .inl hc0
    · obtain ⟨ab, ao, spot⟩ := a
      have hspot : spot = none := by simpa [Addr.add] using World.cell?_spot (hcell 0 (by omega))
      subst hspot
      refine .inr ⟨ab, ao, rfl, fun i x hx => ?_⟩
      rw [List.getElem?_map, List.getElem?_take] at hx
      split at hx
      · rename_i hi
        have hiz : i < zs.length := by omega
        rw [List.getElem?_eq_getElem hiz, Option.map_some] at hx
        simp only [Option.some.injEq] at hx
        subst hx
        have hc := hcell i hiz
        rw [Addr.add_lit] at hc
        rw [hc, List.getD_eq_getElem?_getD, List.getElem?_eq_getElem hiz]
        rfl
      · cases hx
theorem get_some {α : Type} {xs : List α} {n i : Nat} (h : xs.length = n) (hi : i < n) : ∃ y, xs[i]? = some y := ⟨xs[i]'(by omega), List.getElem?_eq_getElem (by omega)⟩
set_option maxRecDepth 100000 in
/-- Two ints. -/
theorem open_two {t : TypeId} {cs : List Value} {y : DataW H × List MemPlace} {f0 f1 : Field} (ht : Tryz.prog.underlying t = some (.struct #[f0, f1])) (h0 : f0.type = 3) (h1 : f1.type = 3) (o0 : f0.offset = 0) (o1 : f1.offset = 1) (hc : Tryz.prog.cellsOf t = 2)
    (h : DataW.trod enc Tryz.prog W 0 (fun _ => true) true fuel t cs = some y) : ∃ x z, cs = [.int .i64 x, .int .i64 z] ∧ I64 x ∧ I64 z := by
  obtain ⟨y0, y1, n, _, hl, g0, g1⟩ := trod_struct2 ht h
  rw [hc] at hl
  match cs, hl with
  | [c0, c1], _ =>
    rw [h0, o0, Tryz.cells3] at g0
    rw [h1, o1, Tryz.cells3] at g1
    obtain ⟨x, a0, _, b0⟩ := DataW.trod_int Tryz.underlying3 g0
    obtain ⟨z, a1, _, b1⟩ := DataW.trod_int Tryz.underlying3 g1
    simp at a0 a1
    exact ⟨x, z, by rw [a0, a1], i64_of_wf b0, i64_of_wf b1⟩

set_option maxHeartbeats 1000000 in
set_option maxRecDepth 100000 in
theorem open_note1 {cs : List Value} {y : DataW H × List MemPlace} (h : DataW.trod enc Tryz.prog W 0 (fun _ => true) true fuel 51 cs = some y) : ∃ n : NoteV, RdNote W cs n := by
  obtain ⟨xs, m, _, _, hl, hlen, hf⟩ := DataW.trod_struct Tryz.underlying51 h
  rw [Tryz.cells51] at hl
  match cs, hl with
  | [c0, c1, c2, c3, c4, c5, c6, c7, c8, c9, c10, c11, c12, c13, c14, c15, c16, c17, c18], _ =>
    obtain ⟨y0, e0⟩ := get_some hlen (i := 0) (by decide)
    have g0 : DataW.trod enc Tryz.prog W 0 (fun _ => true) true m 3 (([c0, c1, c2, c3, c4, c5, c6, c7, c8, c9, c10, c11, c12, c13, c14, c15, c16, c17, c18].drop 0).take (Tryz.prog.cellsOf 3)) = some y0 := (hf 0 _ rfl).trans e0
    rw [Tryz.cells3] at g0
    obtain ⟨x0, a0, _, b0⟩ := DataW.trod_int Tryz.underlying3 g0
    simp at a0
    clear e0 g0
    obtain ⟨y1, e1⟩ := get_some hlen (i := 1) (by decide)
    have g1 : DataW.trod enc Tryz.prog W 0 (fun _ => true) true m 3 (([c0, c1, c2, c3, c4, c5, c6, c7, c8, c9, c10, c11, c12, c13, c14, c15, c16, c17, c18].drop 1).take (Tryz.prog.cellsOf 3)) = some y1 := (hf 1 _ rfl).trans e1
    rw [Tryz.cells3] at g1
    obtain ⟨x1, a1, _, b1⟩ := DataW.trod_int Tryz.underlying3 g1
    simp at a1
    clear e1 g1
    obtain ⟨y2, e2⟩ := get_some hlen (i := 2) (by decide)
    have g2 : DataW.trod enc Tryz.prog W 0 (fun _ => true) true m 3 (([c0, c1, c2, c3, c4, c5, c6, c7, c8, c9, c10, c11, c12, c13, c14, c15, c16, c17, c18].drop 2).take (Tryz.prog.cellsOf 3)) = some y2 := (hf 2 _ rfl).trans e2
    rw [Tryz.cells3] at g2
    obtain ⟨x2, a2, _, b2⟩ := DataW.trod_int Tryz.underlying3 g2
    simp at a2
    clear e2 g2
    obtain ⟨y3, e3⟩ := get_some hlen (i := 3) (by decide)
    have g3 : DataW.trod enc Tryz.prog W 0 (fun _ => true) true m 3 (([c0, c1, c2, c3, c4, c5, c6, c7, c8, c9, c10, c11, c12, c13, c14, c15, c16, c17, c18].drop 3).take (Tryz.prog.cellsOf 3)) = some y3 := (hf 3 _ rfl).trans e3
    rw [Tryz.cells3] at g3
    obtain ⟨x3, a3, _, b3⟩ := DataW.trod_int Tryz.underlying3 g3
    simp at a3
    clear e3 g3
    obtain ⟨y4, e4⟩ := get_some hlen (i := 4) (by decide)
    have g4 : DataW.trod enc Tryz.prog W 0 (fun _ => true) true m 3 (([c0, c1, c2, c3, c4, c5, c6, c7, c8, c9, c10, c11, c12, c13, c14, c15, c16, c17, c18].drop 4).take (Tryz.prog.cellsOf 3)) = some y4 := (hf 4 _ rfl).trans e4
    rw [Tryz.cells3] at g4
    obtain ⟨x4, a4, _, b4⟩ := DataW.trod_int Tryz.underlying3 g4
    simp at a4
    clear e4 g4
    obtain ⟨y5, e5⟩ := get_some hlen (i := 5) (by decide)
    have g5 : DataW.trod enc Tryz.prog W 0 (fun _ => true) true m 3 (([c0, c1, c2, c3, c4, c5, c6, c7, c8, c9, c10, c11, c12, c13, c14, c15, c16, c17, c18].drop 5).take (Tryz.prog.cellsOf 3)) = some y5 := (hf 5 _ rfl).trans e5
    rw [Tryz.cells3] at g5
    obtain ⟨x5, a5, _, b5⟩ := DataW.trod_int Tryz.underlying3 g5
    simp at a5
    clear e5 g5
    obtain ⟨y6, e6⟩ := get_some hlen (i := 6) (by decide)
    have g6 : DataW.trod enc Tryz.prog W 0 (fun _ => true) true m 3 (([c0, c1, c2, c3, c4, c5, c6, c7, c8, c9, c10, c11, c12, c13, c14, c15, c16, c17, c18].drop 6).take (Tryz.prog.cellsOf 3)) = some y6 := (hf 6 _ rfl).trans e6
    rw [Tryz.cells3] at g6
    obtain ⟨x6, a6, _, b6⟩ := DataW.trod_int Tryz.underlying3 g6
    simp at a6
    clear e6 g6
    obtain ⟨y7, e7⟩ := get_some hlen (i := 7) (by decide)
    have g7 : DataW.trod enc Tryz.prog W 0 (fun _ => true) true m 3 (([c0, c1, c2, c3, c4, c5, c6, c7, c8, c9, c10, c11, c12, c13, c14, c15, c16, c17, c18].drop 7).take (Tryz.prog.cellsOf 3)) = some y7 := (hf 7 _ rfl).trans e7
    rw [Tryz.cells3] at g7
    obtain ⟨x7, a7, _, b7⟩ := DataW.trod_int Tryz.underlying3 g7
    simp at a7
    clear e7 g7
    obtain ⟨y8, e8⟩ := get_some hlen (i := 8) (by decide)
    have g8 : DataW.trod enc Tryz.prog W 0 (fun _ => true) true m 49 (([c0, c1, c2, c3, c4, c5, c6, c7, c8, c9, c10, c11, c12, c13, c14, c15, c16, c17, c18].drop 8).take (Tryz.prog.cellsOf 49)) = some y8 := (hf 8 _ rfl).trans e8
    rw [Tryz.cells49] at g8
    obtain ⟨x8, z8, a8, b8, d8⟩ := open_two Tryz.underlying49 rfl rfl rfl rfl Tryz.cells49 g8
    simp at a8
    clear e8 g8
    obtain ⟨y9, e9⟩ := get_some hlen (i := 9) (by decide)
    have g9 : DataW.trod enc Tryz.prog W 0 (fun _ => true) true m 49 (([c0, c1, c2, c3, c4, c5, c6, c7, c8, c9, c10, c11, c12, c13, c14, c15, c16, c17, c18].drop 10).take (Tryz.prog.cellsOf 49)) = some y9 := (hf 9 _ rfl).trans e9
    rw [Tryz.cells49] at g9
    obtain ⟨x9, z9, a9, b9, d9⟩ := open_two Tryz.underlying49 rfl rfl rfl rfl Tryz.cells49 g9
    simp at a9
    clear e9 g9
    obtain ⟨y10, e10⟩ := get_some hlen (i := 10) (by decide)
    have g10 : DataW.trod enc Tryz.prog W 0 (fun _ => true) true m 3 (([c0, c1, c2, c3, c4, c5, c6, c7, c8, c9, c10, c11, c12, c13, c14, c15, c16, c17, c18].drop 12).take (Tryz.prog.cellsOf 3)) = some y10 := (hf 10 _ rfl).trans e10
    rw [Tryz.cells3] at g10
    obtain ⟨x10, a10, _, b10⟩ := DataW.trod_int Tryz.underlying3 g10
    simp at a10
    clear e10 g10
    obtain ⟨y11, e11⟩ := get_some hlen (i := 11) (by decide)
    have g11 : DataW.trod enc Tryz.prog W 0 (fun _ => true) true m 3 (([c0, c1, c2, c3, c4, c5, c6, c7, c8, c9, c10, c11, c12, c13, c14, c15, c16, c17, c18].drop 13).take (Tryz.prog.cellsOf 3)) = some y11 := (hf 11 _ rfl).trans e11
    rw [Tryz.cells3] at g11
    obtain ⟨x11, a11, _, b11⟩ := DataW.trod_int Tryz.underlying3 g11
    simp at a11
    clear e11 g11
    obtain ⟨y12, e12⟩ := get_some hlen (i := 12) (by decide)
    have g12 : DataW.trod enc Tryz.prog W 0 (fun _ => true) true m 3 (([c0, c1, c2, c3, c4, c5, c6, c7, c8, c9, c10, c11, c12, c13, c14, c15, c16, c17, c18].drop 14).take (Tryz.prog.cellsOf 3)) = some y12 := (hf 12 _ rfl).trans e12
    rw [Tryz.cells3] at g12
    obtain ⟨x12, a12, _, b12⟩ := DataW.trod_int Tryz.underlying3 g12
    simp at a12
    clear e12 g12
    obtain ⟨y13, e13⟩ := get_some hlen (i := 13) (by decide)
    have g13 : DataW.trod enc Tryz.prog W 0 (fun _ => true) true m 38 (([c0, c1, c2, c3, c4, c5, c6, c7, c8, c9, c10, c11, c12, c13, c14, c15, c16, c17, c18].drop 15).take (Tryz.prog.cellsOf 38)) = some y13 := (hf 13 _ rfl).trans e13
    rw [Tryz.cells38] at g13
    obtain ⟨sa, sc, l, a13, r13, b13⟩ := open_ri1 g13
    simp at a13
    clear e13 g13
    obtain ⟨y14, e14⟩ := get_some hlen (i := 14) (by decide)
    have g14 : DataW.trod enc Tryz.prog W 0 (fun _ => true) true m 29 (([c0, c1, c2, c3, c4, c5, c6, c7, c8, c9, c10, c11, c12, c13, c14, c15, c16, c17, c18].drop 16).take (Tryz.prog.cellsOf 29)) = some y14 := (hf 14 _ rfl).trans e14
    rw [Tryz.cells29] at g14
    obtain ⟨x14, z14, a14, b14, d14⟩ := open_two Tryz.underlying29 rfl rfl rfl rfl Tryz.cells29 g14
    simp at a14
    clear e14 g14
    obtain ⟨y15, e15⟩ := get_some hlen (i := 15) (by decide)
    have g15 : DataW.trod enc Tryz.prog W 0 (fun _ => true) true m 3 (([c0, c1, c2, c3, c4, c5, c6, c7, c8, c9, c10, c11, c12, c13, c14, c15, c16, c17, c18].drop 18).take (Tryz.prog.cellsOf 3)) = some y15 := (hf 15 _ rfl).trans e15
    rw [Tryz.cells3] at g15
    obtain ⟨x15, a15, _, b15⟩ := DataW.trod_int Tryz.underlying3 g15
    simp at a15
    clear e15 g15
    exact ⟨{ house := x0, num := x1, clock := x2, day := x3, kind := x4, stone := x5, heap := x6, turns := x7, hardLo := x8, hardHi := z8, diffLo := x9, diffHi := z9, a := x10, b := x11, ring := x12, strokes := l, refH := x14, refN := z14, fix := x15 }, sa, sc, by simp only [NoteV.cells]; rw [a0, a1, a2, a3, a4, a5, a6, a7, a8.1, a8.2, a9.1, a9.2, a10, a11, a12, a13, a14.1, a14.2, a15], r13, { house := i64_of_wf b0, num := i64_of_wf b1, clock := i64_of_wf b2, day := i64_of_wf b3, kind := i64_of_wf b4, stone := i64_of_wf b5, heap := i64_of_wf b6, turns := i64_of_wf b7, hardLo := b8, hardHi := d8, diffLo := b9, diffHi := d9, a := i64_of_wf b10, b := i64_of_wf b11, ring := i64_of_wf b12, strokes := b13, refH := b14, refN := d14, fix := i64_of_wf b15 }⟩
end
end Go.Proofs.YtpjiakgfegnmcaaGreat
namespace Go.Proofs.YtpjiakgfegnmcaaGreat
open Go.ChangeShapes Go.WideShapes Go.ChangeAt Go.RowKit

theorem Tryz.cells23 : Tryz.prog.cellsOf 23 = 3 := by kernel_rfl
section
variable {H : Type} {enc : TypeId × Value → H} {W : World}
set_option maxRecDepth 100000 in
theorem hopen_frame {base : Nat} {v : Value} {d : DataW H} {p : List MemPlace} (hval : Value.okWide Tryz.prog W .any base 23 v)
    (h : DataW.Trod enc Tryz.prog W 0 (fun _ => true) true 23 v d p) : ∃ f : FrV, v = f.val := by
  obtain ⟨cs, rfl, hsz⟩ := okWide_struct Tryz.underlying23 hval
  obtain ⟨fuel, hf⟩ := h
  obtain ⟨y0, y1, y2, n, _, hl, g0, g1, g2⟩ := Go.Deep.trod_struct3 Tryz.underlying23 hf
  rw [Tryz.cells23] at hsz
  obtain ⟨l⟩ := cs
  match l, hsz with
  | [c0, c1, c2], _ =>
    have g0' : DataW.trod enc Tryz.prog W 0 (fun _ => true) true n 3 (([c0, c1, c2].drop 0).take (Tryz.prog.cellsOf 3)) = some y0 := g0
    have g1' : DataW.trod enc Tryz.prog W 0 (fun _ => true) true n 3 (([c0, c1, c2].drop 1).take (Tryz.prog.cellsOf 3)) = some y1 := g1
    have g2' : DataW.trod enc Tryz.prog W 0 (fun _ => true) true n 3 (([c0, c1, c2].drop 2).take (Tryz.prog.cellsOf 3)) = some y2 := g2
    rw [Tryz.cells3] at g0' g1' g2'
    obtain ⟨x0, a0, _, _⟩ := DataW.trod_int Tryz.underlying3 g0'
    obtain ⟨x1, a1, _, _⟩ := DataW.trod_int Tryz.underlying3 g1'
    obtain ⟨x2, a2, _, _⟩ := DataW.trod_int Tryz.underlying3 g2'
    simp at a0 a1 a2
    exact ⟨⟨x0, x1, x2⟩, by rw [a0, a1, a2]; rfl⟩
theorem cells_spot {a : Addr} {n : Nat} {cs : List Value} (hn : 0 < n) (h : W.cells? 0 a n = some cs) : a.spot = none := by
  have h2 := World.cells?_some h
  have h3 := h2.2.2 0 (by have := h2.1; omega)
  rw [List.getElem?_eq_getElem (by have := h2.1; omega)] at h3
  simpa [Addr.add] using World.cell?_spot h3
/-- A slice as a reading finds it: each element is read. -/
theorem open_rows {fuel : Nat} {cs : List Value} {y : DataW H × List MemPlace} {t e : TypeId} {k : Nat} (ht : Tryz.prog.underlying t = some (.slice e)) (hc : Tryz.prog.cellsOf e = k) (hk : 0 < k)
    (h : DataW.trod enc Tryz.prog W 0 (fun _ => true) true fuel t cs = some y) :
    ∃ a n c, cs = [.slice a n c] ∧ n ≤ c ∧ c ≤ maxLen ∧ (c = 0 ∨ ∃ b off, a = some ⟨b, off, none⟩ ∧ ∀ i, i < n → ∃ es m z, DataW.trod enc Tryz.prog W 0 (fun _ => true) true m e es = some z ∧ W.rangeAt b (off + i * k) es) := by
  rcases DataW.trod_slice ht h with ⟨hcs, hx⟩ | ⟨a, len', cap', elems, rest, m, _, hcs, hx, hb, hl, hm, hlen, hel, hsp, hns⟩
  · exact ⟨none, 0, 0, hcs, Nat.le_refl _, Nat.zero_le _, .inl rfl⟩
  · rw [hc] at hel hsp
    refine ⟨some a, len', cap', hcs, hl, hm, ?_⟩
    rcases Nat.eq_zero_or_pos cap' with h0 | h0
    · exact .inl h0
    · have hspot : a.spot = none := by
        rcases Nat.eq_zero_or_pos len' with h1 | h1
        · obtain ⟨h2, h3⟩ := hsp rfl
          have h4 := h3 0 (by omega)
          rw [List.getElem?_eq_getElem (by omega)] at h4
          cases hq : W.cells? 0 (a.add ((len' + 0) * k)) k with
          | none => rw [hq] at h4; cases h4
          | some cs => rw [show (len' + 0) * k = 0 by rw [h1]; simp] at hq; have := cells_spot hk hq; simpa [Addr.add] using this
        · have h4 := hel 0 h1
          rw [List.getElem?_eq_getElem (by omega)] at h4
          cases hq : W.cells? 0 (a.add (0 * k)) k with
          | none => rw [hq] at h4; cases h4
          | some cs => rw [Nat.zero_mul] at hq; have := cells_spot hk hq; simpa [Addr.add] using this
      obtain ⟨ab, ao, spot⟩ := a
      simp only at hspot
      subst hspot
      refine .inr ⟨ab, ao, rfl, fun i hi => ?_⟩
      have h1 := hel i hi
      rw [List.getElem?_eq_getElem (by omega)] at h1
      cases hcs : W.cells? 0 ((⟨ab, ao, none⟩ : Addr).add (i * k)) k with
      | none => rw [hcs] at h1; cases h1
      | some es =>
        rw [hcs] at h1
        have h2 := World.cells?_some hcs
        refine ⟨es, m, _, h1, fun j v hv => ?_⟩
        have hj : j < es.length := (List.getElem?_eq_some_iff.1 hv).1
        have h3 := h2.2.2 j (by have := h2.1; omega)
        rw [hv] at h3
        simpa [Addr.add_lit] using h3
theorem choose_list {α : Type} {n : Nat} {P : Nat → α → Prop} (h : ∀ i, i < n → ∃ x, P i x) : ∃ l : List α, l.length = n ∧ ∀ i x, l[i]? = some x → P i x := by
  induction n with
  | zero => exact ⟨[], rfl, by simp⟩
  | succ n ih =>
    obtain ⟨l, h1, h2⟩ := ih (fun i hi => h i (by omega))
    obtain ⟨x, hx⟩ := h n (by omega)
    refine ⟨l ++ [x], by simp [h1], fun i y hy => ?_⟩
    rcases Nat.lt_or_ge i l.length with hi | hi
    · rw [List.getElem?_append_left hi] at hy; exact h2 i y hy
    · rw [List.getElem?_append_right hi] at hy
      have : i - l.length = 0 := by
        rcases Nat.eq_zero_or_pos (i - l.length) with h0 | h0
        · exact h0
        · rw [List.getElem?_eq_none (by simp; omega)] at hy; cases hy
      rw [this] at hy
      simp at hy
      subst hy
      have : i = n := by omega
      rw [this]; exact hx
set_option maxRecDepth 100000 in
theorem open_notes1 {fuel : Nat} {cs : List Value} {y : DataW H × List MemPlace} (h : DataW.trod enc Tryz.prog W 0 (fun _ => true) true fuel 43 cs = some y) : ∃ a n c l, cs = [.slice a n c] ∧ RdNs W a n c l ∧ ∀ x ∈ l, x.Ok := by
  obtain ⟨a, n, c, rfl, h1, h2, h3⟩ := open_rows Tryz.underlying43 Tryz.cells51 (by decide) h
  rcases h3 with h3 | ⟨b, off, rfl, h3⟩
  · exact ⟨a, n, c, [], rfl, ⟨by simp; omega, h1, h2, .inl h3⟩, fun x hx => by cases hx⟩
  · obtain ⟨l, h4, h5⟩ := choose_list (P := fun i (x : NoteV) => ∃ es, W.rangeAt b (off + i * 19) es ∧ RdNote W es x) (fun i hi => by
      obtain ⟨es, m, z, h6, h7⟩ := h3 i hi
      obtain ⟨x, hx⟩ := open_note1 h6
      exact ⟨x, es, h7, hx⟩)
    refine ⟨_, n, c, l, rfl, ⟨h4, h1, h2, .inr ⟨b, off, rfl, fun i x hx => ?_⟩⟩, fun x hx => ?_⟩
    · obtain ⟨es, h6, sa, sc, rfl, h7, _⟩ := h5 i x hx
      exact ⟨sa, sc, h6, h7⟩
    · obtain ⟨i, hi⟩ := List.getElem?_of_mem hx
      obtain ⟨es, h6, sa, sc, rfl, _, h7⟩ := h5 i x hi
      exact h7
set_option maxRecDepth 100000 in
theorem open_notes {base : Nat} {v : Value} {d : DataW H} {p : List MemPlace} (hval : Value.okWide Tryz.prog W .any base 43 v)
    (h : DataW.Trod enc Tryz.prog W 0 (fun _ => true) true 43 v d p) : ∃ a n c l, v = .slice a n c ∧ RdNs W a n c l ∧ ∀ x ∈ l, x.Ok := by
  obtain ⟨a1, n1, c1, rfl⟩ := okWide_slice Tryz.underlying43 hval
  obtain ⟨fuel, hf⟩ := h
  obtain ⟨a, n, c, l, h1, h2⟩ := open_notes1 hf
  simp [Value.cells] at h1
  obtain ⟨rfl, rfl, rfl⟩ := h1
  exact ⟨_, _, _, l, rfl, h2⟩
end
end Go.Proofs.YtpjiakgfegnmcaaGreat
namespace Go.Proofs.YtpjiakgfegnmcaaGreat
open Go.ChangeShapes Go.WideShapes Go.ChangeAt Go.RowKit

set_option maxRecDepth 100000 in
theorem historyNotes_lifted (os : Os) (started : os.Started) (H : Type) (enc : TypeId × Value → H) :
    ReturnsInHanded {} Tryz.checked os 5 .any (Rows.historyNotesSpec.pre6 enc Tryz.prog Tryz.f5 Rows.historyNotesRow.domain false) (Rows.historyNotesSpec.post enc Tryz.prog Tryz.f5 false true false false) := by
  refine returnsInHanded_of_change (C := Tryz.checked) Tryz.own started (by kernel_rfl) Tryz.func5
    (ChangeSpec.witness6 (enc := enc) (C := Tryz.checked) false ⟨#[], #[.agg #[.int .i64 0, .int .i64 0, .int .i64 0], .slice none 0 0], []⟩ 8 (by kernel_rfl) (by kernel_rfl) (by kernel_rfl) (by kernel_rfl)) ?_
  intro W base args ds gs before hval0 hW hcnd _
  have hval : ∀ (j : Nat) t v, Tryz.f5.params[j]? = some t → args[j]? = some v → Value.okWide Tryz.prog W .any base t v := hval0
  have hW' := hW
  obtain ⟨p, q, hA0, hV, rfl, hfz, hnd⟩ := hW
  have hA : DataW.TrodAll enc Tryz.prog W 0 (fun _ => true) true Tryz.f5.params.toList args.toList ds p := hA0
  have hA1 := hA
  rw [Tryz.params5] at hA hval
  obtain ⟨v0, v1, d0, d1, p0, p1, rfl, rfl, rfl, h0, h1⟩ := trodAll_two hA
  obtain ⟨rfl, rfl⟩ := trodVars_none hV
  obtain ⟨f, rfl⟩ := hopen_frame (hval 0 23 v0 rfl rfl) h0
  obtain ⟨a, n, c, l, rfl, r1, _⟩ := open_notes (hval 1 43 v1 rfl rfl) h1
  clear hA0 hval0
  simp only [List.append_nil] at hW'
  refine (hnotes_any f a n c l W r1).mono fun e W' ⟨he, hb⟩ => ?_
  subst he
  exact ⟨_, rfl, post_of_law Tryz.laidOut Tryz.underlying4 rfl (by kernel_rfl) (by kernel_rfl) hW' hA1 rfl hb⟩

theorem historyNotes_holds : Rows.HistoryNotesSaid :=
  OpenClaim.holds_of_wide 5 Tryz.f5 rfl rfl rfl rfl rfl rfl rfl ⟨rfl, rfl, rfl, rfl, rfl⟩ rfl rfl rfl rfl rfl (by kernel_rfl) Tryz.func5 (by kernel_rfl)
    (of_decide_eq_true (by kernel_rfl)) (by unfold Func.isWrapper; first | (rw [if_pos (by decide +kernel)]; kernel_rfl) | (rw [if_neg (by decide +kernel)]; exact ⟨rfl, rfl⟩))
    (fun os started H enc _ => historyNotes_lifted os started H enc)
#print axioms historyNotes_holds
end Go.Proofs.YtpjiakgfegnmcaaGreat
