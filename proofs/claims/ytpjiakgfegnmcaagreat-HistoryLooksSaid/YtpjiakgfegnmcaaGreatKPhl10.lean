/- Parts of the proof, in this order: The reference's wellFormed and CheckNote; Which registers are right, in the reference: rightRegister, RightRegister; How often strokes cover each cell of a ring, in the reference: StrokesOn; What every row of this work shares: a law of the template 'true whatever the input' holds where its call gives true and leaves all old memory; []byte arguments opened; A note, a list of ints, out of a reading; Frames, lists of notes, registers, questions: out of a reading; What is asked, out of a reading. -/
import Derived.Test.YtpjiakgfegnmcaaGreatRows
import Derived.ProofKit
import Derived.OpenShut
import Derived.Deep.Strs
import Derived.Test.YtpjiakgfegnmcaaGreatKPhl9
set_option linter.unusedSimpArgs false
set_option linter.unusedVariables false
namespace Go.Proofs.YtpjiakgfegnmcaaGreat
open Go.RowKit

/-- A frame and a note, boxed one behind the other. -/
structure LocF (w W : World) (p0 p1 : Nat) (f : FrV) (n : NoteV) (sa : Option Addr) (sc : Nat) : Prop where
  e0 : W.heap[p0]? = some (.cells #[.int .i64 f.rings, .int .i64 f.sectors, .int .i64 f.wide] 23 (0, 0))
  e1 : W.heap[p1]? = some (.cells (noteA n sa sc) 51 (0, 0))
  b : Below p0 w W
  lt : p0 < p1
theorem LocF.below {w W W' : World} {p0 p1 : Nat} {f : FrV} {n : NoteV} {sa : Option Addr} {sc : Nat} (h : LocF w W p0 p1 f n sa sc) (hb : Below W.heap.size W W') : LocF w W' p0 p1 f n sa sc := by
  have g : ∀ {k : Nat} {o : Obj}, W.heap[k]? = some o → W'.heap[k]? = some o := fun {k o} hk => (hb.block k (Array.getElem?_eq_some_iff.1 hk).1).trans hk
  have h0 := (Array.getElem?_eq_some_iff.1 h.e0).1
  exact ⟨g h.e0, g h.e1, h.b.trans (hb.mono (by omega)), h.lt⟩
theorem frame_cells {W : World} {p : Nat} {A : Array Value} {t : TypeId} {sp : Nat × Nat} (h : W.heap[p]? = some (.cells A t sp)) (j : Nat) (v : Value) (hv : A[j]? = some v) : W.cell? ⟨p, j, none⟩ = some v := by
  simp [World.cell?, h, hv]
section
attribute [local go_sem] noteA_0 noteA_1 noteA_2 noteA_3 noteA_4 noteA_5 noteA_6 noteA_7 noteA_8 noteA_9 noteA_10 noteA_11 noteA_12 noteA_13 noteA_14 noteA_15 noteA_16 noteA_17 noteA_18
variable (f : FrV) (n : NoteV) (sa : Option Addr) (sc : Nat) (w : World)
set_option maxHeartbeats 20000000 in
set_option maxRecDepth 100000 in
theorem well_2 (hv : f.valid = true) (hs : RdI w sa n.strokes.length sc n.strokes) (hk : n.kind = 2) :
    Calls Tryz.prog 65 #[f.val, .agg (noteA n sa sc)] w fun e w' => e = .returned (.bool (wellB f n)) ∧ Below w.heap.size w w' := by
  have I43 := Lib.hid (show ∀ (m : NoteV) (a : Option Addr) (c : Nat), (Tryz.prog.info? 51).map (·.size) = some (noteA m a c).size from fun m a c => by kernel_rfl)
  have g1 := heap_at (w.alloc (.cells #[.int .i64 f.rings, .int .i64 f.sectors, .int .i64 f.wide] 23)) (.cells (noteA n sa sc) 51) (w.heap.size + 1) (by simp)
  have g0 := heap_before (w.alloc (.cells #[.int .i64 f.rings, .int .i64 f.sectors, .int .i64 f.wide] 23)) (.cells (noteA n sa sc) 51) _ _ (heap_at w (.cells #[.int .i64 f.rings, .int .i64 f.sectors, .int .i64 f.wide] 23) _ rfl)
  have bb : Below w.heap.size w ((w.alloc (.cells #[.int .i64 f.rings, .int .i64 f.sectors, .int .i64 f.wide] 23)).alloc (.cells (noteA n sa sc) 51)) := ((Below.refl _ _).alloc (Nat.le_refl _) _).alloc (by simp) _
  have L0 : Hid (LocF w ((w.alloc (.cells #[.int .i64 f.rings, .int .i64 f.sectors, .int .i64 f.wide] 23)).alloc (.cells (noteA n sa sc) 51)) w.heap.size (w.heap.size + 1) f n sa sc) := Lib.hid ⟨g0, g1, bb, by omega⟩
  clear g0 g1 bb
  unfold FrV.val
  go_enter Tryz.func65, Tryz.ntmps65
  go_upto_region 1 with fail
  generalize hW0 : (w.alloc (.cells #[.int .i64 f.rings, .int .i64 f.sectors, .int .i64 f.wide] 23)).alloc (.cells (noteA n sa sc) 51) = W0 at *
  generalize hp0 : w.heap.size = p0 at *
  generalize hp1 : p0 + 1 = p1 at *
  have RDb := Lib.hid (show ∀ W', Below p0 w W' → RdI W' sa n.strokes.length sc n.strokes from fun W' h => hs.below (by rw [hp0]; exact h))
  have HP0 := Lib.hid hp0; clear hp0 hp1 hW0
  have HV := Lib.hid hv; clear hv
  have HK := Lib.hid hk; clear hk
  have q2 : (n.kind == 2) = true := by simp [HK.out]
  have q2' : decide (n.kind = 2) = true := by simp [HK.out]
  have q5 : (n.kind == 5) = false := by simp [HK.out]
  have q5' : decide (n.kind = 5) = false := by simp [HK.out]
  have q6 : (n.kind == 6) = false := by simp [HK.out]
  have q6' : decide (n.kind = 6) = false := by simp [HK.out]
  have HRS := Lib.hid (show refersB n = true by simp [refersB, HK.out])
  have HK2 := Lib.hid (show ¬ n.kind = 6 ∧ ¬ n.kind = 5 by rw [HK.out]; decide)
  go_wp2_with   (first
      | (refine wpList_load_row rfl 51 _ rfl p1 rfl 51 (noteA n sa sc) (0, 0) _ L0.out.e1 Tryz.underlying51 rfl (I43.out _ _ _) ?_)
      | (refine wpList_load_rowG ?hw 51 _ rfl p1 rfl 51 (noteA n sa sc) (0, 0) _ L0.out.e1 Tryz.underlying51 rfl (I43.out _ _ _) ?_; case hw => rfl))
  refine (rNameOf_any n sa sc _).mono ?_
  rintro e w1 ⟨rfl, b1⟩
  have L1 := Lib.hid (L0.out.below b1); clear b1
  go_wp2_with fail
  refine (rrightName_any n.house n.num _).mono ?_
  rintro e w2 ⟨rfl, b2⟩
  have L2 := Lib.hid (L1.out.below b2); clear b2
  cases hrn : rightNameB n.house n.num
  · have hR : wellB f n = false := by simp [wellB, HRS.out, HK2.out.1, HK2.out.2, hrn]
    have HRX := Lib.hid hR; clear hR
    go_wp2_with fail
    go_ret
    rw [HRX.out]
    exact ⟨rfl, by first | exact L2.out.b | (rw [HP0.out]; exact L2.out.b)⟩
  · have HRN := Lib.hid hrn; clear hrn
    have k2 := note_cells L2.out.e1 2 _ rfl
    simp only [Nat.zero_add] at k2
    have k3 := note_cells L2.out.e1 3 _ rfl
    simp only [Nat.zero_add] at k3
    have k4 := note_cells L2.out.e1 4 _ rfl
    simp only [Nat.zero_add] at k4
    have k16 := note_cells L2.out.e1 16 _ rfl
    simp only [Nat.zero_add] at k16
    have k17 := note_cells L2.out.e1 17 _ rfl
    simp only [Nat.zero_add] at k17
    go_wp2_with fail
    refine (rin_any n.clock 1 1099511627776 _).mono ?_
    rintro e w' ⟨rfl, rfl⟩
    cases hcl : inB n.clock 1 1099511627776
    · have hR : wellB f n = false := by simp [wellB, HRS.out, HK2.out.1, HK2.out.2, HRN.out, hcl]
      have HRX := Lib.hid hR; clear hR
      go_wp2_with fail
      go_ret
      rw [HRX.out]
      exact ⟨rfl, by first | exact L2.out.b | (rw [HP0.out]; exact L2.out.b)⟩
    · have HCL := Lib.hid hcl; clear hcl
      go_wp2_with fail
      refine (rin_any n.day 0 99999 _).mono ?_
      rintro e w' ⟨rfl, rfl⟩
      cases hda : inB n.day 0 99999
      · have hR : wellB f n = false := by simp [wellB, HRS.out, HK2.out.1, HK2.out.2, HRN.out, HCL.out, hda]
        have HRX := Lib.hid hR; clear hR
        go_wp2_with fail
        go_ret
        rw [HRX.out]
        exact ⟨rfl, by first | exact L2.out.b | (rw [HP0.out]; exact L2.out.b)⟩
      · have HDA := Lib.hid hda; clear hda
        by_cases h16 : n.refH = 0
        · by_cases h17 : n.refN = 0
          · have r16 : (n.refH == 0) = true := by simp [h16]
            have r16' : decide (n.refH = 0) = true := by simp [h16]
            have r17 : (n.refN == 0) = true := by simp [h17]
            have r17' : decide (n.refN = 0) = true := by simp [h17]
            have HNM := Lib.hid (show namedB n = false by simp [namedB, h16, h17])
            clear h16 h17
            have hR : wellB f n = false := by simp [wellB, HRS.out, HK2.out.1, HK2.out.2, HRN.out, HCL.out, HDA.out, HNM.out]
            have HRX := Lib.hid hR; clear hR
            go_wp2_with fail
            go_ret
            rw [HRX.out]
            exact ⟨rfl, by first | exact L2.out.b | (rw [HP0.out]; exact L2.out.b)⟩
          · have r16 : (n.refH == 0) = true := by simp [h16]
            have r16' : decide (n.refH = 0) = true := by simp [h16]
            have r17 : (n.refN == 0) = false := by simp [h17]
            have r17' : decide (n.refN = 0) = false := by simp [h17]
            have HNM := Lib.hid (show namedB n = true by simp [namedB, h16, h17])
            clear h16 h17
            go_wp2_with fail
            refine (rrightName_any n.refH n.refN _).mono ?_
            rintro e w3 ⟨rfl, b3⟩
            have L3 := Lib.hid (L2.out.below b3); clear b3
            cases hrf : rightNameB n.refH n.refN
            · have hR : wellB f n = false := by simp [wellB, HRS.out, HK2.out.1, HK2.out.2, HRN.out, HCL.out, HDA.out, HNM.out, hrf]
              have HRX := Lib.hid hR; clear hR
              go_wp2_with fail
              go_ret
              rw [HRX.out]
              exact ⟨rfl, by first | exact L3.out.b | (rw [HP0.out]; exact L3.out.b)⟩
            · have HRF := Lib.hid hrf; clear hrf
              clear k2 k3 k4 k16 k17
              have k4 := note_cells L3.out.e1 4 _ rfl
              simp only [Nat.zero_add] at k4
              by_cases hfx : n.fix = 0
              · have hfx1 : (n.fix == 0) = true := by simp [hfx]
                have hfx2 : decide (n.fix = 0) = true := by simp [hfx]
                have HFX := Lib.hid hfx; clear hfx
                have k18 := note_cells L3.out.e1 18 _ rfl
                simp only [Nat.zero_add] at k18
                have c0 := frame_cells L3.out.e0 0 _ rfl
                have c1 := frame_cells L3.out.e0 1 _ rfl
                have c2 := frame_cells L3.out.e0 2 _ rfl
                go_wp2_with   (first
                    | (refine wpList_load_row rfl 51 _ rfl p1 rfl 51 (noteA n sa sc) (0, 0) _ L3.out.e1 Tryz.underlying51 rfl (I43.out _ _ _) ?_)
                    | (refine wpList_load_rowG ?hw 51 _ rfl p1 rfl 51 (noteA n sa sc) (0, 0) _ L3.out.e1 Tryz.underlying51 rfl (I43.out _ _ _) ?_; case hw => rfl))

                refine (right_any f n sa sc _ HV.out (RDb.out _ L3.out.b) (n.kind)).mono ?_
                rintro e w5 ⟨rfl, b5⟩
                have L5 := Lib.hid (L3.out.below b5); clear b5
                cases hr : rightB f (n.kind) n
                · have hR : wellB f n = false := by simp [wellB, HRS.out, HK2.out.1, HK2.out.2, HRN.out, HCL.out, HDA.out, HNM.out, HRF.out, HFX.out, hr]
                  have HRX := Lib.hid hR; clear hR
                  go_wp2_with fail
                  go_ret
                  rw [HRX.out]
                  exact ⟨rfl, by first | exact L5.out.b | (rw [HP0.out]; exact L5.out.b)⟩
                · have HRR := Lib.hid hr; clear hr
                  go_wp2_with   (first
                      | (refine wpList_load_row rfl 51 _ rfl p1 rfl 51 (noteA n sa sc) (0, 0) _ L5.out.e1 Tryz.underlying51 rfl (I43.out _ _ _) ?_)
                      | (refine wpList_load_rowG ?hw 51 _ rfl p1 rfl 51 (noteA n sa sc) (0, 0) _ L5.out.e1 Tryz.underlying51 rfl (I43.out _ _ _) ?_; case hw => rfl))

                  refine (bare_any n sa sc _ (RDb.out _ L5.out.b) (n.kind)).mono ?_
                  rintro e w6 ⟨ta, tc, rfl, hrd, b6⟩
                  have L6 := Lib.hid (L5.out.below b6); clear b6
                  have hR : wellB f n = sameB (bareR (n.kind) n) zeroN := by simp [wellB, HRS.out, HK2.out.1, HK2.out.2, HRN.out, HCL.out, HDA.out, HNM.out, HRF.out, HFX.out, HRR.out]
                  obtain ⟨N, HN⟩ : ∃ N, Hid (bareR (n.kind) n = N) := ⟨_, Lib.hid rfl⟩
                  rw [HN.out] at hrd hR
                  have HRX := Lib.hid hR; clear hR
                  have RD6 := Lib.hid hrd; clear hrd
                  rw [HN.out]
                  go_wp2_with fail
                  refine (rsame_any N zeroN ta tc none 0 _ RD6.out (RdA.nil _ 1)).mono ?_
                  rintro e w7 ⟨rfl, b7⟩
                  have L7 := Lib.hid (L6.out.below b7); clear b7
                  go_wp2_with fail
                  go_ret
                  rw [HRX.out]
                  exact ⟨rfl, by first | exact L7.out.b | (rw [HP0.out]; exact L7.out.b)⟩
              · have hfx1 : (n.fix == 0) = false := by simp [hfx]
                have hfx2 : decide (n.fix = 0) = false := by simp [hfx]
                have HFX := Lib.hid hfx; clear hfx
                have k18 := note_cells L3.out.e1 18 _ rfl
                simp only [Nat.zero_add] at k18
                have hR : wellB f n = false := by simp [wellB, HRS.out, HK2.out.1, HK2.out.2, HRN.out, HCL.out, HDA.out, HNM.out, HRF.out, HFX.out]
                have HRX := Lib.hid hR; clear hR
                go_wp2_with fail
                go_ret
                rw [HRX.out]
                exact ⟨rfl, by first | exact L3.out.b | (rw [HP0.out]; exact L3.out.b)⟩
        · have r16 : (n.refH == 0) = false := by simp [h16]
          have r16' : decide (n.refH = 0) = false := by simp [h16]
          have HNM := Lib.hid (show namedB n = true by simp [namedB, h16])
          clear h16
          go_wp2_with fail
          refine (rrightName_any n.refH n.refN _).mono ?_
          rintro e w3 ⟨rfl, b3⟩
          have L3 := Lib.hid (L2.out.below b3); clear b3
          cases hrf : rightNameB n.refH n.refN
          · have hR : wellB f n = false := by simp [wellB, HRS.out, HK2.out.1, HK2.out.2, HRN.out, HCL.out, HDA.out, HNM.out, hrf]
            have HRX := Lib.hid hR; clear hR
            go_wp2_with fail
            go_ret
            rw [HRX.out]
            exact ⟨rfl, by first | exact L3.out.b | (rw [HP0.out]; exact L3.out.b)⟩
          · have HRF := Lib.hid hrf; clear hrf
            clear k2 k3 k4 k16 k17
            have k4 := note_cells L3.out.e1 4 _ rfl
            simp only [Nat.zero_add] at k4
            by_cases hfx : n.fix = 0
            · have hfx1 : (n.fix == 0) = true := by simp [hfx]
              have hfx2 : decide (n.fix = 0) = true := by simp [hfx]
              have HFX := Lib.hid hfx; clear hfx
              have k18 := note_cells L3.out.e1 18 _ rfl
              simp only [Nat.zero_add] at k18
              have c0 := frame_cells L3.out.e0 0 _ rfl
              have c1 := frame_cells L3.out.e0 1 _ rfl
              have c2 := frame_cells L3.out.e0 2 _ rfl
              go_wp2_with   (first
                  | (refine wpList_load_row rfl 51 _ rfl p1 rfl 51 (noteA n sa sc) (0, 0) _ L3.out.e1 Tryz.underlying51 rfl (I43.out _ _ _) ?_)
                  | (refine wpList_load_rowG ?hw 51 _ rfl p1 rfl 51 (noteA n sa sc) (0, 0) _ L3.out.e1 Tryz.underlying51 rfl (I43.out _ _ _) ?_; case hw => rfl))

              refine (right_any f n sa sc _ HV.out (RDb.out _ L3.out.b) (n.kind)).mono ?_
              rintro e w5 ⟨rfl, b5⟩
              have L5 := Lib.hid (L3.out.below b5); clear b5
              cases hr : rightB f (n.kind) n
              · have hR : wellB f n = false := by simp [wellB, HRS.out, HK2.out.1, HK2.out.2, HRN.out, HCL.out, HDA.out, HNM.out, HRF.out, HFX.out, hr]
                have HRX := Lib.hid hR; clear hR
                go_wp2_with fail
                go_ret
                rw [HRX.out]
                exact ⟨rfl, by first | exact L5.out.b | (rw [HP0.out]; exact L5.out.b)⟩
              · have HRR := Lib.hid hr; clear hr
                go_wp2_with   (first
                    | (refine wpList_load_row rfl 51 _ rfl p1 rfl 51 (noteA n sa sc) (0, 0) _ L5.out.e1 Tryz.underlying51 rfl (I43.out _ _ _) ?_)
                    | (refine wpList_load_rowG ?hw 51 _ rfl p1 rfl 51 (noteA n sa sc) (0, 0) _ L5.out.e1 Tryz.underlying51 rfl (I43.out _ _ _) ?_; case hw => rfl))

                refine (bare_any n sa sc _ (RDb.out _ L5.out.b) (n.kind)).mono ?_
                rintro e w6 ⟨ta, tc, rfl, hrd, b6⟩
                have L6 := Lib.hid (L5.out.below b6); clear b6
                have hR : wellB f n = sameB (bareR (n.kind) n) zeroN := by simp [wellB, HRS.out, HK2.out.1, HK2.out.2, HRN.out, HCL.out, HDA.out, HNM.out, HRF.out, HFX.out, HRR.out]
                obtain ⟨N, HN⟩ : ∃ N, Hid (bareR (n.kind) n = N) := ⟨_, Lib.hid rfl⟩
                rw [HN.out] at hrd hR
                have HRX := Lib.hid hR; clear hR
                have RD6 := Lib.hid hrd; clear hrd
                rw [HN.out]
                go_wp2_with fail
                refine (rsame_any N zeroN ta tc none 0 _ RD6.out (RdA.nil _ 1)).mono ?_
                rintro e w7 ⟨rfl, b7⟩
                have L7 := Lib.hid (L6.out.below b7); clear b7
                go_wp2_with fail
                go_ret
                rw [HRX.out]
                exact ⟨rfl, by first | exact L7.out.b | (rw [HP0.out]; exact L7.out.b)⟩
            · have hfx1 : (n.fix == 0) = false := by simp [hfx]
              have hfx2 : decide (n.fix = 0) = false := by simp [hfx]
              have HFX := Lib.hid hfx; clear hfx
              have k18 := note_cells L3.out.e1 18 _ rfl
              simp only [Nat.zero_add] at k18
              have hR : wellB f n = false := by simp [wellB, HRS.out, HK2.out.1, HK2.out.2, HRN.out, HCL.out, HDA.out, HNM.out, HRF.out, HFX.out]
              have HRX := Lib.hid hR; clear hR
              go_wp2_with fail
              go_ret
              rw [HRX.out]
              exact ⟨rfl, by first | exact L3.out.b | (rw [HP0.out]; exact L3.out.b)⟩
set_option maxHeartbeats 20000000 in
set_option maxRecDepth 100000 in
theorem well_5 (hv : f.valid = true) (hs : RdI w sa n.strokes.length sc n.strokes) (hk : n.kind = 5) :
    Calls Tryz.prog 65 #[f.val, .agg (noteA n sa sc)] w fun e w' => e = .returned (.bool (wellB f n)) ∧ Below w.heap.size w w' := by
  have I43 := Lib.hid (show ∀ (m : NoteV) (a : Option Addr) (c : Nat), (Tryz.prog.info? 51).map (·.size) = some (noteA m a c).size from fun m a c => by kernel_rfl)
  have g1 := heap_at (w.alloc (.cells #[.int .i64 f.rings, .int .i64 f.sectors, .int .i64 f.wide] 23)) (.cells (noteA n sa sc) 51) (w.heap.size + 1) (by simp)
  have g0 := heap_before (w.alloc (.cells #[.int .i64 f.rings, .int .i64 f.sectors, .int .i64 f.wide] 23)) (.cells (noteA n sa sc) 51) _ _ (heap_at w (.cells #[.int .i64 f.rings, .int .i64 f.sectors, .int .i64 f.wide] 23) _ rfl)
  have bb : Below w.heap.size w ((w.alloc (.cells #[.int .i64 f.rings, .int .i64 f.sectors, .int .i64 f.wide] 23)).alloc (.cells (noteA n sa sc) 51)) := ((Below.refl _ _).alloc (Nat.le_refl _) _).alloc (by simp) _
  have L0 : Hid (LocF w ((w.alloc (.cells #[.int .i64 f.rings, .int .i64 f.sectors, .int .i64 f.wide] 23)).alloc (.cells (noteA n sa sc) 51)) w.heap.size (w.heap.size + 1) f n sa sc) := Lib.hid ⟨g0, g1, bb, by omega⟩
  clear g0 g1 bb
  unfold FrV.val
  go_enter Tryz.func65, Tryz.ntmps65
  go_upto_region 1 with fail
  generalize hW0 : (w.alloc (.cells #[.int .i64 f.rings, .int .i64 f.sectors, .int .i64 f.wide] 23)).alloc (.cells (noteA n sa sc) 51) = W0 at *
  generalize hp0 : w.heap.size = p0 at *
  generalize hp1 : p0 + 1 = p1 at *
  have RDb := Lib.hid (show ∀ W', Below p0 w W' → RdI W' sa n.strokes.length sc n.strokes from fun W' h => hs.below (by rw [hp0]; exact h))
  have HP0 := Lib.hid hp0; clear hp0 hp1 hW0
  have HV := Lib.hid hv; clear hv
  have HK := Lib.hid hk; clear hk
  have q2 : (n.kind == 2) = false := by simp [HK.out]
  have q2' : decide (n.kind = 2) = false := by simp [HK.out]
  have q5 : (n.kind == 5) = true := by simp [HK.out]
  have q5' : decide (n.kind = 5) = true := by simp [HK.out]
  have q6 : (n.kind == 6) = false := by simp [HK.out]
  have q6' : decide (n.kind = 6) = false := by simp [HK.out]
  have HRS := Lib.hid (show refersB n = true by simp [refersB, HK.out])
  go_wp2_with   (first
      | (refine wpList_load_row rfl 51 _ rfl p1 rfl 51 (noteA n sa sc) (0, 0) _ L0.out.e1 Tryz.underlying51 rfl (I43.out _ _ _) ?_)
      | (refine wpList_load_rowG ?hw 51 _ rfl p1 rfl 51 (noteA n sa sc) (0, 0) _ L0.out.e1 Tryz.underlying51 rfl (I43.out _ _ _) ?_; case hw => rfl))
  refine (rNameOf_any n sa sc _).mono ?_
  rintro e w1 ⟨rfl, b1⟩
  have L1 := Lib.hid (L0.out.below b1); clear b1
  go_wp2_with fail
  refine (rrightName_any n.house n.num _).mono ?_
  rintro e w2 ⟨rfl, b2⟩
  have L2 := Lib.hid (L1.out.below b2); clear b2
  cases hrn : rightNameB n.house n.num
  · have hR : wellB f n = false := by simp [wellB, HRS.out, HK.out, hrn]
    have HRX := Lib.hid hR; clear hR
    go_wp2_with fail
    go_ret
    rw [HRX.out]
    exact ⟨rfl, by first | exact L2.out.b | (rw [HP0.out]; exact L2.out.b)⟩
  · have HRN := Lib.hid hrn; clear hrn
    have k2 := note_cells L2.out.e1 2 _ rfl
    simp only [Nat.zero_add] at k2
    have k3 := note_cells L2.out.e1 3 _ rfl
    simp only [Nat.zero_add] at k3
    have k4 := note_cells L2.out.e1 4 _ rfl
    simp only [Nat.zero_add] at k4
    have k16 := note_cells L2.out.e1 16 _ rfl
    simp only [Nat.zero_add] at k16
    have k17 := note_cells L2.out.e1 17 _ rfl
    simp only [Nat.zero_add] at k17
    go_wp2_with fail
    refine (rin_any n.clock 1 1099511627776 _).mono ?_
    rintro e w' ⟨rfl, rfl⟩
    cases hcl : inB n.clock 1 1099511627776
    · have hR : wellB f n = false := by simp [wellB, HRS.out, HK.out, HRN.out, hcl]
      have HRX := Lib.hid hR; clear hR
      go_wp2_with fail
      go_ret
      rw [HRX.out]
      exact ⟨rfl, by first | exact L2.out.b | (rw [HP0.out]; exact L2.out.b)⟩
    · have HCL := Lib.hid hcl; clear hcl
      go_wp2_with fail
      refine (rin_any n.day 0 99999 _).mono ?_
      rintro e w' ⟨rfl, rfl⟩
      cases hda : inB n.day 0 99999
      · have hR : wellB f n = false := by simp [wellB, HRS.out, HK.out, HRN.out, HCL.out, hda]
        have HRX := Lib.hid hR; clear hR
        go_wp2_with fail
        go_ret
        rw [HRX.out]
        exact ⟨rfl, by first | exact L2.out.b | (rw [HP0.out]; exact L2.out.b)⟩
      · have HDA := Lib.hid hda; clear hda
        by_cases h16 : n.refH = 0
        · by_cases h17 : n.refN = 0
          · have r16 : (n.refH == 0) = true := by simp [h16]
            have r16' : decide (n.refH = 0) = true := by simp [h16]
            have r17 : (n.refN == 0) = true := by simp [h17]
            have r17' : decide (n.refN = 0) = true := by simp [h17]
            have HNM := Lib.hid (show namedB n = false by simp [namedB, h16, h17])
            clear h16 h17
            have hR : wellB f n = false := by simp [wellB, HRS.out, HK.out, HRN.out, HCL.out, HDA.out, HNM.out]
            have HRX := Lib.hid hR; clear hR
            go_wp2_with fail
            go_ret
            rw [HRX.out]
            exact ⟨rfl, by first | exact L2.out.b | (rw [HP0.out]; exact L2.out.b)⟩
          · have r16 : (n.refH == 0) = true := by simp [h16]
            have r16' : decide (n.refH = 0) = true := by simp [h16]
            have r17 : (n.refN == 0) = false := by simp [h17]
            have r17' : decide (n.refN = 0) = false := by simp [h17]
            have HNM := Lib.hid (show namedB n = true by simp [namedB, h16, h17])
            clear h16 h17
            go_wp2_with fail
            refine (rrightName_any n.refH n.refN _).mono ?_
            rintro e w3 ⟨rfl, b3⟩
            have L3 := Lib.hid (L2.out.below b3); clear b3
            cases hrf : rightNameB n.refH n.refN
            · have hR : wellB f n = false := by simp [wellB, HRS.out, HK.out, HRN.out, HCL.out, HDA.out, HNM.out, hrf]
              have HRX := Lib.hid hR; clear hR
              go_wp2_with fail
              go_ret
              rw [HRX.out]
              exact ⟨rfl, by first | exact L3.out.b | (rw [HP0.out]; exact L3.out.b)⟩
            · have HRF := Lib.hid hrf; clear hrf
              clear k2 k3 k4 k16 k17
              have k4 := note_cells L3.out.e1 4 _ rfl
              simp only [Nat.zero_add] at k4
              have k18 := note_cells L3.out.e1 18 _ rfl
              simp only [Nat.zero_add] at k18
              have c0 := frame_cells L3.out.e0 0 _ rfl
              have c1 := frame_cells L3.out.e0 1 _ rfl
              have c2 := frame_cells L3.out.e0 2 _ rfl
              go_wp2_with   (first
                  | (refine wpList_load_row rfl 51 _ rfl p1 rfl 51 (noteA n sa sc) (0, 0) _ L3.out.e1 Tryz.underlying51 rfl (I43.out _ _ _) ?_)
                  | (refine wpList_load_rowG ?hw 51 _ rfl p1 rfl 51 (noteA n sa sc) (0, 0) _ L3.out.e1 Tryz.underlying51 rfl (I43.out _ _ _) ?_; case hw => rfl))

              refine (right_any f n sa sc _ HV.out (RDb.out _ L3.out.b) (n.fix)).mono ?_
              rintro e w5 ⟨rfl, b5⟩
              have L5 := Lib.hid (L3.out.below b5); clear b5
              cases hr : rightB f (n.fix) n
              · have hR : wellB f n = false := by simp [wellB, HRS.out, HK.out, HRN.out, HCL.out, HDA.out, HNM.out, HRF.out, hr]
                have HRX := Lib.hid hR; clear hR
                go_wp2_with fail
                go_ret
                rw [HRX.out]
                exact ⟨rfl, by first | exact L5.out.b | (rw [HP0.out]; exact L5.out.b)⟩
              · have HRR := Lib.hid hr; clear hr
                go_wp2_with   (first
                    | (refine wpList_load_row rfl 51 _ rfl p1 rfl 51 (noteA n sa sc) (0, 0) _ L5.out.e1 Tryz.underlying51 rfl (I43.out _ _ _) ?_)
                    | (refine wpList_load_rowG ?hw 51 _ rfl p1 rfl 51 (noteA n sa sc) (0, 0) _ L5.out.e1 Tryz.underlying51 rfl (I43.out _ _ _) ?_; case hw => rfl))

                refine (bare_any n sa sc _ (RDb.out _ L5.out.b) (n.fix)).mono ?_
                rintro e w6 ⟨ta, tc, rfl, hrd, b6⟩
                have L6 := Lib.hid (L5.out.below b6); clear b6
                have hR : wellB f n = sameB (bareR (n.fix) n) zeroN := by simp [wellB, HRS.out, HK.out, HRN.out, HCL.out, HDA.out, HNM.out, HRF.out, HRR.out]
                obtain ⟨N, HN⟩ : ∃ N, Hid (bareR (n.fix) n = N) := ⟨_, Lib.hid rfl⟩
                rw [HN.out] at hrd hR
                have HRX := Lib.hid hR; clear hR
                have RD6 := Lib.hid hrd; clear hrd
                rw [HN.out]
                go_wp2_with fail
                refine (rsame_any N zeroN ta tc none 0 _ RD6.out (RdA.nil _ 1)).mono ?_
                rintro e w7 ⟨rfl, b7⟩
                have L7 := Lib.hid (L6.out.below b7); clear b7
                go_wp2_with fail
                go_ret
                rw [HRX.out]
                exact ⟨rfl, by first | exact L7.out.b | (rw [HP0.out]; exact L7.out.b)⟩
        · have r16 : (n.refH == 0) = false := by simp [h16]
          have r16' : decide (n.refH = 0) = false := by simp [h16]
          have HNM := Lib.hid (show namedB n = true by simp [namedB, h16])
          clear h16
          go_wp2_with fail
          refine (rrightName_any n.refH n.refN _).mono ?_
          rintro e w3 ⟨rfl, b3⟩
          have L3 := Lib.hid (L2.out.below b3); clear b3
          cases hrf : rightNameB n.refH n.refN
          · have hR : wellB f n = false := by simp [wellB, HRS.out, HK.out, HRN.out, HCL.out, HDA.out, HNM.out, hrf]
            have HRX := Lib.hid hR; clear hR
            go_wp2_with fail
            go_ret
            rw [HRX.out]
            exact ⟨rfl, by first | exact L3.out.b | (rw [HP0.out]; exact L3.out.b)⟩
          · have HRF := Lib.hid hrf; clear hrf
            clear k2 k3 k4 k16 k17
            have k4 := note_cells L3.out.e1 4 _ rfl
            simp only [Nat.zero_add] at k4
            have k18 := note_cells L3.out.e1 18 _ rfl
            simp only [Nat.zero_add] at k18
            have c0 := frame_cells L3.out.e0 0 _ rfl
            have c1 := frame_cells L3.out.e0 1 _ rfl
            have c2 := frame_cells L3.out.e0 2 _ rfl
            go_wp2_with   (first
                | (refine wpList_load_row rfl 51 _ rfl p1 rfl 51 (noteA n sa sc) (0, 0) _ L3.out.e1 Tryz.underlying51 rfl (I43.out _ _ _) ?_)
                | (refine wpList_load_rowG ?hw 51 _ rfl p1 rfl 51 (noteA n sa sc) (0, 0) _ L3.out.e1 Tryz.underlying51 rfl (I43.out _ _ _) ?_; case hw => rfl))

            refine (right_any f n sa sc _ HV.out (RDb.out _ L3.out.b) (n.fix)).mono ?_
            rintro e w5 ⟨rfl, b5⟩
            have L5 := Lib.hid (L3.out.below b5); clear b5
            cases hr : rightB f (n.fix) n
            · have hR : wellB f n = false := by simp [wellB, HRS.out, HK.out, HRN.out, HCL.out, HDA.out, HNM.out, HRF.out, hr]
              have HRX := Lib.hid hR; clear hR
              go_wp2_with fail
              go_ret
              rw [HRX.out]
              exact ⟨rfl, by first | exact L5.out.b | (rw [HP0.out]; exact L5.out.b)⟩
            · have HRR := Lib.hid hr; clear hr
              go_wp2_with   (first
                  | (refine wpList_load_row rfl 51 _ rfl p1 rfl 51 (noteA n sa sc) (0, 0) _ L5.out.e1 Tryz.underlying51 rfl (I43.out _ _ _) ?_)
                  | (refine wpList_load_rowG ?hw 51 _ rfl p1 rfl 51 (noteA n sa sc) (0, 0) _ L5.out.e1 Tryz.underlying51 rfl (I43.out _ _ _) ?_; case hw => rfl))

              refine (bare_any n sa sc _ (RDb.out _ L5.out.b) (n.fix)).mono ?_
              rintro e w6 ⟨ta, tc, rfl, hrd, b6⟩
              have L6 := Lib.hid (L5.out.below b6); clear b6
              have hR : wellB f n = sameB (bareR (n.fix) n) zeroN := by simp [wellB, HRS.out, HK.out, HRN.out, HCL.out, HDA.out, HNM.out, HRF.out, HRR.out]
              obtain ⟨N, HN⟩ : ∃ N, Hid (bareR (n.fix) n = N) := ⟨_, Lib.hid rfl⟩
              rw [HN.out] at hrd hR
              have HRX := Lib.hid hR; clear hR
              have RD6 := Lib.hid hrd; clear hrd
              rw [HN.out]
              go_wp2_with fail
              refine (rsame_any N zeroN ta tc none 0 _ RD6.out (RdA.nil _ 1)).mono ?_
              rintro e w7 ⟨rfl, b7⟩
              have L7 := Lib.hid (L6.out.below b7); clear b7
              go_wp2_with fail
              go_ret
              rw [HRX.out]
              exact ⟨rfl, by first | exact L7.out.b | (rw [HP0.out]; exact L7.out.b)⟩
set_option maxHeartbeats 20000000 in
set_option maxRecDepth 100000 in
theorem well_6 (hv : f.valid = true) (hs : RdI w sa n.strokes.length sc n.strokes) (hk : n.kind = 6) :
    Calls Tryz.prog 65 #[f.val, .agg (noteA n sa sc)] w fun e w' => e = .returned (.bool (wellB f n)) ∧ Below w.heap.size w w' := by
  have I43 := Lib.hid (show ∀ (m : NoteV) (a : Option Addr) (c : Nat), (Tryz.prog.info? 51).map (·.size) = some (noteA m a c).size from fun m a c => by kernel_rfl)
  have g1 := heap_at (w.alloc (.cells #[.int .i64 f.rings, .int .i64 f.sectors, .int .i64 f.wide] 23)) (.cells (noteA n sa sc) 51) (w.heap.size + 1) (by simp)
  have g0 := heap_before (w.alloc (.cells #[.int .i64 f.rings, .int .i64 f.sectors, .int .i64 f.wide] 23)) (.cells (noteA n sa sc) 51) _ _ (heap_at w (.cells #[.int .i64 f.rings, .int .i64 f.sectors, .int .i64 f.wide] 23) _ rfl)
  have bb : Below w.heap.size w ((w.alloc (.cells #[.int .i64 f.rings, .int .i64 f.sectors, .int .i64 f.wide] 23)).alloc (.cells (noteA n sa sc) 51)) := ((Below.refl _ _).alloc (Nat.le_refl _) _).alloc (by simp) _
  have L0 : Hid (LocF w ((w.alloc (.cells #[.int .i64 f.rings, .int .i64 f.sectors, .int .i64 f.wide] 23)).alloc (.cells (noteA n sa sc) 51)) w.heap.size (w.heap.size + 1) f n sa sc) := Lib.hid ⟨g0, g1, bb, by omega⟩
  clear g0 g1 bb
  unfold FrV.val
  go_enter Tryz.func65, Tryz.ntmps65
  go_upto_region 1 with fail
  generalize hW0 : (w.alloc (.cells #[.int .i64 f.rings, .int .i64 f.sectors, .int .i64 f.wide] 23)).alloc (.cells (noteA n sa sc) 51) = W0 at *
  generalize hp0 : w.heap.size = p0 at *
  generalize hp1 : p0 + 1 = p1 at *
  have RDb := Lib.hid (show ∀ W', Below p0 w W' → RdI W' sa n.strokes.length sc n.strokes from fun W' h => hs.below (by rw [hp0]; exact h))
  have HP0 := Lib.hid hp0; clear hp0 hp1 hW0
  have HV := Lib.hid hv; clear hv
  have HK := Lib.hid hk; clear hk
  have q2 : (n.kind == 2) = false := by simp [HK.out]
  have q2' : decide (n.kind = 2) = false := by simp [HK.out]
  have q5 : (n.kind == 5) = false := by simp [HK.out]
  have q5' : decide (n.kind = 5) = false := by simp [HK.out]
  have q6 : (n.kind == 6) = true := by simp [HK.out]
  have q6' : decide (n.kind = 6) = true := by simp [HK.out]
  have HRS := Lib.hid (show refersB n = true by simp [refersB, HK.out])
  go_wp2_with   (first
      | (refine wpList_load_row rfl 51 _ rfl p1 rfl 51 (noteA n sa sc) (0, 0) _ L0.out.e1 Tryz.underlying51 rfl (I43.out _ _ _) ?_)
      | (refine wpList_load_rowG ?hw 51 _ rfl p1 rfl 51 (noteA n sa sc) (0, 0) _ L0.out.e1 Tryz.underlying51 rfl (I43.out _ _ _) ?_; case hw => rfl))
  refine (rNameOf_any n sa sc _).mono ?_
  rintro e w1 ⟨rfl, b1⟩
  have L1 := Lib.hid (L0.out.below b1); clear b1
  go_wp2_with fail
  refine (rrightName_any n.house n.num _).mono ?_
  rintro e w2 ⟨rfl, b2⟩
  have L2 := Lib.hid (L1.out.below b2); clear b2
  cases hrn : rightNameB n.house n.num
  · have hR : wellB f n = false := by simp [wellB, HRS.out, HK.out, hrn]
    have HRX := Lib.hid hR; clear hR
    go_wp2_with fail
    go_ret
    rw [HRX.out]
    exact ⟨rfl, by first | exact L2.out.b | (rw [HP0.out]; exact L2.out.b)⟩
  · have HRN := Lib.hid hrn; clear hrn
    have k2 := note_cells L2.out.e1 2 _ rfl
    simp only [Nat.zero_add] at k2
    have k3 := note_cells L2.out.e1 3 _ rfl
    simp only [Nat.zero_add] at k3
    have k4 := note_cells L2.out.e1 4 _ rfl
    simp only [Nat.zero_add] at k4
    have k16 := note_cells L2.out.e1 16 _ rfl
    simp only [Nat.zero_add] at k16
    have k17 := note_cells L2.out.e1 17 _ rfl
    simp only [Nat.zero_add] at k17
    go_wp2_with fail
    refine (rin_any n.clock 1 1099511627776 _).mono ?_
    rintro e w' ⟨rfl, rfl⟩
    cases hcl : inB n.clock 1 1099511627776
    · have hR : wellB f n = false := by simp [wellB, HRS.out, HK.out, HRN.out, hcl]
      have HRX := Lib.hid hR; clear hR
      go_wp2_with fail
      go_ret
      rw [HRX.out]
      exact ⟨rfl, by first | exact L2.out.b | (rw [HP0.out]; exact L2.out.b)⟩
    · have HCL := Lib.hid hcl; clear hcl
      go_wp2_with fail
      refine (rin_any n.day 0 99999 _).mono ?_
      rintro e w' ⟨rfl, rfl⟩
      cases hda : inB n.day 0 99999
      · have hR : wellB f n = false := by simp [wellB, HRS.out, HK.out, HRN.out, HCL.out, hda]
        have HRX := Lib.hid hR; clear hR
        go_wp2_with fail
        go_ret
        rw [HRX.out]
        exact ⟨rfl, by first | exact L2.out.b | (rw [HP0.out]; exact L2.out.b)⟩
      · have HDA := Lib.hid hda; clear hda
        by_cases h16 : n.refH = 0
        · by_cases h17 : n.refN = 0
          · have r16 : (n.refH == 0) = true := by simp [h16]
            have r16' : decide (n.refH = 0) = true := by simp [h16]
            have r17 : (n.refN == 0) = true := by simp [h17]
            have r17' : decide (n.refN = 0) = true := by simp [h17]
            have HNM := Lib.hid (show namedB n = false by simp [namedB, h16, h17])
            clear h16 h17
            have hR : wellB f n = false := by simp [wellB, HRS.out, HK.out, HRN.out, HCL.out, HDA.out, HNM.out]
            have HRX := Lib.hid hR; clear hR
            go_wp2_with fail
            go_ret
            rw [HRX.out]
            exact ⟨rfl, by first | exact L2.out.b | (rw [HP0.out]; exact L2.out.b)⟩
          · have r16 : (n.refH == 0) = true := by simp [h16]
            have r16' : decide (n.refH = 0) = true := by simp [h16]
            have r17 : (n.refN == 0) = false := by simp [h17]
            have r17' : decide (n.refN = 0) = false := by simp [h17]
            have HNM := Lib.hid (show namedB n = true by simp [namedB, h16, h17])
            clear h16 h17
            go_wp2_with fail
            refine (rrightName_any n.refH n.refN _).mono ?_
            rintro e w3 ⟨rfl, b3⟩
            have L3 := Lib.hid (L2.out.below b3); clear b3
            cases hrf : rightNameB n.refH n.refN
            · have hR : wellB f n = false := by simp [wellB, HRS.out, HK.out, HRN.out, HCL.out, HDA.out, HNM.out, hrf]
              have HRX := Lib.hid hR; clear hR
              go_wp2_with fail
              go_ret
              rw [HRX.out]
              exact ⟨rfl, by first | exact L3.out.b | (rw [HP0.out]; exact L3.out.b)⟩
            · have HRF := Lib.hid hrf; clear hrf
              clear k2 k3 k4 k16 k17
              have k4 := note_cells L3.out.e1 4 _ rfl
              simp only [Nat.zero_add] at k4
              by_cases hfx : n.fix = 0
              · have hfx1 : (n.fix == 0) = true := by simp [hfx]
                have hfx2 : decide (n.fix = 0) = true := by simp [hfx]
                have HFX := Lib.hid hfx; clear hfx
                have k18 := note_cells L3.out.e1 18 _ rfl
                simp only [Nat.zero_add] at k18
                go_wp2_with   (first
                    | (refine wpList_load_row rfl 51 _ rfl p1 rfl 51 (noteA n sa sc) (0, 0) _ L3.out.e1 Tryz.underlying51 rfl (I43.out _ _ _) ?_)
                    | (refine wpList_load_rowG ?hw 51 _ rfl p1 rfl 51 (noteA n sa sc) (0, 0) _ L3.out.e1 Tryz.underlying51 rfl (I43.out _ _ _) ?_; case hw => rfl))

                refine (bare_any n sa sc _ (RDb.out _ L3.out.b) (0)).mono ?_
                rintro e w6 ⟨ta, tc, rfl, hrd, b6⟩
                have L6 := Lib.hid (L3.out.below b6); clear b6
                have hR : wellB f n = sameB (bareR (0) n) zeroN := by simp [wellB, HRS.out, HK.out, HRN.out, HCL.out, HDA.out, HNM.out, HRF.out, HFX.out]
                obtain ⟨N, HN⟩ : ∃ N, Hid (bareR (0) n = N) := ⟨_, Lib.hid rfl⟩
                rw [HN.out] at hrd hR
                have HRX := Lib.hid hR; clear hR
                have RD6 := Lib.hid hrd; clear hrd
                rw [HN.out]
                go_wp2_with fail
                refine (rsame_any N zeroN ta tc none 0 _ RD6.out (RdA.nil _ 1)).mono ?_
                rintro e w7 ⟨rfl, b7⟩
                have L7 := Lib.hid (L6.out.below b7); clear b7
                go_wp2_with fail
                go_ret
                rw [HRX.out]
                exact ⟨rfl, by first | exact L7.out.b | (rw [HP0.out]; exact L7.out.b)⟩
              · have hfx1 : (n.fix == 0) = false := by simp [hfx]
                have hfx2 : decide (n.fix = 0) = false := by simp [hfx]
                have HFX := Lib.hid hfx; clear hfx
                have k18 := note_cells L3.out.e1 18 _ rfl
                simp only [Nat.zero_add] at k18
                have hR : wellB f n = false := by simp [wellB, HRS.out, HK.out, HRN.out, HCL.out, HDA.out, HNM.out, HRF.out, HFX.out]
                have HRX := Lib.hid hR; clear hR
                go_wp2_with fail
                go_ret
                rw [HRX.out]
                exact ⟨rfl, by first | exact L3.out.b | (rw [HP0.out]; exact L3.out.b)⟩
        · have r16 : (n.refH == 0) = false := by simp [h16]
          have r16' : decide (n.refH = 0) = false := by simp [h16]
          have HNM := Lib.hid (show namedB n = true by simp [namedB, h16])
          clear h16
          go_wp2_with fail
          refine (rrightName_any n.refH n.refN _).mono ?_
          rintro e w3 ⟨rfl, b3⟩
          have L3 := Lib.hid (L2.out.below b3); clear b3
          cases hrf : rightNameB n.refH n.refN
          · have hR : wellB f n = false := by simp [wellB, HRS.out, HK.out, HRN.out, HCL.out, HDA.out, HNM.out, hrf]
            have HRX := Lib.hid hR; clear hR
            go_wp2_with fail
            go_ret
            rw [HRX.out]
            exact ⟨rfl, by first | exact L3.out.b | (rw [HP0.out]; exact L3.out.b)⟩
          · have HRF := Lib.hid hrf; clear hrf
            clear k2 k3 k4 k16 k17
            have k4 := note_cells L3.out.e1 4 _ rfl
            simp only [Nat.zero_add] at k4
            by_cases hfx : n.fix = 0
            · have hfx1 : (n.fix == 0) = true := by simp [hfx]
              have hfx2 : decide (n.fix = 0) = true := by simp [hfx]
              have HFX := Lib.hid hfx; clear hfx
              have k18 := note_cells L3.out.e1 18 _ rfl
              simp only [Nat.zero_add] at k18
              go_wp2_with   (first
                  | (refine wpList_load_row rfl 51 _ rfl p1 rfl 51 (noteA n sa sc) (0, 0) _ L3.out.e1 Tryz.underlying51 rfl (I43.out _ _ _) ?_)
                  | (refine wpList_load_rowG ?hw 51 _ rfl p1 rfl 51 (noteA n sa sc) (0, 0) _ L3.out.e1 Tryz.underlying51 rfl (I43.out _ _ _) ?_; case hw => rfl))

              refine (bare_any n sa sc _ (RDb.out _ L3.out.b) (0)).mono ?_
              rintro e w6 ⟨ta, tc, rfl, hrd, b6⟩
              have L6 := Lib.hid (L3.out.below b6); clear b6
              have hR : wellB f n = sameB (bareR (0) n) zeroN := by simp [wellB, HRS.out, HK.out, HRN.out, HCL.out, HDA.out, HNM.out, HRF.out, HFX.out]
              obtain ⟨N, HN⟩ : ∃ N, Hid (bareR (0) n = N) := ⟨_, Lib.hid rfl⟩
              rw [HN.out] at hrd hR
              have HRX := Lib.hid hR; clear hR
              have RD6 := Lib.hid hrd; clear hrd
              rw [HN.out]
              go_wp2_with fail
              refine (rsame_any N zeroN ta tc none 0 _ RD6.out (RdA.nil _ 1)).mono ?_
              rintro e w7 ⟨rfl, b7⟩
              have L7 := Lib.hid (L6.out.below b7); clear b7
              go_wp2_with fail
              go_ret
              rw [HRX.out]
              exact ⟨rfl, by first | exact L7.out.b | (rw [HP0.out]; exact L7.out.b)⟩
            · have hfx1 : (n.fix == 0) = false := by simp [hfx]
              have hfx2 : decide (n.fix = 0) = false := by simp [hfx]
              have HFX := Lib.hid hfx; clear hfx
              have k18 := note_cells L3.out.e1 18 _ rfl
              simp only [Nat.zero_add] at k18
              have hR : wellB f n = false := by simp [wellB, HRS.out, HK.out, HRN.out, HCL.out, HDA.out, HNM.out, HRF.out, HFX.out]
              have HRX := Lib.hid hR; clear hR
              go_wp2_with fail
              go_ret
              rw [HRX.out]
              exact ⟨rfl, by first | exact L3.out.b | (rw [HP0.out]; exact L3.out.b)⟩
set_option maxHeartbeats 20000000 in
set_option maxRecDepth 100000 in
theorem well_o (hv : f.valid = true) (hs : RdI w sa n.strokes.length sc n.strokes) (k2 : n.kind ≠ 2) (k5 : n.kind ≠ 5) (k6 : n.kind ≠ 6) :
    Calls Tryz.prog 65 #[f.val, .agg (noteA n sa sc)] w fun e w' => e = .returned (.bool (wellB f n)) ∧ Below w.heap.size w w' := by
  have I43 := Lib.hid (show ∀ (m : NoteV) (a : Option Addr) (c : Nat), (Tryz.prog.info? 51).map (·.size) = some (noteA m a c).size from fun m a c => by kernel_rfl)
  have g1 := heap_at (w.alloc (.cells #[.int .i64 f.rings, .int .i64 f.sectors, .int .i64 f.wide] 23)) (.cells (noteA n sa sc) 51) (w.heap.size + 1) (by simp)
  have g0 := heap_before (w.alloc (.cells #[.int .i64 f.rings, .int .i64 f.sectors, .int .i64 f.wide] 23)) (.cells (noteA n sa sc) 51) _ _ (heap_at w (.cells #[.int .i64 f.rings, .int .i64 f.sectors, .int .i64 f.wide] 23) _ rfl)
  have bb : Below w.heap.size w ((w.alloc (.cells #[.int .i64 f.rings, .int .i64 f.sectors, .int .i64 f.wide] 23)).alloc (.cells (noteA n sa sc) 51)) := ((Below.refl _ _).alloc (Nat.le_refl _) _).alloc (by simp) _
  have L0 : Hid (LocF w ((w.alloc (.cells #[.int .i64 f.rings, .int .i64 f.sectors, .int .i64 f.wide] 23)).alloc (.cells (noteA n sa sc) 51)) w.heap.size (w.heap.size + 1) f n sa sc) := Lib.hid ⟨g0, g1, bb, by omega⟩
  clear g0 g1 bb
  unfold FrV.val
  go_enter Tryz.func65, Tryz.ntmps65
  go_upto_region 1 with fail
  generalize hW0 : (w.alloc (.cells #[.int .i64 f.rings, .int .i64 f.sectors, .int .i64 f.wide] 23)).alloc (.cells (noteA n sa sc) 51) = W0 at *
  generalize hp0 : w.heap.size = p0 at *
  generalize hp1 : p0 + 1 = p1 at *
  have RDb := Lib.hid (show ∀ W', Below p0 w W' → RdI W' sa n.strokes.length sc n.strokes from fun W' h => hs.below (by rw [hp0]; exact h))
  have HP0 := Lib.hid hp0; clear hp0 hp1 hW0
  have HV := Lib.hid hv; clear hv
  have HK := Lib.hid (And.intro k2 (And.intro k5 k6)); clear k2 k5 k6
  have q2 : (n.kind == 2) = false := by simp [HK.out.1]
  have q2' : decide (n.kind = 2) = false := by simp [HK.out.1]
  have q5 : (n.kind == 5) = false := by simp [HK.out.2.1]
  have q5' : decide (n.kind = 5) = false := by simp [HK.out.2.1]
  have q6 : (n.kind == 6) = false := by simp [HK.out.2.2]
  have q6' : decide (n.kind = 6) = false := by simp [HK.out.2.2]
  have HRS := Lib.hid (show refersB n = false by simp [refersB, HK.out.1, HK.out.2.1, HK.out.2.2])
  go_wp2_with   (first
      | (refine wpList_load_row rfl 51 _ rfl p1 rfl 51 (noteA n sa sc) (0, 0) _ L0.out.e1 Tryz.underlying51 rfl (I43.out _ _ _) ?_)
      | (refine wpList_load_rowG ?hw 51 _ rfl p1 rfl 51 (noteA n sa sc) (0, 0) _ L0.out.e1 Tryz.underlying51 rfl (I43.out _ _ _) ?_; case hw => rfl))
  refine (rNameOf_any n sa sc _).mono ?_
  rintro e w1 ⟨rfl, b1⟩
  have L1 := Lib.hid (L0.out.below b1); clear b1
  go_wp2_with fail
  refine (rrightName_any n.house n.num _).mono ?_
  rintro e w2 ⟨rfl, b2⟩
  have L2 := Lib.hid (L1.out.below b2); clear b2
  cases hrn : rightNameB n.house n.num
  · have hR : wellB f n = false := by simp [wellB, HRS.out, HK.out.2.1, HK.out.2.2, hrn]
    have HRX := Lib.hid hR; clear hR
    go_wp2_with fail
    go_ret
    rw [HRX.out]
    exact ⟨rfl, by first | exact L2.out.b | (rw [HP0.out]; exact L2.out.b)⟩
  · have HRN := Lib.hid hrn; clear hrn
    have k2 := note_cells L2.out.e1 2 _ rfl
    simp only [Nat.zero_add] at k2
    have k3 := note_cells L2.out.e1 3 _ rfl
    simp only [Nat.zero_add] at k3
    have k4 := note_cells L2.out.e1 4 _ rfl
    simp only [Nat.zero_add] at k4
    have k16 := note_cells L2.out.e1 16 _ rfl
    simp only [Nat.zero_add] at k16
    have k17 := note_cells L2.out.e1 17 _ rfl
    simp only [Nat.zero_add] at k17
    go_wp2_with fail
    refine (rin_any n.clock 1 1099511627776 _).mono ?_
    rintro e w' ⟨rfl, rfl⟩
    cases hcl : inB n.clock 1 1099511627776
    · have hR : wellB f n = false := by simp [wellB, HRS.out, HK.out.2.1, HK.out.2.2, HRN.out, hcl]
      have HRX := Lib.hid hR; clear hR
      go_wp2_with fail
      go_ret
      rw [HRX.out]
      exact ⟨rfl, by first | exact L2.out.b | (rw [HP0.out]; exact L2.out.b)⟩
    · have HCL := Lib.hid hcl; clear hcl
      go_wp2_with fail
      refine (rin_any n.day 0 99999 _).mono ?_
      rintro e w' ⟨rfl, rfl⟩
      cases hda : inB n.day 0 99999
      · have hR : wellB f n = false := by simp [wellB, HRS.out, HK.out.2.1, HK.out.2.2, HRN.out, HCL.out, hda]
        have HRX := Lib.hid hR; clear hR
        go_wp2_with fail
        go_ret
        rw [HRX.out]
        exact ⟨rfl, by first | exact L2.out.b | (rw [HP0.out]; exact L2.out.b)⟩
      · have HDA := Lib.hid hda; clear hda
        by_cases h16 : n.refH = 0
        · by_cases h17 : n.refN = 0
          · have r16 : (n.refH == 0) = true := by simp [h16]
            have r16' : decide (n.refH = 0) = true := by simp [h16]
            have r17 : (n.refN == 0) = true := by simp [h17]
            have r17' : decide (n.refN = 0) = true := by simp [h17]
            have HNM := Lib.hid (show namedB n = false by simp [namedB, h16, h17])
            clear h16 h17
            by_cases hfx : n.fix = 0
            · have hfx1 : (n.fix == 0) = true := by simp [hfx]
              have hfx2 : decide (n.fix = 0) = true := by simp [hfx]
              have HFX := Lib.hid hfx; clear hfx
              have k18 := note_cells L2.out.e1 18 _ rfl
              simp only [Nat.zero_add] at k18
              have c0 := frame_cells L2.out.e0 0 _ rfl
              have c1 := frame_cells L2.out.e0 1 _ rfl
              have c2 := frame_cells L2.out.e0 2 _ rfl
              go_wp2_with   (first
                  | (refine wpList_load_row rfl 51 _ rfl p1 rfl 51 (noteA n sa sc) (0, 0) _ L2.out.e1 Tryz.underlying51 rfl (I43.out _ _ _) ?_)
                  | (refine wpList_load_rowG ?hw 51 _ rfl p1 rfl 51 (noteA n sa sc) (0, 0) _ L2.out.e1 Tryz.underlying51 rfl (I43.out _ _ _) ?_; case hw => rfl))

              refine (right_any f n sa sc _ HV.out (RDb.out _ L2.out.b) (n.kind)).mono ?_
              rintro e w5 ⟨rfl, b5⟩
              have L5 := Lib.hid (L2.out.below b5); clear b5
              cases hr : rightB f (n.kind) n
              · have hR : wellB f n = false := by simp [wellB, HRS.out, HK.out.2.1, HK.out.2.2, HRN.out, HCL.out, HDA.out, HNM.out, HFX.out, hr]
                have HRX := Lib.hid hR; clear hR
                go_wp2_with fail
                go_ret
                rw [HRX.out]
                exact ⟨rfl, by first | exact L5.out.b | (rw [HP0.out]; exact L5.out.b)⟩
              · have HRR := Lib.hid hr; clear hr
                go_wp2_with   (first
                    | (refine wpList_load_row rfl 51 _ rfl p1 rfl 51 (noteA n sa sc) (0, 0) _ L5.out.e1 Tryz.underlying51 rfl (I43.out _ _ _) ?_)
                    | (refine wpList_load_rowG ?hw 51 _ rfl p1 rfl 51 (noteA n sa sc) (0, 0) _ L5.out.e1 Tryz.underlying51 rfl (I43.out _ _ _) ?_; case hw => rfl))

                refine (bare_any n sa sc _ (RDb.out _ L5.out.b) (n.kind)).mono ?_
                rintro e w6 ⟨ta, tc, rfl, hrd, b6⟩
                have L6 := Lib.hid (L5.out.below b6); clear b6
                have hR : wellB f n = sameB (bareR (n.kind) n) zeroN := by simp [wellB, HRS.out, HK.out.2.1, HK.out.2.2, HRN.out, HCL.out, HDA.out, HNM.out, HFX.out, HRR.out]
                obtain ⟨N, HN⟩ : ∃ N, Hid (bareR (n.kind) n = N) := ⟨_, Lib.hid rfl⟩
                rw [HN.out] at hrd hR
                have HRX := Lib.hid hR; clear hR
                have RD6 := Lib.hid hrd; clear hrd
                rw [HN.out]
                go_wp2_with fail
                refine (rsame_any N zeroN ta tc none 0 _ RD6.out (RdA.nil _ 1)).mono ?_
                rintro e w7 ⟨rfl, b7⟩
                have L7 := Lib.hid (L6.out.below b7); clear b7
                go_wp2_with fail
                go_ret
                rw [HRX.out]
                exact ⟨rfl, by first | exact L7.out.b | (rw [HP0.out]; exact L7.out.b)⟩
            · have hfx1 : (n.fix == 0) = false := by simp [hfx]
              have hfx2 : decide (n.fix = 0) = false := by simp [hfx]
              have HFX := Lib.hid hfx; clear hfx
              have k18 := note_cells L2.out.e1 18 _ rfl
              simp only [Nat.zero_add] at k18
              have hR : wellB f n = false := by simp [wellB, HRS.out, HK.out.2.1, HK.out.2.2, HRN.out, HCL.out, HDA.out, HNM.out, HFX.out]
              have HRX := Lib.hid hR; clear hR
              go_wp2_with fail
              go_ret
              rw [HRX.out]
              exact ⟨rfl, by first | exact L2.out.b | (rw [HP0.out]; exact L2.out.b)⟩
          · have r16 : (n.refH == 0) = true := by simp [h16]
            have r16' : decide (n.refH = 0) = true := by simp [h16]
            have r17 : (n.refN == 0) = false := by simp [h17]
            have r17' : decide (n.refN = 0) = false := by simp [h17]
            have HNM := Lib.hid (show namedB n = true by simp [namedB, h16, h17])
            clear h16 h17
            have hR : wellB f n = false := by simp [wellB, HRS.out, HK.out.2.1, HK.out.2.2, HRN.out, HCL.out, HDA.out, HNM.out]
            have HRX := Lib.hid hR; clear hR
            go_wp2_with fail
            go_ret
            rw [HRX.out]
            exact ⟨rfl, by first | exact L2.out.b | (rw [HP0.out]; exact L2.out.b)⟩
        · have r16 : (n.refH == 0) = false := by simp [h16]
          have r16' : decide (n.refH = 0) = false := by simp [h16]
          have HNM := Lib.hid (show namedB n = true by simp [namedB, h16])
          clear h16
          have hR : wellB f n = false := by simp [wellB, HRS.out, HK.out.2.1, HK.out.2.2, HRN.out, HCL.out, HDA.out, HNM.out]
          have HRX := Lib.hid hR; clear hR
          go_wp2_with fail
          go_ret
          rw [HRX.out]
          exact ⟨rfl, by first | exact L2.out.b | (rw [HP0.out]; exact L2.out.b)⟩
theorem well_any (hv : f.valid = true) (hs : RdI w sa n.strokes.length sc n.strokes) :
    Calls Tryz.prog 65 #[f.val, .agg (noteA n sa sc)] w fun e w' => e = .returned (.bool (wellB f n)) ∧ Below w.heap.size w w' := by
  by_cases k2 : n.kind = 2
  · exact well_2 f n sa sc w hv hs k2
  by_cases k5 : n.kind = 5
  · exact well_5 f n sa sc w hv hs k5
  by_cases k6 : n.kind = 6
  · exact well_6 f n sa sc w hv hs k6
  exact well_o f n sa sc w hv hs k2 k5 k6
end
end Go.Proofs.YtpjiakgfegnmcaaGreat
namespace Go.Proofs.YtpjiakgfegnmcaaGreat
set_option linter.unusedSimpArgs false
open Go.RowKit

/-- An event at a place among all, as the reference has it. -/
def rgoodE (f : FrV) (hn k : Nat) (e : EvV) : Bool := formedB f e.x.n && (decide (e.x.nm = e.nm) && (doneB e.x.n && (e.x.n.kind == 1) == decide ((k : Int) < (hn : Int))))
/-- What is wrong at a place k of all: itself, an earlier one of its name, no heap of its pass. -/
def rstep (f : FrV) (hs : List EvV) (hn : Nat) (all : List EvV) (k : Nat) (e : EvV) : Bool := rgoodE f hn k e && (!decide (e.nm ∈ (all.take k).map EvV.nm) && !(e.x.n.kind == 2 && decide (idxI hs (isNm e.x.n.refH e.x.n.refN) < 0)))
theorem goodAll_iff {f : FrV} : ∀ (l : List EvV) (ks : List Nm), goodAll f ks l = true ↔ ∀ k e, l[k]? = some e → goodE f (ks ++ (l.take k).map EvV.nm) e = true
  | [], ks => by simp [goodAll]
  | x :: l, ks => by
    rw [goodAll, Bool.and_eq_true, goodAll_iff l]
    constructor
    · rintro ⟨h1, h2⟩ k e he
      cases k with
      | zero => simp at he; subst he; simpa using h1
      | succ k =>
        have := h2 k e (by simpa using he)
        rw [List.append_assoc] at this
        simpa using this
    · intro h
      refine ⟨by simpa using h 0 x rfl, fun k e he => ?_⟩
      have := h (k + 1) e (by simpa using he)
      rw [List.append_assoc]
      simpa using this
/-- The reference's test and the program's are one. -/
theorem right_eq {f : FrV} {hs es : List EvV} (h8 : hs.length ≤ 8) (h4 : es.length ≤ 400) : (∀ k e, (hs ++ es)[k]? = some e → rstep f hs hs.length (hs ++ es) k e = true) ↔ regOkB f hs es = true := by
  have hkind : ∀ e : EvV, doneB e.x.n = true → True := fun _ _ => trivial
  simp only [regOkB, Bool.and_eq_true, decide_eq_true_eq, goodAll_iff, List.nil_append]
  constructor
  · intro h
    refine ⟨h8, h4, fun k e he => ?_, ?_, ?_⟩
    · have := h k e he
      simp only [rstep, rgoodE, Bool.and_eq_true] at this
      obtain ⟨⟨h1, h2, h3, h5⟩, h6, h7⟩ := this
      simp only [goodE, Bool.and_eq_true]
      exact ⟨h3, h1, h2, h6⟩
    · rw [List.all_eq_true]
      intro e he
      obtain ⟨k, hk⟩ := List.getElem?_of_mem he
      have hlt := (List.getElem?_eq_some_iff.1 hk).1
      have := h k e (by rw [List.getElem?_append_left hlt]; exact hk)
      simp only [rstep, rgoodE, Bool.and_eq_true] at this
      have h5 := this.1.2.2.2
      rw [beq_iff_eq] at h5
      rw [h5]
      simp; omega
    · rw [Bool.not_eq_true', List.any_eq_false]
      intro e he hb
      obtain ⟨k, hk⟩ := List.getElem?_of_mem he
      have := h (hs.length + k) e (by rw [List.getElem?_append_right (by omega), Nat.add_sub_cancel_left]; exact hk)
      simp only [rstep, rgoodE, Bool.and_eq_true] at this
      have h5 := this.1.2.2.2
      have h7 := this.2.2
      rw [beq_iff_eq] at h5
      have h8 : decide (((hs.length + k : Nat) : Int) < (hs.length : Int)) = false := by simp; omega
      rw [h8] at h5
      simp only [badE, Bool.or_eq_true] at hb
      rcases hb with hb | hb
      · rw [hb] at h5; cases h5
      · rw [hb] at h7; cases h7
  · rintro ⟨_, _, h1, h2, h3⟩ k e he
    have hg := h1 k e he
    simp only [goodE, Bool.and_eq_true] at hg
    rw [List.all_eq_true] at h2
    rw [Bool.not_eq_true', List.any_eq_false] at h3
    simp only [rstep, rgoodE, Bool.and_eq_true]
    rcases Nat.lt_or_ge k hs.length with hlt | hge
    · rw [List.getElem?_append_left hlt] at he
      have hk1 := h2 e (List.mem_of_getElem? he)
      refine ⟨⟨hg.2.1, hg.2.2.1, hg.1, ?_⟩, hg.2.2.2, ?_⟩
      · rw [hk1]
        have : decide ((k : Int) < (hs.length : Int)) = true := by simp; omega
        rw [this]; rfl
      · rw [beq_iff_eq] at hk1
        rw [hk1]; rfl
    · rw [List.getElem?_append_right hge] at he
      have hb := h3 e (List.mem_of_getElem? he)
      simp only [badE, Bool.or_eq_true, not_or] at hb
      refine ⟨⟨hg.2.1, hg.2.2.1, hg.1, ?_⟩, hg.2.2.2, ?_⟩
      · have h9 : (e.x.n.kind == 1) = false := by simpa using hb.1
        have : decide ((k : Int) < (hs.length : Int)) = false := by simp; omega
        rw [this, h9]; rfl
      · have := hb.2
        cases hq : (e.x.n.kind == 2 && decide (idxI hs (isNm e.x.n.refH e.x.n.refN) < 0)) with
        | true => exact absurd hq this
        | false => rfl
theorem right_bad {f : FrV} {hs es : List EvV} {k : Nat} {e : EvV} (he : (hs ++ es)[k]? = some e) (h : rstep f hs hs.length (hs ++ es) k e = false) : regOkB f hs es = false := by
  rw [← Bool.not_eq_true]
  intro hr
  have h8 : hs.length ≤ 8 := by simp only [regOkB, Bool.and_eq_true, decide_eq_true_eq] at hr; exact hr.1
  have h4 : es.length ≤ 400 := by simp only [regOkB, Bool.and_eq_true, decide_eq_true_eq] at hr; exact hr.2.1
  have := (right_eq h8 h4).2 hr k e he
  rw [h] at this
  cases this

set_option maxRecDepth 100000 in
theorem plain_any (n : NoteV) (sa : Option Addr) (sc : Nat) (w : World) : Calls Tryz.prog 80 #[.agg (noteA n sa sc)] w fun e w' => e = .returned (.bool (doneB n)) ∧ Below w.heap.size w w' := by
  have hb := (Below.refl w.heap.size w).alloc (Nat.le_refl _) (.cells (noteA n sa sc) 51)
  have c4 := cell_of (heap_last w (.cells (noteA n sa sc) 51)) 4 (.int .i64 n.kind) rfl
  have BB := Lib.hid hb; clear hb
  have hd : doneB n = (decide (1 ≤ n.kind) && decide (n.kind ≤ 4)) := rfl
  cases h1 : decide (1 ≤ n.kind)
  · rw [h1] at hd
    have HD := Lib.hid hd; clear hd
    go_enter Tryz.func80, Tryz.ntmps80
    go_wp2_with fail
    go_ret
    exact ⟨by rw [HD.out]; rfl, BB.out⟩
  · cases h2 : decide (n.kind ≤ 4)
    · rw [h1, h2] at hd
      have HD := Lib.hid hd; clear hd
      go_enter Tryz.func80, Tryz.ntmps80
      go_wp2_with fail
      go_ret
      exact ⟨by rw [HD.out]; rfl, BB.out⟩
    · rw [h1, h2] at hd
      have HD := Lib.hid hd; clear hd
      go_enter Tryz.func80, Tryz.ntmps80
      go_wp2_with fail
      go_ret
      exact ⟨by rw [HD.out]; rfl, BB.out⟩

set_option maxHeartbeats 16000000 in
set_option maxRecDepth 100000 in
theorem rright_any (f : FrV) (hs es : List EvV) (ha : Option Addr) (hn hc : Nat) (ea : Option Addr) (en ec : Nat) (v3 : Value) (w : World) (hv : f.valid = true)
    (h1 : RdA w 21 ha hn hc (evCells hs)) (h2 : RdA w 21 ea en ec (evCells es)) (hok : ∀ e ∈ hs ++ es, e.x.ok w) :
    Calls Tryz.prog 60 #[f.val, .agg #[.slice ha hn hc, .slice ea en ec, v3]] w fun e w' => e = .returned (.bool (regOkB f hs es)) ∧ Below w.heap.size w w' := by
  have hvl : f.val = .agg #[.int .i64 f.rings, .int .i64 f.sectors, .int .i64 f.wide] := rfl
  have WELL := Lib.hid (fun (x : NoteV) sa sc (W : World) (hs : RdI W sa x.strokes.length sc x.strokes) => formed_well hv x ▸ well_any f x sa sc W hv hs)
  rw [hvl] at WELL ⊢; clear hvl
  have I43 := Lib.hid (show ∀ (m : NoteV) (a : Option Addr) (c : Nat), (Tryz.prog.info? 51).map (·.size) = some (noteA m a c).size from fun m a c => by kernel_rfl)
  have J21 : (Tryz.prog.info? 53).map (·.size) = some 21 := by kernel_rfl
  have LH : Hid (hs.length = hn) := Lib.hid (by have := h1.len; rw [evCells_len] at this; omega)
  have LE : Hid (es.length = en) := Lib.hid (by have := h2.len; rw [evCells_len] at this; omega)
  have B0 := Lib.hid (((Below.refl w.heap.size w).alloc (Nat.le_refl _) (.cells #[.int .i64 f.rings, .int .i64 f.sectors, .int .i64 f.wide] 23)).alloc (by simp) (.cells #[.slice ha hn hc, .slice ea en ec, v3] 27))
  have F0 := Lib.hid (heap_before _ (.cells #[.slice ha hn hc, .slice ea en ec, v3] 27) _ _ (heap_last w (.cells #[.int .i64 f.rings, .int .i64 f.sectors, .int .i64 f.wide] 23)))
  have P0 := Lib.hid (heap_at (w.alloc (.cells #[.int .i64 f.rings, .int .i64 f.sectors, .int .i64 f.wide] 23)) (.cells #[.slice ha hn hc, .slice ea en ec, v3] 27) (w.heap.size + 1) (by simp))
  have R1 := Lib.hid (h1.below B0.out)
  have R2 := Lib.hid (h2.below B0.out)
  have OK := Lib.hid (evs_ok hok B0.out)
  clear h1 h2 hok hv
  go_enter Tryz.func60, Tryz.ntmps60
  go_upto_region 1 with fail
  obtain ⟨pF, hpF⟩ : ∃ pF, Hid (w.heap.size = pF) := ⟨_, Lib.hid rfl⟩
  obtain ⟨pR, hpR⟩ : ∃ pR, Hid (w.heap.size + 1 = pR) := ⟨_, Lib.hid rfl⟩
  rw [hpR.out, hpF.out]
  rw [hpF.out] at F0
  rw [hpR.out] at P0
  generalize (w.alloc (.cells #[.int .i64 f.rings, .int .i64 f.sectors, .int .i64 f.wide] 23)).alloc (.cells #[.slice ha hn hc, .slice ea en ec, v3] 27) = W1 at *
  have c0 := cell_of P0.out 0 (.slice ha hn hc) rfl
  have c1 := cell_of P0.out 1 (.slice ea en ec) rfl
  by_cases h8 : hn ≤ 8
  · have t8 : decide ((8 : Int) < (hn : Int)) = false := by simp; omega
    by_cases h4 : en ≤ 400
    · have t4 : decide ((400 : Int) < (en : Int)) = false := by simp; omega
      have HNE := Lib.hid (And.intro h8 h4); clear h8 h4
      obtain ⟨N, hN⟩ : ∃ N, Hid (hn + en = N) := ⟨_, Lib.hid rfl⟩
      go_upto_region 3 with fail
      clear t8 t4 c0 c1
      refine wp_region_noPanic ?_
      refine wp_region_held_drew (S := fun w' => w'.heap[pR]? = some (.cells #[.slice ha hn hc, .slice ea en ec, v3] 27 (0, 0))) (by kernel_rfl) (show W1.drew.heap[pR]? = _ from P0.out) (fun hHeld => ?_)
      refine wpAnyH_take (i := 1) (v := .pointer (some ⟨pR, 0, none⟩)) rfl (by kernel_rfl) (by kernel_rfl) (by kernel_rfl) (fun _ _ _ h => h) (Or.inl ⟨by kernel_rfl, by intro W _; go_simp⟩) (by assumption) ?_
      try simp only [Act.put, List.getElem_toArray, List.getElem_cons_succ, List.getElem_cons_zero, List.setIfInBounds_toArray, List.set_cons_zero, List.set_cons_succ]
      refine wpAnyH_take (i := 2) (v := .slice ha hn hc) rfl (by kernel_rfl) (by kernel_rfl) (by kernel_rfl) (fun _ _ _ h => h) (Or.inl ⟨by kernel_rfl, by intro W h; have h0 := cell_of h 0 (.slice ha hn hc) rfl; go_simp⟩) (by assumption) ?_
      try simp only [Act.put, List.getElem_toArray, List.getElem_cons_succ, List.getElem_cons_zero, List.setIfInBounds_toArray, List.set_cons_zero, List.set_cons_succ]
      refine wpAnyH_take (i := 4) (v := .pointer (some ⟨pR, 1, none⟩)) rfl (by kernel_rfl) (by kernel_rfl) (by kernel_rfl) (fun _ _ _ h => h) (Or.inl ⟨by kernel_rfl, by intro W _; go_simp⟩) (by assumption) ?_
      try simp only [Act.put, List.getElem_toArray, List.getElem_cons_succ, List.getElem_cons_zero, List.setIfInBounds_toArray, List.set_cons_zero, List.set_cons_succ]
      refine wpAnyH_take (i := 5) (v := .slice ea en ec) rfl (by kernel_rfl) (by kernel_rfl) (by kernel_rfl) (fun _ _ _ h => h) (Or.inl ⟨by kernel_rfl, by intro W h; have h0 := cell_of h 1 (.slice ea en ec) rfl; go_simp⟩) (by assumption) ?_
      try simp only [Act.put, List.getElem_toArray, List.getElem_cons_succ, List.getElem_cons_zero, List.setIfInBounds_toArray, List.set_cons_zero, List.set_cons_succ]
      refine wpAnyH_ready (rs := [0]) (by kernel_rfl) (by simp) ?_
      refine AllReadyH.cons rfl (fun K hK => ?_) AllReadyH.nil
      go_simp
      have hbe : Below W1.heap.size W1 (W1.alloc (.cells #[] 53)) := (Below.refl W1.heap.size W1).alloc (Nat.le_refl _) _
      have o0 := World.ownsRow_lit (base := W1.heap.size) (e := 53) (size := 21) W1 #[] 0 (Nat.le_refl _) (by unfold maxLen; omega) rfl
      have O0 := Lib.hid (own_below o0 ((Below.refl (W1.alloc (.cells #[] 53)).heap.size _).drew))
      have BE := Lib.hid hbe.drew
      clear o0 hbe
      generalize (W1.alloc (.cells #[] 53)).drew = V1 at *
      refine hK.out _ _ (below_blk BE.out P0.out) (fun hHeld => ?_)
      clear hK K
      try simp only [Act.put, List.getElem_toArray, List.getElem_cons_succ, List.getElem_cons_zero, List.setIfInBounds_toArray, List.set_cons_zero, List.set_cons_succ]
      refine wpAnyH_ready (rs := [3]) (by kernel_rfl) (by simp) ?_
      refine AllReadyH.cons rfl (fun K hK => ?_) AllReadyH.nil
      obtain ⟨a1, c1, v2, hrun, ho, hg, _⟩ := run_app_ev V1 W1.heap.size _ 0 0 _ O0.out ha hn hc _ (R1.out.below BE.out) (evCells_one hs) (by have := HNE.out; omega) BE.out.size
      have O1 := Lib.hid ho
      have BE2 := Lib.hid (BE.out.grown hg BE.out.size (fun k hk => (O0.out.lt k hk).1))
      clear ho hg
      rw [if_pos (by kernel_rfl)]
      refine oper_append _ _ _ rfl _ _ _ rfl rfl hrun ?_
      clear hrun
      refine hK.out _ _ (below_blk BE2.out P0.out) (fun hHeld => ?_)
      clear hK K
      try simp only [Act.put, List.getElem_toArray, List.getElem_cons_succ, List.getElem_cons_zero, List.setIfInBounds_toArray, List.set_cons_zero, List.set_cons_succ]
      refine wpAnyH_ready (rs := [6]) (by kernel_rfl) (by simp) ?_
      refine AllReadyH.cons rfl (fun K hK => ?_) AllReadyH.nil
      obtain ⟨a, c, w3, hrun, ho, hg, _⟩ := run_app_ev v2 W1.heap.size _ _ _ _ O1.out ea en ec _ (R2.out.below BE2.out) (evCells_one es) (by have := HNE.out; omega) BE2.out.size
      have HB3 := Lib.hid (BE2.out.grown hg BE2.out.size (fun k hk => (O1.out.lt k hk).1))
      have O3 : Hid (w3.ownsRow W1.heap.size 53 21 (.slice a N c) N (evCells (hs ++ es))) := Lib.hid (by rw [← hN.out, evCells_append]; have := ho; rwa [List.nil_append, Nat.zero_add] at this)
      clear ho hg
      rw [if_pos (by kernel_rfl)]
      refine oper_append _ _ _ rfl _ _ _ rfl rfl hrun ?_
      clear hrun
      rw [Nat.zero_add, hN.out]
      refine hK.out _ _ (below_blk HB3.out P0.out) (fun hHeld => ?_)
      clear hK K
      try simp only [Act.put, List.getElem_toArray, List.getElem_cons_succ, List.getElem_cons_zero, List.setIfInBounds_toArray, List.set_cons_zero, List.set_cons_succ]
      refine wpAnyH_take (i := 7) (v := .slice a N c) rfl (by kernel_rfl) (by kernel_rfl) (by kernel_rfl) (fun _ _ _ h => h) (Or.inl ⟨by kernel_rfl, by intro W _; go_simp⟩) (by assumption) ?_
      try simp only [Act.put, List.getElem_toArray, List.getElem_cons_succ, List.getElem_cons_zero, List.setIfInBounds_toArray, List.set_cons_zero, List.set_cons_succ]
      refine wpAnyH_done (by kernel_rfl) ?_ _
      refine NoPanic.normal ?_
      have E3 := Lib.hid (RdEs.of_rd (RdA.of_own O3.out))
      have P3 := Lib.hid (below_blk HB3.out P0.out)
      have F3 := Lib.hid (below_blk HB3.out F0.out)
      have H3 := Lib.hid (RdEs.of_rd (R1.out.below HB3.out))
      have OK3 := Lib.hid (evs_ok OK.out HB3.out)
      have B3 := Lib.hid (B0.out.trans (HB3.out.mono B0.out.size))
      clear BE BE2 O0 O1 O3 HB3 P0 F0 R1 R2 OK B0
      obtain ⟨all, hall⟩ : ∃ all, Hid (hs ++ es = all) := ⟨_, Lib.hid rfl⟩
      rw [hall.out] at E3 OK3
      have HN : Hid (N ≤ 408) := Lib.hid (by rw [← hN.out]; have := HNE.out; omega)
      have GB : Hid (∀ (k : Nat) x, all[k]? = some x → rstep f hs hn all k x = false → regOkB f hs es = false) := Lib.hid (fun k x hx hg => right_bad (k := k) (e := x) (by rw [hall.out]; exact hx) (by rw [hall.out, LH.out]; exact hg))
      have GG : Hid ((∀ (k : Nat) x, all[k]? = some x → rstep f hs hn all k x = true) → regOkB f hs es = true) := Lib.hid (fun h => (right_eq (by have := LH.out; have := HNE.out; omega) (by have := LE.out; have := HNE.out; omega)).1 (by rw [hall.out, LH.out]; exact h))
      go_wp2_with fail
      go_loopw [6, 8] (fun i _ wr => ∃ k : Nat, i = .int .i64 k ∧ k ≤ N ∧ Hid (Below w3.heap.size w3 wr) ∧ Hid (∀ j y, j < k → all[j]? = some y → rstep f hs hn all j y = true)) (fun i _ _ => N - (intOf i).toNat)
      case atStart => exact ⟨0, rfl, Nat.zero_le _, Lib.hid (Below.refl _ _), Lib.hid (fun j y h => by omega)⟩
      case round =>
        obtain ⟨k, rfl, hk, HS, HA⟩ := hrel
        by_cases hlt : k < N
        · have t0 : decide ((k : Int) < (N : Int)) = true := by simp; omega
          obtain ⟨x, Hx⟩ : ∃ x, all[k]? = some x := ⟨all[k]'(by rw [E3.out.1]; exact hlt), List.getElem?_eq_getElem (by rw [E3.out.1]; exact hlt)⟩
          have HX := Lib.hid Hx
          obtain ⟨b, off, ha0, hat⟩ := (E3.out.below HS.out).at (by omega)
          subst ha0
          have HAT := Lib.hid hat
          obtain ⟨o, ho⟩ : ∃ o, Hid (off + k * 21 = o) := ⟨_, Lib.hid rfl⟩
          have HRA : Hid (wr.rangeAt b o x.cells) := Lib.hid (by rw [← ho.out]; exact hat k x Hx)
          have HRN : Hid (wr.rangeAt b (o + 2) (x.x.n.cells x.x.sa x.x.sc)) := Lib.hid (fun j v hv => by
            have := HRA.out (2 + j) v (by rw [EvV.cells, List.getElem?_append_right (by simp)]; simpa using hv)
            rwa [← Nat.add_assoc] at this)
          have HIX := Lib.hid (fun W => idx_off (W := W) (c := c) (b := b) Tryz.underlying24 J21 hlt ho.out)
          have hix := HIX.out
          have HOK := Lib.hid ((OK3.out x (List.mem_of_getElem? Hx)).below HS.out)
          clear hat Hx
          go_upto_region 8 with (first
            | (refine wpList_load_mid rfl 51 _ rfl b (o + 2) rfl (x.x.n.cells x.x.sa x.x.sc) _ HRN.out Tryz.underlying51 rfl (size43 x.x.n x.x.sa x.x.sc) ?_)
            | (refine wpList_store_newp _ rfl 51 _ _ rfl _ rfl _ (noteA x.x.n x.x.sa x.x.sc) rfl rfl (I43.out _ _ _) rfl (noteA_one _ _ _) ?_)
            | fail)
          try simp only [Act.put, List.setIfInBounds_toArray, List.set_cons_zero, List.set_cons_succ]
          clear hix t0
          have hbt : Below wr.heap.size wr (wr.alloc (.cells (noteA x.x.n x.x.sa x.x.sc) 51)) := (Below.refl _ _).alloc (Nat.le_refl _) _
          have XT := Lib.hid (heap_last wr (.cells (noteA x.x.n x.x.sa x.x.sc) 51))
          have S7 := Lib.hid (HS.out.trans (hbt.mono HS.out.size))
          have OT := Lib.hid (HOK.out.below hbt)
          have RT := Lib.hid (rangeAt_below HRA.out hbt)
          clear hbt HRA HRN HOK HS
          obtain ⟨p7, hp7⟩ : ∃ p7, Hid (wr.heap.size = p7) := ⟨_, Lib.hid rfl⟩
          rw [hp7.out] at XT ⊢
          generalize hwt : wr.alloc (.cells (noteA x.x.n x.x.sa x.x.sc) 51) = wt at *
          have HWT : Hid (Below wr.heap.size wr wt) := Lib.hid (by rw [← hwt]; exact (Below.refl _ _).alloc (Nat.le_refl _) _)
          clear hwt
          have hC0 : Below wt.heap.size wt wt.drew := (Below.refl _ _).drew
          have LX := Lib.hid (show ∀ w0, Below wt.heap.size wt w0 → w0.heap[p7]? = some (.cells (noteA x.x.n x.x.sa x.x.sc) 51 (0, 0)) from fun w0 h => below_blk h XT.out)
          have LF := Lib.hid (show ∀ w0, Below wt.heap.size wt w0 → w0.heap[pF]? = some (.cells #[.int .i64 f.rings, .int .i64 f.sectors, .int .i64 f.wide] 23 (0, 0)) from fun w0 h => below_blk (S7.out.trans (h.mono S7.out.size)) F3.out)
          have LR := Lib.hid (show ∀ w0, Below wt.heap.size wt w0 → w0.heap[pR]? = some (.cells #[.slice ha hn hc, .slice ea en ec, v3] 27 (0, 0)) from fun w0 h => below_blk (S7.out.trans (h.mono S7.out.size)) P3.out)
          have LE' := Lib.hid (show ∀ w0, Below wt.heap.size wt w0 → w0.rangeAt b o x.cells from fun w0 h => rangeAt_below RT.out h)
          have GBX := Lib.hid (GB.out k x HX.out)
          have hk64 : (k : Int) + 1 ≤ 9223372036854775807 := by have := HN.out; omega
          obtain ⟨ks, hks⟩ : ∃ ks, Hid ((all.take k).map EvV.nm = ks) := ⟨_, Lib.hid rfl⟩
          refine wp_region_quiet (C := fun w' : World => Below wt.heap.size wt w') (by kernel_rfl) (by kernel_rfl) hC0 ?_
          show wpQuiet _ _ _ _ (_ :: _) _
          go_big_quiet_want
          refine ⟨.agg #[.int .i64 f.rings, .int .i64 f.sectors, .int .i64 f.wide], fun w0 hC => ?_, ?_⟩
          · have c0 := cell_of (LF.out w0 hC) 0 (.int .i64 f.rings) rfl
            have c1 := cell_of (LF.out w0 hC) 1 (.int .i64 f.sectors) rfl
            have c2 := cell_of (LF.out w0 hC) 2 (.int .i64 f.wide) rfl
            clear hC
            go_simp
          simp only [Act.put, List.setIfInBounds_toArray, List.set_cons_zero, List.set_cons_succ]
          go_big_quiet_on
          go_big_quiet_want
          refine ⟨.agg (noteA x.x.n x.x.sa x.x.sc), fun w0 hC => quiet_load43 (.tmp 7) rfl p7 rfl x.x.n x.x.sa x.x.sc (LX.out w0 hC), ?_⟩
          simp only [Act.put, List.setIfInBounds_toArray, List.set_cons_zero, List.set_cons_succ]
          go_big_quiet_on
          go_big_quiet_want
          refine ⟨.bool (formedB f x.x.n), fun w0 hC => ?_, ?_⟩
          · go_simp
            refine (WELL.out x.x.n x.x.sa x.x.sc w0 (OT.out.below hC)).mono ?_
            rintro e w1 ⟨rfl, b1⟩
            exact ⟨rfl, hC.trans (b1.mono hC.size)⟩
          simp only [Act.put, List.setIfInBounds_toArray, List.set_cons_zero, List.set_cons_succ]
          go_big_quiet_on
          cases hf : formedB f x.x.n
          · have GR := Lib.hid (GBX.out (by simp [rstep, rgoodE, hf]))
            go_big_quiet_want
            refine ⟨.bool true, fun w0 hC => ?_, ?_⟩
            · clear hC
              go_simp
            simp only [Act.put, List.setIfInBounds_toArray, List.set_cons_zero, List.set_cons_succ]
            go_big_quiet_on
            go_big_quiet_want
            go_big_quiet_op
            go_big_quiet_on
            go_big_quiet_skip
            go_big_quiet_skip
            go_big_quiet_skip
            go_big_quiet_skip
            go_big_quiet_skip
            go_big_quiet_skip
            go_big_quiet_skip
            go_big_quiet_skip
            go_big_quiet_want
            refine ⟨.bool true, fun w0 hC => ?_, ?_⟩
            · clear hC
              go_simp
            simp only [Act.put, List.setIfInBounds_toArray, List.set_cons_zero, List.set_cons_succ]
            go_big_quiet_on
            go_big_quiet_want
            go_big_quiet_op
            go_big_quiet_on
            go_big_quiet_skip
            go_big_quiet_skip
            go_big_quiet_skip
            go_big_quiet_want
            refine ⟨.bool true, fun w0 hC => ?_, ?_⟩
            · clear hC
              go_simp
            simp only [Act.put, List.setIfInBounds_toArray, List.set_cons_zero, List.set_cons_succ]
            go_big_quiet_on
            go_big_quiet_want
            go_big_quiet_op
            go_big_quiet_on
            go_big_quiet_skip
            go_big_quiet_skip
            go_big_quiet_skip
            go_big_quiet_skip
            go_big_quiet_skip
            go_big_quiet_skip
            go_big_quiet_skip
            go_big_quiet_skip
            go_big_quiet_skip
            go_big_quiet_want
            refine ⟨.bool true, fun w0 hC => ?_, ?_⟩
            · clear hC
              go_simp
            simp only [Act.put, List.setIfInBounds_toArray, List.set_cons_zero, List.set_cons_succ]
            go_big_quiet_on
            refine wpQuiet_nil ?_
            intro w' hC
            have BF := Lib.hid (S7.out.trans (hC.mono S7.out.size))
            clear hC
            go_wp2_with fail
            go_ret
            exact ⟨by rw [GR.out]; rfl, B3.out.trans (BF.out.mono B3.out.size)⟩
          · have HF := Lib.hid hf; clear hf
            go_big_quiet_want
            refine ⟨.bool false, fun w0 hC => ?_, ?_⟩
            · clear hC
              go_simp
            simp only [Act.put, List.setIfInBounds_toArray, List.set_cons_zero, List.set_cons_succ]
            go_big_quiet_on
            go_big_quiet_want
            go_big_quiet_op
            go_big_quiet_on
            go_big_quiet_want
            refine ⟨.agg (noteA x.x.n x.x.sa x.x.sc), fun w0 hC => quiet_load43 (.tmp 7) rfl p7 rfl x.x.n x.x.sa x.x.sc (LX.out w0 hC), ?_⟩
            simp only [Act.put, List.setIfInBounds_toArray, List.set_cons_zero, List.set_cons_succ]
            go_big_quiet_on
            go_big_quiet_want
            refine ⟨.agg #[.int .i64 x.x.n.house, .int .i64 x.x.n.num], fun w0 hC => ?_, ?_⟩
            · go_simp
              refine (rNameOf_any x.x.n x.x.sa x.x.sc w0).mono ?_
              rintro e w1 ⟨rfl, b1⟩
              exact ⟨rfl, hC.trans (b1.mono hC.size)⟩
            simp only [Act.put, List.setIfInBounds_toArray, List.set_cons_zero, List.set_cons_succ]
            go_big_quiet_on
            go_big_quiet_want
            go_big_quiet_op
            go_big_quiet_on
            go_big_quiet_want
            go_big_quiet_op
            go_big_quiet_on
            go_big_quiet_want
            refine ⟨.pointer (some ⟨b, o, none⟩), fun w0 hC => ?_, ?_⟩
            · have hix := HIX.out w0
              clear hC
              go_simp
            simp only [Act.put, List.setIfInBounds_toArray, List.set_cons_zero, List.set_cons_succ]
            go_big_quiet_on
            go_big_quiet_want
            refine ⟨.pointer (some ⟨b, o, none⟩), fun w0 hC => ?_, ?_⟩
            · clear hC
              go_simp
            simp only [Act.put, List.setIfInBounds_toArray, List.set_cons_zero, List.set_cons_succ]
            go_big_quiet_on
            go_big_quiet_want
            refine ⟨.agg #[.int .i64 x.nm.1, .int .i64 x.nm.2], fun w0 hC => ?_, ?_⟩
            · have c0 := LE'.out w0 hC 0 (.int .i64 x.nm.1) rfl
              have c1 := LE'.out w0 hC 1 (.int .i64 x.nm.2) rfl
              simp only [Nat.add_zero] at c0
              clear hC
              go_simp
            simp only [Act.put, List.setIfInBounds_toArray, List.set_cons_zero, List.set_cons_succ]
            go_big_quiet_on
            cases hn' : decide (x.x.nm = x.nm)
            · have GR := Lib.hid (GBX.out (by simp only [rstep, rgoodE, hn']; simp))
              have hnn : ¬ (x.x.n.house = x.nm.1 ∧ x.x.n.num = x.nm.2) := fun h => by
                have h1 : ¬ x.x.nm = x.nm := of_decide_eq_false hn'
                exact h1 (Prod.ext h.1 h.2)
              have HNN := Lib.hid hnn; clear hnn hn'
              go_big_quiet_want
              refine ⟨.bool true, fun w0 hC => ?_, ?_⟩
              · clear hC
                have h0 := HNN.out
                by_cases h1 : x.x.n.house = x.nm.1 <;> by_cases h2 : x.x.n.num = x.nm.2
                · exact absurd ⟨h1, h2⟩ h0
                all_goals (go_simp; try simp [h1, h2])
              simp only [Act.put, List.setIfInBounds_toArray, List.set_cons_zero, List.set_cons_succ]
              go_big_quiet_on
              go_big_quiet_want
              refine ⟨.bool true, fun w0 hC => ?_, ?_⟩
              · clear hC
                go_simp
              simp only [Act.put, List.setIfInBounds_toArray, List.set_cons_zero, List.set_cons_succ]
              go_big_quiet_on
              go_big_quiet_want
              go_big_quiet_op
              go_big_quiet_on
              go_big_quiet_skip
              go_big_quiet_skip
              go_big_quiet_skip
              go_big_quiet_want
              refine ⟨.bool true, fun w0 hC => ?_, ?_⟩
              · clear hC
                go_simp
              simp only [Act.put, List.setIfInBounds_toArray, List.set_cons_zero, List.set_cons_succ]
              go_big_quiet_on
              go_big_quiet_want
              go_big_quiet_op
              go_big_quiet_on
              go_big_quiet_skip
              go_big_quiet_skip
              go_big_quiet_skip
              go_big_quiet_skip
              go_big_quiet_skip
              go_big_quiet_skip
              go_big_quiet_skip
              go_big_quiet_skip
              go_big_quiet_skip
              go_big_quiet_want
              refine ⟨.bool true, fun w0 hC => ?_, ?_⟩
              · clear hC
                go_simp
              simp only [Act.put, List.setIfInBounds_toArray, List.set_cons_zero, List.set_cons_succ]
              go_big_quiet_on
              refine wpQuiet_nil ?_
              intro w' hC
              have BF := Lib.hid (S7.out.trans (hC.mono S7.out.size))
              clear hC
              go_wp2_with fail
              go_ret
              exact ⟨by rw [GR.out]; rfl, B3.out.trans (BF.out.mono B3.out.size)⟩
            · have hne : x.x.n.house = x.nm.1 ∧ x.x.n.num = x.nm.2 := by
                have h1 : x.x.nm = x.nm := of_decide_eq_true hn'
                exact ⟨congrArg Prod.fst h1, congrArg Prod.snd h1⟩
              have HNN := Lib.hid hne; clear hne
              have HNM := Lib.hid hn'; clear hn'
              go_big_quiet_want
              refine ⟨.bool false, fun w0 hC => ?_, ?_⟩
              · clear hC
                have h0 := HNN.out
                go_simp
                try simp [h0.1, h0.2]
              simp only [Act.put, List.setIfInBounds_toArray, List.set_cons_zero, List.set_cons_succ]
              go_big_quiet_on
              go_big_quiet_want
              refine ⟨.bool false, fun w0 hC => ?_, ?_⟩
              · clear hC
                go_simp
              simp only [Act.put, List.setIfInBounds_toArray, List.set_cons_zero, List.set_cons_succ]
              go_big_quiet_on
              go_big_quiet_want
              go_big_quiet_op
              go_big_quiet_on
              go_big_quiet_want
              refine ⟨.agg (noteA x.x.n x.x.sa x.x.sc), fun w0 hC => quiet_load43 (.tmp 7) rfl p7 rfl x.x.n x.x.sa x.x.sc (LX.out w0 hC), ?_⟩
              simp only [Act.put, List.setIfInBounds_toArray, List.set_cons_zero, List.set_cons_succ]
              go_big_quiet_on
              go_big_quiet_want
              refine ⟨.bool (doneB x.x.n), fun w0 hC => ?_, ?_⟩
              · go_simp
                refine (plain_any x.x.n x.x.sa x.x.sc w0).mono ?_
                rintro e w1 ⟨rfl, b1⟩
                exact ⟨rfl, hC.trans (b1.mono hC.size)⟩
              simp only [Act.put, List.setIfInBounds_toArray, List.set_cons_zero, List.set_cons_succ]
              go_big_quiet_on
              cases hd : doneB x.x.n
              · have GR := Lib.hid (GBX.out (by simp [rstep, rgoodE, hd]))
                go_big_quiet_want
                refine ⟨.bool true, fun w0 hC => ?_, ?_⟩
                · clear hC
                  go_simp
                simp only [Act.put, List.setIfInBounds_toArray, List.set_cons_zero, List.set_cons_succ]
                go_big_quiet_on
                go_big_quiet_want
                refine ⟨.bool true, fun w0 hC => ?_, ?_⟩
                · clear hC
                  go_simp
                simp only [Act.put, List.setIfInBounds_toArray, List.set_cons_zero, List.set_cons_succ]
                go_big_quiet_on
                go_big_quiet_want
                go_big_quiet_op
                go_big_quiet_on
                go_big_quiet_skip
                go_big_quiet_skip
                go_big_quiet_skip
                go_big_quiet_skip
                go_big_quiet_skip
                go_big_quiet_skip
                go_big_quiet_skip
                go_big_quiet_skip
                go_big_quiet_skip
                go_big_quiet_want
                refine ⟨.bool true, fun w0 hC => ?_, ?_⟩
                · clear hC
                  go_simp
                simp only [Act.put, List.setIfInBounds_toArray, List.set_cons_zero, List.set_cons_succ]
                go_big_quiet_on
                refine wpQuiet_nil ?_
                intro w' hC
                have BF := Lib.hid (S7.out.trans (hC.mono S7.out.size))
                clear hC
                go_wp2_with fail
                go_ret
                exact ⟨by rw [GR.out]; rfl, B3.out.trans (BF.out.mono B3.out.size)⟩
              · have HD := Lib.hid hd; clear hd
                go_big_quiet_want
                refine ⟨.bool false, fun w0 hC => ?_, ?_⟩
                · clear hC
                  go_simp
                simp only [Act.put, List.setIfInBounds_toArray, List.set_cons_zero, List.set_cons_succ]
                go_big_quiet_on
                go_big_quiet_want
                refine ⟨.bool false, fun w0 hC => ?_, ?_⟩
                · clear hC
                  go_simp
                simp only [Act.put, List.setIfInBounds_toArray, List.set_cons_zero, List.set_cons_succ]
                go_big_quiet_on
                go_big_quiet_want
                go_big_quiet_op
                go_big_quiet_on
                go_big_quiet_want
                refine ⟨.pointer (some ⟨p7, 4, none⟩), fun w0 hC => ?_, ?_⟩
                · clear hC
                  go_simp
                simp only [Act.put, List.setIfInBounds_toArray, List.set_cons_zero, List.set_cons_succ]
                go_big_quiet_on
                go_big_quiet_want
                refine ⟨.int .i64 x.x.n.kind, fun w0 hC => ?_, ?_⟩
                · have c4 := cell_of (LX.out w0 hC) 4 (.int .i64 x.x.n.kind) rfl
                  clear hC
                  go_simp
                simp only [Act.put, List.setIfInBounds_toArray, List.set_cons_zero, List.set_cons_succ]
                go_big_quiet_on
                go_big_quiet_want
                refine ⟨.bool (x.x.n.kind == 1), fun w0 hC => ?_, ?_⟩
                · clear hC
                  go_simp
                simp only [Act.put, List.setIfInBounds_toArray, List.set_cons_zero, List.set_cons_succ]
                go_big_quiet_on
                go_big_quiet_want
                go_big_quiet_op
                go_big_quiet_on
                go_big_quiet_want
                refine ⟨.pointer (some ⟨pR, 0, none⟩), fun w0 hC => ?_, ?_⟩
                · clear hC
                  go_simp
                simp only [Act.put, List.setIfInBounds_toArray, List.set_cons_zero, List.set_cons_succ]
                go_big_quiet_on
                go_big_quiet_want
                refine ⟨.slice ha hn hc, fun w0 hC => ?_, ?_⟩
                · have c0 := cell_of (LR.out w0 hC) 0 (.slice ha hn hc) rfl
                  clear hC
                  go_simp
                simp only [Act.put, List.setIfInBounds_toArray, List.set_cons_zero, List.set_cons_succ]
                go_big_quiet_on
                go_big_quiet_want
                refine ⟨.int .i64 (hn : Int), fun w0 hC => ?_, ?_⟩
                · clear hC
                  go_simp
                simp only [Act.put, List.setIfInBounds_toArray, List.set_cons_zero, List.set_cons_succ]
                go_big_quiet_on
                go_big_quiet_want
                refine ⟨.bool (decide ((k : Int) < (hn : Int))), fun w0 hC => ?_, ?_⟩
                · clear hC
                  go_simp
                simp only [Act.put, List.setIfInBounds_toArray, List.set_cons_zero, List.set_cons_succ]
                go_big_quiet_on
                cases hkb : ((x.x.n.kind == 1) == decide ((k : Int) < (hn : Int)))
                · have GR := Lib.hid (GBX.out (by simp only [rstep, rgoodE, hkb]; simp))
                  have HKB := Lib.hid hkb
                  clear hkb
                  go_big_quiet_want
                  refine ⟨.bool true, fun w0 hC => ?_, ?_⟩
                  · clear hC
                    go_simp
                    first | done | simpa using HKB.out
                  simp only [Act.put, List.setIfInBounds_toArray, List.set_cons_zero, List.set_cons_succ]
                  go_big_quiet_on
                  go_big_quiet_want
                  refine ⟨.bool true, fun w0 hC => ?_, ?_⟩
                  · clear hC
                    go_simp
                  simp only [Act.put, List.setIfInBounds_toArray, List.set_cons_zero, List.set_cons_succ]
                  go_big_quiet_on
                  refine wpQuiet_nil ?_
                  intro w' hC
                  have BF := Lib.hid (S7.out.trans (hC.mono S7.out.size))
                  clear hC
                  go_wp2_with fail
                  go_ret
                  exact ⟨by rw [GR.out]; rfl, B3.out.trans (BF.out.mono B3.out.size)⟩
                · have HK := Lib.hid hkb
                  clear hkb
                  go_big_quiet_want
                  refine ⟨.bool false, fun w0 hC => ?_, ?_⟩
                  · clear hC
                    go_simp
                    first | done | simpa using HK.out
                  simp only [Act.put, List.setIfInBounds_toArray, List.set_cons_zero, List.set_cons_succ]
                  go_big_quiet_on
                  go_big_quiet_want
                  refine ⟨.bool false, fun w0 hC => ?_, ?_⟩
                  · clear hC
                    go_simp
                  simp only [Act.put, List.setIfInBounds_toArray, List.set_cons_zero, List.set_cons_succ]
                  go_big_quiet_on
                  refine wpQuiet_nil ?_
                  intro w' hC
                  have BF := Lib.hid (S7.out.trans (hC.mono S7.out.size))
                  have XW := Lib.hid (LX.out w' hC)
                  have RW' := Lib.hid (LR.out w' hC)
                  have EW := Lib.hid (show ∀ (i : Nat) y, all[i]? = some y → w'.rangeAt b (off + i * 21) y.cells from fun i y hy => rangeAt_below (rangeAt_below (HAT.out i y hy) HWT.out) hC)
                  have x0 := LE'.out w' hC 0 (.int .i64 x.nm.1) rfl
                  have x1 := LE'.out w' hC 1 (.int .i64 x.nm.2) rfl
                  rw [Nat.add_zero] at x0
                  clear hC
                  have hix := HIX.out
                  go_wp2_with fail
                  go_loopw [8] (fun i wz => ∃ j : Nat, i = .int .i64 j ∧ j ≤ k ∧ Hid (∀ (i : Nat) y, i < j → all[i]? = some y → y.nm ≠ x.nm) ∧ ∃ q, wz = w'.drewN q) (fun i _ => k - (intOf i).toNat)
                  case atStart => exact ⟨0, rfl, Nat.zero_le _, Lib.hid (fun i y h => by omega), 0, rfl⟩
                  case round =>
                    obtain ⟨j, rfl, hj, HJ, q', rfl⟩ := hrel
                    by_cases hjk : j < k
                    · have t1 : decide ((j : Int) < (k : Int)) = true := by simp; omega
                      have hjN : j < N := by omega
                      obtain ⟨y, Hy⟩ : ∃ y, all[j]? = some y := ⟨all[j]'(by rw [E3.out.1]; exact hjN), List.getElem?_eq_getElem (by rw [E3.out.1]; exact hjN)⟩
                      have HY := Lib.hid Hy
                      obtain ⟨oy, hoy⟩ : ∃ oy, Hid (off + j * 21 = oy) := ⟨_, Lib.hid rfl⟩
                      have hyr := EW.out j y Hy
                      rw [hoy.out] at hyr
                      have y0 := hyr 0 (.int .i64 y.nm.1) rfl
                      have y1 := hyr 1 (.int .i64 y.nm.2) rfl
                      rw [Nat.add_zero] at y0
                      have hiy := fun W => idx_off (W := W) (c := c) (b := b) Tryz.underlying24 J21 hjN hoy.out
                      clear hyr Hy
                      by_cases he : y.nm = x.nm
                      · have e1 : y.nm.1 = x.nm.1 := by rw [he]
                        have e2 : y.nm.2 = x.nm.2 := by rw [he]
                        have GR := Lib.hid (GBX.out (by
                          have hm : x.nm ∈ (all.take k).map EvV.nm := by
                            rw [← he]
                            exact List.mem_map_of_mem (List.mem_of_getElem? (show (all.take k)[j]? = some y by rw [List.getElem?_take_of_lt hjk]; exact HY.out))
                          simp only [rstep, decide_eq_true hm, Bool.not_true, Bool.false_and, Bool.and_false]))
                        rw [e1] at y0; rw [e2] at y1
                        clear e1 e2 he
                        go_wp2
                        go_quiet (fail)
                        go_wp2
                        go_ret
                        exact ⟨by rw [GR.out]; rfl, B3.out.trans ((below_drewN (below_drewN BF.out _) _).mono B3.out.size)⟩
                      · have HE := Lib.hid he
                        by_cases e1 : y.nm.1 = x.nm.1
                        · have e2 : (y.nm.2 == x.nm.2) = false := by rw [beq_eq_false_iff_ne]; exact fun h => he (Prod.ext e1 h)
                          rw [e1] at y0
                          clear e1 he
                          go_wp2
                          go_quiet (fail)
                          go_wp2
                          go_roundw
                          case rel => exact ⟨j + 1, by go_num, by omega, Lib.hid (fun i z hi hz => by
                            rcases Nat.lt_or_ge i j with h' | h'
                            · exact HJ.out i z h' hz
                            · have e : i = j := by omega
                              subst e
                              rw [HY.out] at hz
                              cases hz
                              exact HE.out), _, rfl⟩
                          case measure => simp [intOf]; omega
                        · have e2 : (y.nm.1 == x.nm.1) = false := by rw [beq_eq_false_iff_ne]; exact e1
                          clear e1 he
                          go_wp2
                          go_quiet (fail)
                          go_wp2
                          go_roundw
                          case rel => exact ⟨j + 1, by go_num, by omega, Lib.hid (fun i z hi hz => by
                            rcases Nat.lt_or_ge i j with h' | h'
                            · exact HJ.out i z h' hz
                            · have e : i = j := by omega
                              subst e
                              rw [HY.out] at hz
                              cases hz
                              exact HE.out), _, rfl⟩
                          case measure => simp [intOf]; omega
                    · have t1 : decide ((j : Int) < (k : Int)) = false := by simp; omega
                      have HM : Hid (x.nm ∉ (all.take k).map EvV.nm) := Lib.hid (fun hm => by
                        obtain ⟨y, hy, hyx⟩ := List.mem_map.1 hm
                        obtain ⟨i, hi⟩ := List.getElem?_of_mem hy
                        rw [List.getElem?_take] at hi
                        split at hi
                        · exact HJ.out i y (by omega) hi hyx
                        · cases hi)
                      have BZ := Lib.hid (below_drewN BF.out q')
                      have XZ : Hid ((w'.drewN q').heap[p7]? = some (.cells (noteA x.x.n x.x.sa x.x.sc) 51 (0, 0))) := Lib.hid XW.out
                      have RZ : Hid ((w'.drewN q').heap[pR]? = some (.cells #[.slice ha hn hc, .slice ea en ec, v3] 27 (0, 0))) := Lib.hid RW'.out
                      clear HJ XW RW' EW BF x0 x1 hix
                      go_upto_region 15 with fail
                      generalize w'.drewN q' = wz at *
                      have d4 := cell_of XZ.out 4 (.int .i64 x.x.n.kind) rfl
                      have d16 := cell_of XZ.out 16 (.int .i64 x.x.n.refH) rfl
                      have d17 := cell_of XZ.out 17 (.int .i64 x.x.n.refN) rfl
                      have r0 := cell_of RZ.out 0 (.slice ha hn hc) rfl
                      cases hk2 : (x.x.n.kind == 2)
                      · have HST : Hid (rstep f hs hn all k x = true) := Lib.hid (by simp only [rstep, rgoodE, HF.out, HNM.out, HD.out, HK.out, hk2, decide_eq_false HM.out]; rfl)
                        have BY := Lib.hid BZ.out
                        go_wp2_with fail
                        go_roundw
                        case rel => exact ⟨k + 1, by go_num, by omega, BY, Lib.hid (fun i z hi hz => by
                          rcases Nat.lt_or_ge i k with h' | h'
                          · exact HA.out i z h' hz
                          · have e : i = k := by omega
                            subst e
                            rw [HX.out] at hz
                            cases hz
                            exact HST.out)⟩
                        case measure => simp [intOf]; omega
                      · have CH := Lib.hid (rheap_any hs ha hn hc x.x.n.refH x.x.n.refN wz (H3.out.below BZ.out))
                        obtain ⟨z, hz⟩ : ∃ z, Hid (idxI hs (isNm x.x.n.refH x.x.n.refN) = z) := ⟨_, Lib.hid rfl⟩
                        rw [hz.out] at CH
                        cases hz0 : decide (z < 0)
                        · have HST : Hid (rstep f hs hn all k x = true) := Lib.hid (by simp only [rstep, rgoodE, HF.out, HNM.out, HD.out, HK.out, hk2, hz.out, hz0, decide_eq_false HM.out]; rfl)
                          go_wp2_with (first
                            | (go_at_call 47
                               refine CH.out.mono ?_
                               rintro e wy ⟨rfl, by_⟩
                               have BY := Lib.hid (BZ.out.trans (by_.mono BZ.out.size))
                               clear by_
                               dsimp only)
                            | fail)
                          go_roundw
                          case rel => exact ⟨k + 1, by go_num, by omega, BY, Lib.hid (fun i z hi hz => by
                            rcases Nat.lt_or_ge i k with h' | h'
                            · exact HA.out i z h' hz
                            · have e : i = k := by omega
                              subst e
                              rw [HX.out] at hz
                              cases hz
                              exact HST.out)⟩
                          case measure => simp [intOf]; omega
                        · have GR := Lib.hid (GBX.out (by simp only [rstep, hk2, hz.out, hz0]; simp))
                          go_wp2_with (first
                            | (go_at_call 47
                               refine CH.out.mono ?_
                               rintro e wy ⟨rfl, by_⟩
                               have BY := Lib.hid (BZ.out.trans (by_.mono BZ.out.size))
                               clear by_
                               dsimp only)
                            | fail)
                          go_ret
                          exact ⟨by rw [GR.out]; rfl, B3.out.trans (BY.out.mono B3.out.size)⟩
        · have hkN : k = N := by omega
          have t0 : decide ((k : Int) < (N : Int)) = false := by simp; omega
          have GR := Lib.hid (GG.out (fun j y hy => HA.out j y (by have h1 := (List.getElem?_eq_some_iff.1 hy).1; rw [E3.out.1] at h1; omega) hy))
          go_wp2_with fail
          go_ret
          exact ⟨by rw [GR.out]; rfl, B3.out.trans (HS.out.mono B3.out.size)⟩
    · have t4 : decide ((400 : Int) < (en : Int)) = true := by simp; omega
      have GR : Hid (regOkB f hs es = false) := Lib.hid (by rw [regOkB, LE.out]; simp [h4])
      clear h4
      go_wp2_with fail
      go_ret
      exact ⟨by rw [GR.out]; rfl, B0.out⟩
  · have t8 : decide ((8 : Int) < (hn : Int)) = true := by simp; omega
    have GR : Hid (regOkB f hs es = false) := Lib.hid (by rw [regOkB, LH.out]; simp [h8])
    clear h8
    go_wp2_with fail
    go_ret
    exact ⟨by rw [GR.out]; rfl, B0.out⟩
set_option maxHeartbeats 4000000 in
set_option maxRecDepth 100000 in
theorem rrightReg_any (f : FrV) (hs es : List EvV) (ha : Option Addr) (hn hc : Nat) (ea : Option Addr) (en ec : Nat) (v3 : Value) (w : World)
    (h1 : RdA w 21 ha hn hc (evCells hs)) (h2 : RdA w 21 ea en ec (evCells es)) (hok : ∀ e ∈ hs ++ es, e.x.ok w) :
    Calls Tryz.prog 21 #[f.val, .agg #[.slice ha hn hc, .slice ea en ec, v3]] w fun e w' => e = .returned (.bool (f.valid && regOkB f hs es)) ∧ Below w.heap.size w w' := by
  have hvl : f.val = .agg #[.int .i64 f.rings, .int .i64 f.sectors, .int .i64 f.wide] := rfl
  have RR := Lib.hid (fun (W : World) (hv : f.valid = true) a b c => rright_any f hs es ha hn hc ea en ec v3 W hv a b c)
  rw [hvl] at RR ⊢; clear hvl
  have B0 := Lib.hid (((Below.refl w.heap.size w).alloc (Nat.le_refl _) (.cells #[.int .i64 f.rings, .int .i64 f.sectors, .int .i64 f.wide] 23)).alloc (by simp) (.cells #[.slice ha hn hc, .slice ea en ec, v3] 27))
  have F0 := Lib.hid (heap_before _ (.cells #[.slice ha hn hc, .slice ea en ec, v3] 27) _ _ (heap_last w (.cells #[.int .i64 f.rings, .int .i64 f.sectors, .int .i64 f.wide] 23)))
  have P0 := Lib.hid (heap_at (w.alloc (.cells #[.int .i64 f.rings, .int .i64 f.sectors, .int .i64 f.wide] 23)) (.cells #[.slice ha hn hc, .slice ea en ec, v3] 27) (w.heap.size + 1) (by simp))
  have R1 := Lib.hid (h1.below B0.out)
  have R2 := Lib.hid (h2.below B0.out)
  have OK := Lib.hid (evs_ok hok B0.out)
  clear h1 h2 hok
  go_enter Tryz.func21, Tryz.ntmps21
  go_upto_region 1 with fail
  obtain ⟨pF, hpF⟩ : ∃ pF, Hid (w.heap.size = pF) := ⟨_, Lib.hid rfl⟩
  obtain ⟨pR, hpR⟩ : ∃ pR, Hid (w.heap.size + 1 = pR) := ⟨_, Lib.hid rfl⟩
  rw [hpR.out, hpF.out]
  rw [hpF.out] at F0
  rw [hpR.out] at P0
  generalize (w.alloc (.cells #[.int .i64 f.rings, .int .i64 f.sectors, .int .i64 f.wide] 23)).alloc (.cells #[.slice ha hn hc, .slice ea en ec, v3] 27) = W1 at *
  have f0 := cell_of F0.out 0 (.int .i64 f.rings) rfl
  have f1 := cell_of F0.out 1 (.int .i64 f.sectors) rfl
  have f2 := cell_of F0.out 2 (.int .i64 f.wide) rfl
  have VF := Lib.hid (fun W => validFrame_any f.rings f.sectors f.wide W)
  have HVE : Hid (FrV.valid ⟨f.rings, f.sectors, f.wide⟩ = f.valid) := Lib.hid rfl
  rw [HVE.out] at VF
  clear HVE
  cases hv : f.valid
  · rw [hv] at VF
    have HV := Lib.hid hv
    clear hv
    go_wp2_with (first
      | (go_at_call 59
         refine (VF.out _).mono ?_
         rintro e W2 ⟨rfl, b2⟩
         have B2 := Lib.hid (B0.out.trans (b2.mono B0.out.size))
         clear b2
         dsimp only)
      | fail)
    go_ret
    exact ⟨by rw [HV.out]; rfl, B2.out⟩
  · have HV := Lib.hid hv
    rw [hv] at VF
    clear hv
    obtain ⟨q, hq⟩ : ∃ q, Hid (regOkB f hs es = q) := ⟨_, Lib.hid rfl⟩
    rw [hq.out] at RR
    go_wp2_with (first
      | (go_at_call 59
         refine (VF.out _).mono ?_
         rintro e W2 ⟨rfl, b2⟩
         have B2 := Lib.hid (B0.out.trans (b2.mono B0.out.size))
         have F2 := Lib.hid (below_blk b2 F0.out)
         have P2 := Lib.hid (below_blk b2 P0.out)
         have R12 := Lib.hid (R1.out.below b2)
         have R22 := Lib.hid (R2.out.below b2)
         have OK2 := Lib.hid (evs_ok OK.out b2)
         clear b2 f0 f1 f2
         have f0 := cell_of F2.out 0 (.int .i64 f.rings) rfl
         have f1 := cell_of F2.out 1 (.int .i64 f.sectors) rfl
         have f2 := cell_of F2.out 2 (.int .i64 f.wide) rfl
         have p0 := cell_of P2.out 0 (.slice ha hn hc) rfl
         have p1 := cell_of P2.out 1 (.slice ea en ec) rfl
         have p2 := cell_of P2.out 2 v3 rfl
         dsimp only)
      | (go_at_call 60
         refine (RR.out _ HV.out R12.out R22.out OK2.out).mono ?_
         rintro e W3 ⟨rfl, b3⟩
         have B3 := Lib.hid (B2.out.trans (b3.mono B2.out.size))
         clear b3
         dsimp only)
      | fail)
    go_ret
    exact ⟨by rw [hq.out, HV.out]; rfl, B3.out⟩
end Go.Proofs.YtpjiakgfegnmcaaGreat
namespace Go.Proofs.YtpjiakgfegnmcaaGreat
set_option linter.unusedSimpArgs false
open Go.RowKit

set_option maxHeartbeats 16000000 in
set_option maxRecDepth 100000 in
theorem rstrokesOn_any (f : FrV) (hs es : List EvV) (ha : Option Addr) (hn hc : Nat) (ea : Option Addr) (en ec : Nat) (v3 : Value) (st rg : Int) (w : World)
    (h1 : RdA w 21 ha hn hc (evCells hs)) (h2 : RdA w 21 ea en ec (evCells es)) (hok : ∀ e ∈ hs ++ es, e.x.ok w) :
    Calls Tryz.prog 17 #[f.val, .agg #[.slice ha hn hc, .slice ea en ec, v3], .int .i64 st, .int .i64 rg] w fun e w' => SonEnd (sonV f hs es st rg) w e w' ∧ Below w.heap.size w w' := by
  have hvl : f.val = .agg #[.int .i64 f.rings, .int .i64 f.sectors, .int .i64 f.wide] := rfl
  have HVL := Lib.hid hvl
  have RGK := Lib.hid (fun (W : World) a b c => rrightReg_any f hs es ha hn hc ea en ec v3 W a b c)
  rw [hvl] at RGK ⊢; clear hvl
  have I21 := Lib.hid (show ∀ (x : EvV), (Tryz.prog.info? 53).map (·.size) = some (evA x).size from fun x => by kernel_rfl)
  have I43 := Lib.hid (show ∀ (m : NoteV) (a : Option Addr) (c : Nat), (Tryz.prog.info? 51).map (·.size) = some (noteA m a c).size from fun m a c => by kernel_rfl)
  have J21 : (Tryz.prog.info? 53).map (·.size) = some 21 := by kernel_rfl
  have LE : Hid (es.length = en) := Lib.hid (by have := h2.len; rw [evCells_len] at this; omega)
  have B0 := Lib.hid (((Below.refl w.heap.size w).alloc (Nat.le_refl _) (.cells #[.int .i64 f.rings, .int .i64 f.sectors, .int .i64 f.wide] 23)).alloc (by simp) (.cells #[.slice ha hn hc, .slice ea en ec, v3] 27))
  have F0 := Lib.hid (heap_before _ (.cells #[.slice ha hn hc, .slice ea en ec, v3] 27) _ _ (heap_last w (.cells #[.int .i64 f.rings, .int .i64 f.sectors, .int .i64 f.wide] 23)))
  have P0 := Lib.hid (heap_at (w.alloc (.cells #[.int .i64 f.rings, .int .i64 f.sectors, .int .i64 f.wide] 23)) (.cells #[.slice ha hn hc, .slice ea en ec, v3] 27) (w.heap.size + 1) (by simp))
  have R0 := Lib.hid (h1.below B0.out)
  have R9 := Lib.hid (h2.below B0.out)
  have OK0 := Lib.hid (evs_ok hok B0.out)
  clear h1 h2 hok
  go_enter Tryz.func17, Tryz.ntmps17
  go_upto_region 1 with fail
  obtain ⟨pF, hpF⟩ : ∃ pF, Hid (w.heap.size = pF) := ⟨_, Lib.hid rfl⟩
  obtain ⟨pR, hpR⟩ : ∃ pR, Hid (w.heap.size + 1 = pR) := ⟨_, Lib.hid rfl⟩
  rw [hpR.out, hpF.out]
  rw [hpF.out] at F0
  rw [hpR.out] at P0
  generalize (w.alloc (.cells #[.int .i64 f.rings, .int .i64 f.sectors, .int .i64 f.wide] 23)).alloc (.cells #[.slice ha hn hc, .slice ea en ec, v3] 27) = W0 at *
  have x0 := cell_of F0.out 0 (.int .i64 f.rings) rfl
  have x1 := cell_of F0.out 1 (.int .i64 f.sectors) rfl
  have x2 := cell_of F0.out 2 (.int .i64 f.wide) rfl
  have p0 := cell_of P0.out 0 (.slice ha hn hc) rfl
  have p1 := cell_of P0.out 1 (.slice ea en ec) rfl
  have p2 := cell_of P0.out 2 v3 rfl
  cases hvr : (f.valid && regOkB f hs es)
  · have GR : Hid (sonV f hs es st rg = none) := Lib.hid (by unfold sonV; rw [← Bool.and_assoc, if_neg]; simp only [hvr]; simp)
    have HVR := Lib.hid hvr; clear hvr
    go_wp2_with (first
      | (go_at_call 21
         refine (RGK.out _ R0.out R9.out OK0.out).mono ?_
         rintro e W3 ⟨rfl, b3⟩
         rw [HVR.out]
         have B1 := Lib.hid (B0.out.trans (b3.mono B0.out.size))
         have P1 := Lib.hid (below_blk b3 P0.out)
         have F1 := Lib.hid (below_blk b3 F0.out)
         have R2 := Lib.hid (R9.out.below b3)
         have OK := Lib.hid (evs_ok OK0.out b3)
         clear b3 x0 x1 x2 p0 p1 p2
         have g0 := cell_of F1.out 0 (.int .i64 f.rings) rfl
         dsimp only)
      | (go_at_call 49
         refine (rin_any _ _ _ _).mono ?_
         rintro e W3 ⟨rfl, rfl⟩
         first | rw [HST.out] | rw [HRG.out]
         dsimp only)
      | fail)
    go_ret2
    rw [GR.out]
    exact ⟨rfl, B1.out⟩
  · have HVR := Lib.hid hvr; clear hvr
    have hv2 := HVR.out
    rw [Bool.and_eq_true] at hv2
    have HV := Lib.hid hv2.1
    have HRR := Lib.hid hv2.2
    clear hv2
    cases hst : inB st 0 1
    · have GR : Hid (sonV f hs es st rg = none) := Lib.hid (by unfold sonV; rw [← Bool.and_assoc, if_neg]; simp only [hst]; simp)
      have HST := Lib.hid hst; clear hst
      go_wp2_with (first
        | (go_at_call 21
           refine (RGK.out _ R0.out R9.out OK0.out).mono ?_
           rintro e W3 ⟨rfl, b3⟩
           rw [HVR.out]
           have B1 := Lib.hid (B0.out.trans (b3.mono B0.out.size))
           have P1 := Lib.hid (below_blk b3 P0.out)
           have F1 := Lib.hid (below_blk b3 F0.out)
           have R2 := Lib.hid (R9.out.below b3)
           have OK := Lib.hid (evs_ok OK0.out b3)
           clear b3 x0 x1 x2 p0 p1 p2
           have g0 := cell_of F1.out 0 (.int .i64 f.rings) rfl
           dsimp only)
        | (go_at_call 49
           refine (rin_any _ _ _ _).mono ?_
           rintro e W3 ⟨rfl, rfl⟩
           first | rw [HST.out] | rw [HRG.out]
           dsimp only)
        | fail)
      go_ret2
      rw [GR.out]
      exact ⟨rfl, B1.out⟩
    · have HST := Lib.hid hst; clear hst
      have hfv : (1 ≤ f.rings ∧ f.rings ≤ 24) ∧ (2 ≤ f.sectors ∧ f.sectors ≤ 96) ∧ (1 ≤ f.wide ∧ f.wide ≤ f.sectors) := by
        have h := HV.out
        simp only [FrV.valid, Bool.and_eq_true, inB_true] at h
        exact ⟨h.1, h.2.1, h.2.2⟩
      have HFV := Lib.hid hfv; clear hfv
      have hr1 := HFV.out.1.1
      have hr2 := HFV.out.1.2
      cases hrg : inB rg 0 (f.rings - 1)
      · have GR : Hid (sonV f hs es st rg = none) := Lib.hid (by unfold sonV; rw [← Bool.and_assoc, if_neg]; simp only [hrg]; simp)
        have HRG := Lib.hid hrg; clear hrg
        go_wp2_with (first
          | (go_at_call 21
             refine (RGK.out _ R0.out R9.out OK0.out).mono ?_
             rintro e W3 ⟨rfl, b3⟩
             rw [HVR.out]
             have B1 := Lib.hid (B0.out.trans (b3.mono B0.out.size))
             have P1 := Lib.hid (below_blk b3 P0.out)
             have F1 := Lib.hid (below_blk b3 F0.out)
             have R2 := Lib.hid (R9.out.below b3)
             have OK := Lib.hid (evs_ok OK0.out b3)
             clear b3 x0 x1 x2 p0 p1 p2
             have g0 := cell_of F1.out 0 (.int .i64 f.rings) rfl
             dsimp only)
          | (go_at_call 49
             refine (rin_any _ _ _ _).mono ?_
             rintro e W3 ⟨rfl, rfl⟩
             first | rw [HST.out] | rw [HRG.out]
             dsimp only)
          | fail)
        go_ret2
        rw [GR.out]
        exact ⟨rfl, B1.out⟩
      · have HRG := Lib.hid hrg; clear hrg
        have HSN : Hid (sonV f hs es st rg = some (sonL f.wide.toNat st rg es (List.replicate f.sectors.toNat 0))) := Lib.hid (by unfold sonV; rw [if_pos]; rw [HV.out, HRR.out, HST.out, HRG.out]; rfl)
        have HMEM := Lib.hid (regOk_mem HRR.out)
        go_upto_region 3 with (first
          | (go_at_call 21
             refine (RGK.out _ R0.out R9.out OK0.out).mono ?_
             rintro e W3 ⟨rfl, b3⟩
             rw [HVR.out]
             have B1 := Lib.hid (B0.out.trans (b3.mono B0.out.size))
             have P1 := Lib.hid (below_blk b3 P0.out)
             have F1 := Lib.hid (below_blk b3 F0.out)
             have R2 := Lib.hid (R9.out.below b3)
             have OK := Lib.hid (evs_ok OK0.out b3)
             clear b3 x0 x1 x2 p0 p1 p2
             have g0 := cell_of F1.out 0 (.int .i64 f.rings) rfl
             dsimp only)
          | (go_at_call 49
             refine (rin_any _ _ _ _).mono ?_
             rintro e W3 ⟨rfl, rfl⟩
             first | rw [HST.out] | rw [HRG.out]
             dsimp only)
          | fail)
        have g1 := cell_of F1.out 1 (.int .i64 f.sectors) rfl
        obtain ⟨sn, hsn⟩ : ∃ sn : Nat, Hid (f.sectors = sn) := ⟨f.sectors.toNat, Lib.hid (by have := HFV.out; omega)⟩
        obtain ⟨wd, hwd⟩ : ∃ wd : Nat, Hid (f.wide = wd) := ⟨f.wide.toNat, Lib.hid (by have := HFV.out; omega)⟩
        have HSW : Hid (sn ≤ 96 ∧ 1 ≤ wd ∧ wd ≤ sn) := Lib.hid (by have := HFV.out; have := hsn.out; have := hwd.out; omega)
        clear g0 hr1 hr2
        rw [hsn.out] at g1 F1
        rw [hwd.out] at F1
        rw [hsn.out, hwd.out] at HSN ⊢
        rw [Int.toNat_natCast, Int.toNat_natCast] at HSN
        obtain ⟨T0, hT0⟩ : ∃ T0, Hid (List.replicate sn (0 : Int) = T0) := ⟨_, Lib.hid rfl⟩
        have hmk := fun W => run_make_ints sn (by have := HSW.out; omega) W
        rw [hT0.out] at hmk HSN
        have TL0 : Hid (T0.length = sn) := Lib.hid (by rw [← hT0.out]; simp)
        have TB0 : Hid (∀ v ∈ T0, 0 ≤ v ∧ v ≤ 0) := Lib.hid (fun v hv => by rw [← hT0.out] at hv; have := List.eq_of_mem_replicate hv; omega)
        go_upto_region 4 with fail
        clear hmk
        obtain ⟨b, hb⟩ : ∃ b, Hid (W3.heap.size = b) := ⟨_, Lib.hid rfl⟩
        have hbt : Below W3.heap.size W3 (W3.alloc (.cells (T0.map intV).toArray 3)) := (Below.refl _ _).alloc (Nat.le_refl _) _
        have TT : Hid (TAt (W3.alloc (.cells (T0.map intV).toArray 3)) b T0) := Lib.hid (heap_at W3 _ b hb.out)
        have X4 := Lib.hid (below_blk hbt F1.out)
        have P4 := Lib.hid (below_blk hbt P1.out)
        have B4 := Lib.hid (B1.out.trans (hbt.mono B1.out.size))
        have E4 := Lib.hid (RdEs.of_rd (R2.out.below hbt))
        have OK4 := Lib.hid (evs_ok OK.out hbt)
        have HXB : Hid (pF ≠ b) := Lib.hid (by rw [← hb.out]; have := blk_lt F1.out; omega)
        have HRB : Hid (pR ≠ b) := Lib.hid (by rw [← hb.out]; have := blk_lt P1.out; omega)
        have HBW : Hid (w.heap.size ≤ b) := Lib.hid (by rw [← hb.out]; exact B1.out.size)
        have NB : Hid (∀ e ∈ hs ++ es, 0 < e.x.n.strokes.length → ∀ x o, e.x.sa = some ⟨x, o, none⟩ → x ≠ b) := Lib.hid (fun e he h0 x o ha' => by
          obtain ⟨x', o', h1, h2⟩ := (show RdI W3 e.x.sa e.x.n.strokes.length e.x.sc e.x.n.strokes from OK.out e he).at h0
          have h3 := World.block_lt_of_cell? W3 _ (h2 0 h0)
          rw [ha'] at h1
          cases h1
          simp only at h3
          have := hb.out
          omega)
        have ENB : Hid (∀ (x : Nat) o, ea = some ⟨x, o, none⟩ → 0 < en → x ≠ b) := Lib.hid (fun x o ha' h0 => by
          obtain ⟨x', o', h1, h2⟩ := (RdEs.of_rd R2.out).at h0
          have h4 : 0 < es.length := by rw [LE.out]; exact h0
          have h3 := World.block_lt_of_cell? W3 _ (h2 0 _ (List.getElem?_eq_getElem h4) 0 _ rfl)
          rw [ha'] at h1
          cases h1
          simp only at h3
          have := hb.out
          omega)
        rw [hb.out]
        clear hbt P1 F1 R2 OK B1
        generalize W3.alloc (.cells (T0.map intV).toArray 3) = W5 at *
        go_wp2_with fail
        have XS : Hid (∀ wr, Same (fun k => k = b) W5 wr → wr.heap[pF]? = some (.cells #[.int .i64 f.rings, .int .i64 sn, .int .i64 wd] 23 (0, 0))) := Lib.hid (fun wr h => same_blk h X4.out HXB.out)
        have PS : Hid (∀ wr, Same (fun k => k = b) W5 wr → wr.heap[pR]? = some (.cells #[.slice ha hn hc, .slice ea en ec, v3] 27 (0, 0))) := Lib.hid (fun wr h => same_blk h P4.out HRB.out)
        have BS : Hid (∀ wr, Same (fun k => k = b) W5 wr → Below w.heap.size w wr) := Lib.hid (fun wr h => h.below B4.out B4.out.size (fun k e => by rw [e]; exact HBW.out))
        have KL : Hid (∀ e ∈ es, e.x.n.kind = 4 → e.x.n.strokes.length ≤ 200) := Lib.hid (fun e he hk => (strokesB_parts (formed_strokes (HMEM.out.2.2 e (List.mem_append_right _ he)).1 hk)).1)
        go_loopw [11] (fun i wr => ∃ k : Nat, i = .int .i64 k ∧ k ≤ en ∧ Hid (TAt wr b (sonL wd st rg (es.take k) T0)) ∧ Hid (Same (fun k => k = b) W5 wr)) (fun i _ => en - (intOf i).toNat)
        case atStart => exact ⟨0, rfl, Nat.zero_le _, TT, Lib.hid (Same.refl _ _)⟩
        case round =>
          obtain ⟨k, rfl, hk, HT, HS⟩ := hrel
          have c1 := cell_of (PS.out _ HS.out) 1 (.slice ea en ec) rfl
          by_cases hlt : k < en
          · have t0 : decide ((k : Int) < (en : Int)) = true := by simp; omega
            obtain ⟨x, Hx⟩ : ∃ x, es[k]? = some x := ⟨es[k]'(by rw [LE.out]; exact hlt), List.getElem?_eq_getElem (by rw [LE.out]; exact hlt)⟩
            have HX := Lib.hid Hx
            obtain ⟨bs, off, ha0, hat⟩ := E4.out.at (by omega)
            subst ha0
            have HRA : wr.rangeAt bs (off + k * 21) x.cells := (show wr.rangeAt bs (off + k * 21) x.cells from fun j v hv => by
              have h5 := hat k x Hx j v hv
              rw [← h5]
              simp only [World.cell?, HS.out.block bs (World.block_lt_of_cell? W5 _ h5) (ENB.out bs off rfl (by omega))])
            have HMX := Lib.hid (List.mem_of_getElem? Hx)
            clear hat Hx
            obtain ⟨o, hoo⟩ : ∃ o, Hid (off + k * 21 = o) := ⟨_, Lib.hid rfl⟩
            rw [hoo.out] at HRA
            have hix := fun W => idx_off (W := W) (c := ec) (b := bs) Tryz.underlying24 J21 hlt hoo.out
            have HRN : Hid (wr.rangeAt bs (o + 2) (x.x.n.cells x.x.sa x.x.sc)) := Lib.hid (fun j v hv => by
              have := HRA (2 + j) v (by rw [EvV.cells, List.getElem?_append_right (by simp)]; simpa using hv)
              rwa [← Nat.add_assoc] at this)
            go_upto_region 8 with (first
              | (refine wpList_load_mid rfl 51 _ rfl bs (o + 2) rfl (x.x.n.cells x.x.sa x.x.sc) _ HRN.out Tryz.underlying51 rfl (size43 x.x.n x.x.sa x.x.sc) ?_)
              | (refine wpList_store_newp _ rfl 51 _ _ rfl _ rfl _ (noteA x.x.n x.x.sa x.x.sc) rfl rfl (I43.out _ _ _) rfl (noteA_one _ _ _) ?_)
              | fail)
            clear hix t0 c1
            try simp only [Act.put, List.setIfInBounds_toArray, List.set_cons_zero, List.set_cons_succ]
            have hbt : Below wr.heap.size wr (wr.alloc (.cells (noteA x.x.n x.x.sa x.x.sc) 51)) := (Below.refl _ _).alloc (Nat.le_refl _) _
            have NT := Lib.hid (heap_last wr (.cells (noteA x.x.n x.x.sa x.x.sc) 51))
            have T8 : Hid (TAt (wr.alloc (.cells (noteA x.x.n x.x.sa x.x.sc) 51)) b (sonL wd st rg (es.take k) T0)) := Lib.hid (below_blk hbt HT.out)
            have S8 := Lib.hid (HS.out.trans (Same.of_below hbt))
            clear hbt HT HS HRA HRN
            obtain ⟨p14, hp14⟩ : ∃ p14, Hid (wr.heap.size = p14) := ⟨_, Lib.hid rfl⟩
            rw [hp14.out] at NT ⊢
            generalize wr.alloc (.cells (noteA x.x.n x.x.sa x.x.sc) 51) = W8 at *
            have d4 := cell_of NT.out 4 (.int .i64 x.x.n.kind) rfl
            have d5 := cell_of NT.out 5 (.int .i64 x.x.n.stone) rfl
            have d14 := cell_of NT.out 14 (.int .i64 x.x.n.ring) rfl
            have d15 := cell_of NT.out 15 (.slice x.x.sa x.x.n.strokes.length x.x.sc) rfl
            have hk64 : (k : Int) + 1 ≤ 9223372036854775807 := by have := HMEM.out.2.1; have := LE.out; omega
            obtain ⟨U, hU⟩ : ∃ U, Hid (sonL wd st rg (es.take k) T0 = U) := ⟨_, Lib.hid rfl⟩
            have SN : Hid (sonL wd st rg (es.take (k + 1)) T0 = sonOne wd st rg U x) := Lib.hid (by rw [take_snoc HX.out, sonL_snoc, hU.out])
            have UB : Hid (∀ v ∈ U, 0 ≤ v ∧ v ≤ 80000) := Lib.hid (by
              rw [← hU.out]
              intro v hv
              have h1 := sonL_bnd wd st rg (es.take k) T0 0 (fun e he => KL.out e (List.mem_of_mem_take he)) TB0.out v hv
              have h2 : (es.take k).length ≤ 400 := by rw [List.length_take]; have := HMEM.out.2.1; omega
              omega)
            have UL : Hid (U.length = sn) := Lib.hid (by rw [← hU.out, sonL_len, TL0.out])
            rw [hU.out] at T8
            clear hU
            cases hs4 : (x.x.n.kind == 4)
            · have SE : Hid (sonL wd st rg (es.take (k + 1)) T0 = U) := Lib.hid (by rw [SN.out, sonOne, if_neg]; simp [sonIs, hs4])
              go_wp2_with fail
              go_roundw
              case rel => exact ⟨k + 1, by go_num, by omega, Lib.hid (by rw [SE.out]; exact T8.out), S8⟩
              case measure => simp [intOf]; omega
            · cases hs5 : (x.x.n.stone == st)
              · have SE : Hid (sonL wd st rg (es.take (k + 1)) T0 = U) := Lib.hid (by rw [SN.out, sonOne, if_neg]; simp [sonIs, hs5])
                go_wp2_with fail
                go_roundw
                case rel => exact ⟨k + 1, by go_num, by omega, Lib.hid (by rw [SE.out]; exact T8.out), S8⟩
                case measure => simp [intOf]; omega
              · cases hs6 : (x.x.n.ring == rg)
                · have SE : Hid (sonL wd st rg (es.take (k + 1)) T0 = U) := Lib.hid (by rw [SN.out, sonOne, if_neg]; simp [sonIs, hs6])
                  go_wp2_with fail
                  go_roundw
                  case rel => exact ⟨k + 1, by go_num, by omega, Lib.hid (by rw [SE.out]; exact T8.out), S8⟩
                  case measure => simp [intOf]; omega
                · have SE : Hid (sonL wd st rg (es.take (k + 1)) T0 = coverL 0 wd U x.x.n.strokes) := Lib.hid (by rw [SN.out, sonOne, if_pos]; simp [sonIs, hs4, hs5, hs6])
                  have HSP : Hid (x.x.n.strokes.length ≤ 200 ∧ ∀ y ∈ x.x.n.strokes, 0 ≤ y ∧ y ≤ (sn : Int) - wd) := Lib.hid (by
                    have h1 := strokesB_parts (formed_strokes (HMEM.out.2.2 x (List.mem_append_right _ HMX.out)).1 (by simpa using hs4))
                    rw [hsn.out, hwd.out] at h1
                    exact h1)
                  have HSL : Hid (0 < x.x.n.strokes.length) := Lib.hid (by
                    have h1 := formed_strokes (HMEM.out.2.2 x (List.mem_append_right _ HMX.out)).1 (by simpa using hs4)
                    simp only [strokesB, Bool.and_eq_true, inB_true] at h1
                    omega)
                  have X8 := Lib.hid (XS.out _ S8.out)
                  have x0 := cell_of X8.out 0 (.int .i64 f.rings) rfl
                  have x1 := cell_of X8.out 1 (.int .i64 sn) rfl
                  have x2 := cell_of X8.out 2 (.int .i64 wd) rfl
                  have NBX := Lib.hid (NB.out x (List.mem_append_right _ HMX.out) HSL.out)
                  have RX := Lib.hid (show RdI W8 x.x.sa x.x.n.strokes.length x.x.sc x.x.n.strokes from RdI.ne (OK4.out x (List.mem_append_right _ HMX.out)) S8.out (fun y o' e => NBX.out y o' e))
                  go_wp2_with (first
                    | (go_at_call 53
                       refine (covered_any f.rings sn wd b 0 sn sn U x.x.n.strokes x.x.sa x.x.sc 80000 W8 T8.out (by have := UL.out; omega) RX.out NBX.out (fun y hy => by have := HSP.out.2 y hy; have := HSW.out; omega) UB.out (by have := HSP.out.1; omega) (by have := HSW.out; omega)).mono ?_
                       rintro e W9 ⟨rfl, t9, s9⟩
                       have T9 := Lib.hid t9
                       have S9 := Lib.hid (S8.out.trans s9)
                       clear t9 s9
                       dsimp only)
                    | fail)
                  go_roundw
                  case rel => exact ⟨k + 1, by go_num, by omega, Lib.hid (by rw [SE.out]; exact T9.out), S9⟩
                  case measure => simp [intOf]; omega
          · have t0 : decide ((k : Int) < (en : Int)) = false := by simp; omega
            have TE : Hid (TAt wr b (sonL wd st rg es T0)) := Lib.hid (by have := HT.out; rwa [List.take_of_length_le (by have := LE.out; omega)] at this)
            have LL : Hid ((sonL wd st rg es T0).length = sn) := Lib.hid (by rw [sonL_len, TL0.out])
            have BE := Lib.hid (BS.out wr HS.out)
            go_wp2_with fail
            go_ret2
            rw [HSN.out]
            exact ⟨⟨b, by rw [LL.out]; rfl, TE.out, HBW.out⟩, BE.out⟩
end Go.Proofs.YtpjiakgfegnmcaaGreat
namespace Go.Proofs.YtpjiakgfegnmcaaGreat
open Go.ChangeShapes Go.WideShapes Go.ChangeAt Go.RowKit

theorem Tryz.own : ownKnob Tryz.prog.godebug = none := by kernel_rfl
theorem Tryz.laidOut : laidOutB Tryz.prog = true := by kernel_rfl

/-- All arguments read behind the call as before. -/
theorem below_trodAll {H : Type} {enc : TypeId × Value → H} {P : Program} (hl : laidOutB P = true) {W W' : World} (hb : Below W.heap.size W W') :
    ∀ (ts : List TypeId) {vs : List Value} {ds : List (DataW H)} {ps : List MemPlace}, ts.all (fun t => P.readableRec t && decide (t < P.types.size)) = true → (∀ x ∈ ps, x.block < W.heap.size) →
      DataW.TrodAll enc P W 0 (fun _ => true) true ts vs ds ps → DataW.TrodAll enc P W' 0 (fun b => decide (b < W.heap.size)) true ts vs ds ps
  | [], [], [], _, _, _, h => h
  | [], _ :: _, _, _, _, _, h => h.elim
  | [], [], _ :: _, _, _, _, h => h.elim
  | _ :: _, [], _, _, _, _, h => h.elim
  | _ :: _, _ :: _, [], _, _, _, h => h.elim
  | t :: ts, v :: vs, d :: ds, ps, hr, hlt, h => by
    obtain ⟨p, q, h1, h2, rfl⟩ := h
    simp only [List.all_cons, Bool.and_eq_true, decide_eq_true_eq] at hr
    exact ⟨p, q, Below.trod hl hr.1.1 hr.1.2 h1 hb (fun x hx => hlt x (List.mem_append_left _ hx)), below_trodAll hl hb ts hr.2 (fun x hx => hlt x (List.mem_append_right _ hx)) h2, rfl⟩

/-- The row's end: the value true; the arguments as they were. -/
theorem post_of_law {H : Type} {enc : TypeId × Value → H} {P : Program} (hl : laidOutB P = true) {t : TypeId} (ht : P.underlying t = some .bool) {f : Func} {s : ChangeSpec} {W W' : World} {args : Array Value} {ds : List (DataW H)} {ps : List MemPlace}
    (hv : s.vars = []) (hf : f.resultTypes = #[t]) (hr : f.params.toList.all (fun t => P.readableRec t && decide (t < P.types.size)) = true)
    (hW : DataW.Whole enc P f.params.toList s.vars false W args.toList ds [] ps) (hA : DataW.TrodAll enc P W 0 (fun _ => true) true f.params.toList args.toList ds ps)
    (hs : s.fn H (ds ++ []) = { results := [.lit (.bool true)], args := ds }) (hb : Below W.heap.size W W') : s.post enc P f false true false false W args (.bool true) W' := by
  refine ⟨ds, [], ps, [], ps, [], hW, ?_, ?_, ?_, hb.frame _, fun h => by cases h⟩
  · rw [hs, hf]
    exact trodAll_mk1 (shut_bool ht _)
  · rw [hs]
    exact below_trodAll hl hb _ hr hW.lt hA
  · rw [hs, hv]
    rfl

end Go.Proofs.YtpjiakgfegnmcaaGreat
namespace Go.Proofs.YtpjiakgfegnmcaaGreat
open Go.ChangeShapes Go.WideShapes Go.ChangeAt Go.RowKit

theorem i64_of_wf {x : Int} (h : (Lit.int .i64 x).wf = true) : I64 x := by
  simp [Lit.wf, IntKind.min, IntKind.max, IntKind.signed, IntKind.bits] at h
  unfold I64
  omega
theorem Tryz.cells3 : Tryz.prog.cellsOf 3 = 1 := by kernel_rfl
theorem Tryz.cells38 : Tryz.prog.cellsOf 38 = 1 := by kernel_rfl
theorem Tryz.cells49 : Tryz.prog.cellsOf 49 = 2 := by kernel_rfl
theorem Tryz.cells29 : Tryz.prog.cellsOf 29 = 2 := by kernel_rfl
theorem Tryz.cells51 : Tryz.prog.cellsOf 51 = 19 := by kernel_rfl

section
variable {H : Type} {enc : TypeId × Value → H} {W : World} {fuel : Nat}

/-- One slice of ints, as a reading finds it. -/
theorem open_ri1 {cs : List Value} {y : DataW H × List MemPlace} (h : DataW.trod enc Tryz.prog W 0 (fun _ => true) true fuel 38 cs = some y) : ∃ a c l, cs = [.slice a l.length c] ∧ RdI W a l.length c l ∧ ∀ z ∈ l, I64 z := by
  rcases open_ints Tryz.underlying38 Tryz.underlying3 Tryz.cells3 h with ⟨hcs, hx⟩ | ⟨a, n, c, zs, hcs, _, hl, hm, hz, hx, hcell, hwz⟩
  · exact ⟨none, 0, [], hcs, RdA.nil _ _, fun z hz => by cases hz⟩
  · simp only [if_true] at hz
    have hlen : (zs.take n).length = n := by rw [List.length_take]; omega
    refine ⟨some a, c, zs.take n, by rw [hlen]; exact hcs, ⟨by simp, by omega, hm, ?_⟩, fun z hz => i64_of_wf (hwz z (List.mem_of_mem_take hz))⟩
    by_cases hc0 : c = 0
    · exact .inl hc0
    · obtain ⟨ab, ao, spot⟩ := a
      have hspot : spot = none := by simpa [Addr.add] using World.cell?_spot (hcell 0 (by omega))
      subst hspot
      refine .inr ⟨ab, ao, rfl, fun i x hx => ?_⟩
      rw [List.getElem?_map, List.getElem?_take] at hx
      split at hx
      · rename_i hi
        have hiz : i < zs.length := by omega
        rw [List.getElem?_eq_getElem hiz, Option.map_some] at hx
        simp only [Option.some.injEq] at hx
        subst hx
        have hc := hcell i hiz
        rw [Addr.add_lit] at hc
        rw [hc, List.getD_eq_getElem?_getD, List.getElem?_eq_getElem hiz]
        rfl
      · cases hx
theorem get_some {α : Type} {xs : List α} {n i : Nat} (h : xs.length = n) (hi : i < n) : ∃ y, xs[i]? = some y := ⟨xs[i]'(by omega), List.getElem?_eq_getElem (by omega)⟩
set_option maxRecDepth 100000 in
/-- Two ints. -/
theorem open_two {t : TypeId} {cs : List Value} {y : DataW H × List MemPlace} {f0 f1 : Field} (ht : Tryz.prog.underlying t = some (.struct #[f0, f1])) (h0 : f0.type = 3) (h1 : f1.type = 3) (o0 : f0.offset = 0) (o1 : f1.offset = 1) (hc : Tryz.prog.cellsOf t = 2)
    (h : DataW.trod enc Tryz.prog W 0 (fun _ => true) true fuel t cs = some y) : ∃ x z, cs = [.int .i64 x, .int .i64 z] ∧ I64 x ∧ I64 z := by
  obtain ⟨y0, y1, n, _, hl, g0, g1⟩ := trod_struct2 ht h
  rw [hc] at hl
  match cs, hl with
  | [c0, c1], _ =>
    rw [h0, o0, Tryz.cells3] at g0
    rw [h1, o1, Tryz.cells3] at g1
    obtain ⟨x, a0, _, b0⟩ := DataW.trod_int Tryz.underlying3 g0
    obtain ⟨z, a1, _, b1⟩ := DataW.trod_int Tryz.underlying3 g1
    simp at a0 a1
    exact ⟨x, z, by rw [a0, a1], i64_of_wf b0, i64_of_wf b1⟩

set_option maxHeartbeats 1000000 in
set_option maxRecDepth 100000 in
theorem open_note1 {cs : List Value} {y : DataW H × List MemPlace} (h : DataW.trod enc Tryz.prog W 0 (fun _ => true) true fuel 51 cs = some y) : ∃ n : NoteV, RdNote W cs n := by
  obtain ⟨xs, m, _, _, hl, hlen, hf⟩ := DataW.trod_struct Tryz.underlying51 h
  rw [Tryz.cells51] at hl
  match cs, hl with
  | [c0, c1, c2, c3, c4, c5, c6, c7, c8, c9, c10, c11, c12, c13, c14, c15, c16, c17, c18], _ =>
    obtain ⟨y0, e0⟩ := get_some hlen (i := 0) (by decide)
    have g0 : DataW.trod enc Tryz.prog W 0 (fun _ => true) true m 3 (([c0, c1, c2, c3, c4, c5, c6, c7, c8, c9, c10, c11, c12, c13, c14, c15, c16, c17, c18].drop 0).take (Tryz.prog.cellsOf 3)) = some y0 := (hf 0 _ rfl).trans e0
    rw [Tryz.cells3] at g0
    obtain ⟨x0, a0, _, b0⟩ := DataW.trod_int Tryz.underlying3 g0
    simp at a0
    clear e0 g0
    obtain ⟨y1, e1⟩ := get_some hlen (i := 1) (by decide)
    have g1 : DataW.trod enc Tryz.prog W 0 (fun _ => true) true m 3 (([c0, c1, c2, c3, c4, c5, c6, c7, c8, c9, c10, c11, c12, c13, c14, c15, c16, c17, c18].drop 1).take (Tryz.prog.cellsOf 3)) = some y1 := (hf 1 _ rfl).trans e1
    rw [Tryz.cells3] at g1
    obtain ⟨x1, a1, _, b1⟩ := DataW.trod_int Tryz.underlying3 g1
    simp at a1
    clear e1 g1
    obtain ⟨y2, e2⟩ := get_some hlen (i := 2) (by decide)
    have g2 : DataW.trod enc Tryz.prog W 0 (fun _ => true) true m 3 (([c0, c1, c2, c3, c4, c5, c6, c7, c8, c9, c10, c11, c12, c13, c14, c15, c16, c17, c18].drop 2).take (Tryz.prog.cellsOf 3)) = some y2 := (hf 2 _ rfl).trans e2
    rw [Tryz.cells3] at g2
    obtain ⟨x2, a2, _, b2⟩ := DataW.trod_int Tryz.underlying3 g2
    simp at a2
    clear e2 g2
    obtain ⟨y3, e3⟩ := get_some hlen (i := 3) (by decide)
    have g3 : DataW.trod enc Tryz.prog W 0 (fun _ => true) true m 3 (([c0, c1, c2, c3, c4, c5, c6, c7, c8, c9, c10, c11, c12, c13, c14, c15, c16, c17, c18].drop 3).take (Tryz.prog.cellsOf 3)) = some y3 := (hf 3 _ rfl).trans e3
    rw [Tryz.cells3] at g3
    obtain ⟨x3, a3, _, b3⟩ := DataW.trod_int Tryz.underlying3 g3
    simp at a3
    clear e3 g3
    obtain ⟨y4, e4⟩ := get_some hlen (i := 4) (by decide)
    have g4 : DataW.trod enc Tryz.prog W 0 (fun _ => true) true m 3 (([c0, c1, c2, c3, c4, c5, c6, c7, c8, c9, c10, c11, c12, c13, c14, c15, c16, c17, c18].drop 4).take (Tryz.prog.cellsOf 3)) = some y4 := (hf 4 _ rfl).trans e4
    rw [Tryz.cells3] at g4
    obtain ⟨x4, a4, _, b4⟩ := DataW.trod_int Tryz.underlying3 g4
    simp at a4
    clear e4 g4
    obtain ⟨y5, e5⟩ := get_some hlen (i := 5) (by decide)
    have g5 : DataW.trod enc Tryz.prog W 0 (fun _ => true) true m 3 (([c0, c1, c2, c3, c4, c5, c6, c7, c8, c9, c10, c11, c12, c13, c14, c15, c16, c17, c18].drop 5).take (Tryz.prog.cellsOf 3)) = some y5 := (hf 5 _ rfl).trans e5
    rw [Tryz.cells3] at g5
    obtain ⟨x5, a5, _, b5⟩ := DataW.trod_int Tryz.underlying3 g5
    simp at a5
    clear e5 g5
    obtain ⟨y6, e6⟩ := get_some hlen (i := 6) (by decide)
    have g6 : DataW.trod enc Tryz.prog W 0 (fun _ => true) true m 3 (([c0, c1, c2, c3, c4, c5, c6, c7, c8, c9, c10, c11, c12, c13, c14, c15, c16, c17, c18].drop 6).take (Tryz.prog.cellsOf 3)) = some y6 := (hf 6 _ rfl).trans e6
    rw [Tryz.cells3] at g6
    obtain ⟨x6, a6, _, b6⟩ := DataW.trod_int Tryz.underlying3 g6
    simp at a6
    clear e6 g6
    obtain ⟨y7, e7⟩ := get_some hlen (i := 7) (by decide)
    have g7 : DataW.trod enc Tryz.prog W 0 (fun _ => true) true m 3 (([c0, c1, c2, c3, c4, c5, c6, c7, c8, c9, c10, c11, c12, c13, c14, c15, c16, c17, c18].drop 7).take (Tryz.prog.cellsOf 3)) = some y7 := (hf 7 _ rfl).trans e7
    rw [Tryz.cells3] at g7
    obtain ⟨x7, a7, _, b7⟩ := DataW.trod_int Tryz.underlying3 g7
    simp at a7
    clear e7 g7
    obtain ⟨y8, e8⟩ := get_some hlen (i := 8) (by decide)
    have g8 : DataW.trod enc Tryz.prog W 0 (fun _ => true) true m 49 (([c0, c1, c2, c3, c4, c5, c6, c7, c8, c9, c10, c11, c12, c13, c14, c15, c16, c17, c18].drop 8).take (Tryz.prog.cellsOf 49)) = some y8 := (hf 8 _ rfl).trans e8
    rw [Tryz.cells49] at g8
    obtain ⟨x8, z8, a8, b8, d8⟩ := open_two Tryz.underlying49 rfl rfl rfl rfl Tryz.cells49 g8
    simp at a8
    clear e8 g8
    obtain ⟨y9, e9⟩ := get_some hlen (i := 9) (by decide)
    have g9 : DataW.trod enc Tryz.prog W 0 (fun _ => true) true m 49 (([c0, c1, c2, c3, c4, c5, c6, c7, c8, c9, c10, c11, c12, c13, c14, c15, c16, c17, c18].drop 10).take (Tryz.prog.cellsOf 49)) = some y9 := (hf 9 _ rfl).trans e9
    rw [Tryz.cells49] at g9
    obtain ⟨x9, z9, a9, b9, d9⟩ := open_two Tryz.underlying49 rfl rfl rfl rfl Tryz.cells49 g9
    simp at a9
    clear e9 g9
    obtain ⟨y10, e10⟩ := get_some hlen (i := 10) (by decide)
    have g10 : DataW.trod enc Tryz.prog W 0 (fun _ => true) true m 3 (([c0, c1, c2, c3, c4, c5, c6, c7, c8, c9, c10, c11, c12, c13, c14, c15, c16, c17, c18].drop 12).take (Tryz.prog.cellsOf 3)) = some y10 := (hf 10 _ rfl).trans e10
    rw [Tryz.cells3] at g10
    obtain ⟨x10, a10, _, b10⟩ := DataW.trod_int Tryz.underlying3 g10
    simp at a10
    clear e10 g10
    obtain ⟨y11, e11⟩ := get_some hlen (i := 11) (by decide)
    have g11 : DataW.trod enc Tryz.prog W 0 (fun _ => true) true m 3 (([c0, c1, c2, c3, c4, c5, c6, c7, c8, c9, c10, c11, c12, c13, c14, c15, c16, c17, c18].drop 13).take (Tryz.prog.cellsOf 3)) = some y11 := (hf 11 _ rfl).trans e11
    rw [Tryz.cells3] at g11
    obtain ⟨x11, a11, _, b11⟩ := DataW.trod_int Tryz.underlying3 g11
    simp at a11
    clear e11 g11
    obtain ⟨y12, e12⟩ := get_some hlen (i := 12) (by decide)
    have g12 : DataW.trod enc Tryz.prog W 0 (fun _ => true) true m 3 (([c0, c1, c2, c3, c4, c5, c6, c7, c8, c9, c10, c11, c12, c13, c14, c15, c16, c17, c18].drop 14).take (Tryz.prog.cellsOf 3)) = some y12 := (hf 12 _ rfl).trans e12
    rw [Tryz.cells3] at g12
    obtain ⟨x12, a12, _, b12⟩ := DataW.trod_int Tryz.underlying3 g12
    simp at a12
    clear e12 g12
    obtain ⟨y13, e13⟩ := get_some hlen (i := 13) (by decide)
    have g13 : DataW.trod enc Tryz.prog W 0 (fun _ => true) true m 38 (([c0, c1, c2, c3, c4, c5, c6, c7, c8, c9, c10, c11, c12, c13, c14, c15, c16, c17, c18].drop 15).take (Tryz.prog.cellsOf 38)) = some y13 := (hf 13 _ rfl).trans e13
    rw [Tryz.cells38] at g13
    obtain ⟨sa, sc, l, a13, r13, b13⟩ := open_ri1 g13
    simp at a13
    clear e13 g13
    obtain ⟨y14, e14⟩ := get_some hlen (i := 14) (by decide)
    have g14 : DataW.trod enc Tryz.prog W 0 (fun _ => true) true m 29 (([c0, c1, c2, c3, c4, c5, c6, c7, c8, c9, c10, c11, c12, c13, c14, c15, c16, c17, c18].drop 16).take (Tryz.prog.cellsOf 29)) = some y14 := (hf 14 _ rfl).trans e14
    rw [Tryz.cells29] at g14
    obtain ⟨x14, z14, a14, b14, d14⟩ := open_two Tryz.underlying29 rfl rfl rfl rfl Tryz.cells29 g14
    simp at a14
    clear e14 g14
    obtain ⟨y15, e15⟩ := get_some hlen (i := 15) (by decide)
    have g15 : DataW.trod enc Tryz.prog W 0 (fun _ => true) true m 3 (([c0, c1, c2, c3, c4, c5, c6, c7, c8, c9, c10, c11, c12, c13, c14, c15, c16, c17, c18].drop 18).take (Tryz.prog.cellsOf 3)) = some y15 := (hf 15 _ rfl).trans e15
    rw [Tryz.cells3] at g15
    obtain ⟨x15, a15, _, b15⟩ := DataW.trod_int Tryz.underlying3 g15
    simp at a15
    clear e15 g15
    exact ⟨{ house := x0, num := x1, clock := x2, day := x3, kind := x4, stone := x5, heap := x6, turns := x7, hardLo := x8, hardHi := z8, diffLo := x9, diffHi := z9, a := x10, b := x11, ring := x12, strokes := l, refH := x14, refN := z14, fix := x15 }, sa, sc, by simp only [NoteV.cells]; rw [a0, a1, a2, a3, a4, a5, a6, a7, a8.1, a8.2, a9.1, a9.2, a10, a11, a12, a13, a14.1, a14.2, a15], r13, { house := i64_of_wf b0, num := i64_of_wf b1, clock := i64_of_wf b2, day := i64_of_wf b3, kind := i64_of_wf b4, stone := i64_of_wf b5, heap := i64_of_wf b6, turns := i64_of_wf b7, hardLo := b8, hardHi := d8, diffLo := b9, diffHi := d9, a := i64_of_wf b10, b := i64_of_wf b11, ring := i64_of_wf b12, strokes := b13, refH := b14, refN := d14, fix := i64_of_wf b15 }⟩
end
end Go.Proofs.YtpjiakgfegnmcaaGreat
namespace Go.Proofs.YtpjiakgfegnmcaaGreat
open Go.ChangeShapes Go.WideShapes Go.ChangeAt Go.RowKit

theorem Tryz.cells23 : Tryz.prog.cellsOf 23 = 3 := by kernel_rfl
theorem Tryz.cells53 : Tryz.prog.cellsOf 53 = 21 := by kernel_rfl
theorem Tryz.cells24 : Tryz.prog.cellsOf 24 = 1 := by kernel_rfl
theorem Tryz.cells25 : Tryz.prog.cellsOf 25 = 1 := by kernel_rfl
theorem Tryz.cells27 : Tryz.prog.cellsOf 27 = 3 := by kernel_rfl
section
variable {H : Type} {enc : TypeId × Value → H} {W : World}
set_option maxRecDepth 100000 in
theorem hopen_frame {base : Nat} {v : Value} {d : DataW H} {p : List MemPlace} (hval : Value.okWide Tryz.prog W .any base 23 v)
    (h : DataW.Trod enc Tryz.prog W 0 (fun _ => true) true 23 v d p) : ∃ f : FrV, v = f.val := by
  obtain ⟨cs, rfl, hsz⟩ := okWide_struct Tryz.underlying23 hval
  obtain ⟨fuel, hf⟩ := h
  obtain ⟨y0, y1, y2, n, _, hl, g0, g1, g2⟩ := Go.Deep.trod_struct3 Tryz.underlying23 hf
  rw [Tryz.cells23] at hsz
  obtain ⟨l⟩ := cs
  match l, hsz with
  | [c0, c1, c2], _ =>
    have g0' : DataW.trod enc Tryz.prog W 0 (fun _ => true) true n 3 (([c0, c1, c2].drop 0).take (Tryz.prog.cellsOf 3)) = some y0 := g0
    have g1' : DataW.trod enc Tryz.prog W 0 (fun _ => true) true n 3 (([c0, c1, c2].drop 1).take (Tryz.prog.cellsOf 3)) = some y1 := g1
    have g2' : DataW.trod enc Tryz.prog W 0 (fun _ => true) true n 3 (([c0, c1, c2].drop 2).take (Tryz.prog.cellsOf 3)) = some y2 := g2
    rw [Tryz.cells3] at g0' g1' g2'
    obtain ⟨x0, a0, _, _⟩ := DataW.trod_int Tryz.underlying3 g0'
    obtain ⟨x1, a1, _, _⟩ := DataW.trod_int Tryz.underlying3 g1'
    obtain ⟨x2, a2, _, _⟩ := DataW.trod_int Tryz.underlying3 g2'
    simp at a0 a1 a2
    exact ⟨⟨x0, x1, x2⟩, by rw [a0, a1, a2]; rfl⟩
theorem cells_spot {a : Addr} {n : Nat} {cs : List Value} (hn : 0 < n) (h : W.cells? 0 a n = some cs) : a.spot = none := by
  have h2 := World.cells?_some h
  have h3 := h2.2.2 0 (by have := h2.1; omega)
  rw [List.getElem?_eq_getElem (by have := h2.1; omega)] at h3
  simpa [Addr.add] using World.cell?_spot h3
/-- A slice as a reading finds it: each element is read. -/
theorem open_rows {fuel : Nat} {cs : List Value} {y : DataW H × List MemPlace} {t e : TypeId} {k : Nat} (ht : Tryz.prog.underlying t = some (.slice e)) (hc : Tryz.prog.cellsOf e = k) (hk : 0 < k)
    (h : DataW.trod enc Tryz.prog W 0 (fun _ => true) true fuel t cs = some y) :
    ∃ a n c, cs = [.slice a n c] ∧ n ≤ c ∧ c ≤ maxLen ∧ (c = 0 ∨ ∃ b off, a = some ⟨b, off, none⟩ ∧ ∀ i, i < n → ∃ es m z, DataW.trod enc Tryz.prog W 0 (fun _ => true) true m e es = some z ∧ W.rangeAt b (off + i * k) es) := by
  rcases DataW.trod_slice ht h with ⟨hcs, hx⟩ | ⟨a, len', cap', elems, rest, m, _, hcs, hx, hb, hl, hm, hlen, hel, hsp, hns⟩
  · exact ⟨none, 0, 0, hcs, Nat.le_refl _, Nat.zero_le _, .inl rfl⟩
  · rw [hc] at hel hsp
    refine ⟨some a, len', cap', hcs, hl, hm, ?_⟩
    rcases Nat.eq_zero_or_pos cap' with h0 | h0
    · exact .inl h0
    · have hspot : a.spot = none := by
        rcases Nat.eq_zero_or_pos len' with h1 | h1
        · obtain ⟨h2, h3⟩ := hsp rfl
          have h4 := h3 0 (by omega)
          rw [List.getElem?_eq_getElem (by omega)] at h4
          cases hq : W.cells? 0 (a.add ((len' + 0) * k)) k with
          | none => rw [hq] at h4; cases h4
          | some cs => rw [show (len' + 0) * k = 0 by rw [h1]; simp] at hq; have := cells_spot hk hq; simpa [Addr.add] using this
        · have h4 := hel 0 h1
          rw [List.getElem?_eq_getElem (by omega)] at h4
          cases hq : W.cells? 0 (a.add (0 * k)) k with
          | none => rw [hq] at h4; cases h4
          | some cs => rw [Nat.zero_mul] at hq; have := cells_spot hk hq; simpa [Addr.add] using this
      obtain ⟨ab, ao, spot⟩ := a
      simp only at hspot
      subst hspot
      refine .inr ⟨ab, ao, rfl, fun i hi => ?_⟩
      have h1 := hel i hi
      rw [List.getElem?_eq_getElem (by omega)] at h1
      cases hcs : W.cells? 0 ((⟨ab, ao, none⟩ : Addr).add (i * k)) k with
      | none => rw [hcs] at h1; cases h1
      | some es =>
        rw [hcs] at h1
        have h2 := World.cells?_some hcs
        refine ⟨es, m, _, h1, fun j v hv => ?_⟩
        have hj : j < es.length := (List.getElem?_eq_some_iff.1 hv).1
        have h3 := h2.2.2 j (by have := h2.1; omega)
        rw [hv] at h3
        simpa [Addr.add_lit] using h3
theorem choose_list {α : Type} {n : Nat} {P : Nat → α → Prop} (h : ∀ i, i < n → ∃ x, P i x) : ∃ l : List α, l.length = n ∧ ∀ i x, l[i]? = some x → P i x := by
  induction n with
  | zero => exact ⟨[], rfl, by simp⟩
  | succ n ih =>
    obtain ⟨l, h1, h2⟩ := ih (fun i hi => h i (by omega))
    obtain ⟨x, hx⟩ := h n (by omega)
    refine ⟨l ++ [x], by simp [h1], fun i y hy => ?_⟩
    rcases Nat.lt_or_ge i l.length with hi | hi
    · rw [List.getElem?_append_left hi] at hy; exact h2 i y hy
    · rw [List.getElem?_append_right hi] at hy
      have : i - l.length = 0 := by
        rcases Nat.eq_zero_or_pos (i - l.length) with h0 | h0
        · exact h0
        · rw [List.getElem?_eq_none (by simp; omega)] at hy; cases hy
      rw [this] at hy
      simp at hy
      subst hy
      have : i = n := by omega
      rw [this]; exact hx
set_option maxRecDepth 100000 in
theorem open_event1 {fuel : Nat} {cs : List Value} {y : DataW H × List MemPlace} (h : DataW.trod enc Tryz.prog W 0 (fun _ => true) true fuel 53 cs = some y) : ∃ e : EvV, cs = e.cells ∧ e.x.ok W ∧ e.x.n.Ok ∧ nmOk e.nm := by
  obtain ⟨y0, y1, m, _, hl, g0, g1⟩ := trod_struct2 Tryz.underlying53 h
  rw [Tryz.cells53] at hl
  have g0' : DataW.trod enc Tryz.prog W 0 (fun _ => true) true m 29 ((cs.drop 0).take (Tryz.prog.cellsOf 29)) = some y0 := g0
  have g1' : DataW.trod enc Tryz.prog W 0 (fun _ => true) true m 51 ((cs.drop 2).take (Tryz.prog.cellsOf 51)) = some y1 := g1
  rw [Tryz.cells29] at g0'
  rw [Tryz.cells51] at g1'
  obtain ⟨x, z, e0, i0, i1⟩ := open_two Tryz.underlying29 rfl rfl rfl rfl Tryz.cells29 g0'
  obtain ⟨n, sa, sc, e1, r1, o1⟩ := open_note1 g1'
  refine ⟨⟨(x, z), ⟨n, sa, sc⟩⟩, ?_, r1, o1, i0, i1⟩
  have h2 : cs = cs.take 2 ++ (cs.drop 2).take 19 := by
    rw [List.take_of_length_le (l := cs.drop 2) (by rw [List.length_drop]; omega), List.take_append_drop]
  rw [h2, e1]
  rw [List.drop_zero] at e0
  rw [e0]
  rfl
set_option maxRecDepth 100000 in
theorem open_events1 {fuel : Nat} {cs : List Value} {y : DataW H × List MemPlace} (h : DataW.trod enc Tryz.prog W 0 (fun _ => true) true fuel 24 cs = some y) : ∃ a n c es, cs = [.slice a n c] ∧ RdEs W a n c es ∧ ∀ e ∈ es, e.x.ok W ∧ e.x.n.Ok ∧ nmOk e.nm := by
  obtain ⟨a, n, c, rfl, h1, h2, h3⟩ := open_rows Tryz.underlying24 Tryz.cells53 (by decide) h
  rcases h3 with h3 | ⟨b, off, rfl, h3⟩
  · exact ⟨a, n, c, [], rfl, ⟨by simp; omega, h1, h2, .inl h3⟩, fun x hx => by cases hx⟩
  · obtain ⟨l, h4, h5⟩ := choose_list (P := fun i (x : EvV) => W.rangeAt b (off + i * 21) x.cells ∧ x.x.ok W ∧ x.x.n.Ok ∧ nmOk x.nm) (fun i hi => by
      obtain ⟨es, m, z, h6, h7⟩ := h3 i hi
      obtain ⟨x, rfl, hx⟩ := open_event1 h6
      exact ⟨x, h7, hx⟩)
    refine ⟨_, n, c, l, rfl, ⟨h4, h1, h2, .inr ⟨b, off, rfl, fun i x hx => (h5 i x hx).1⟩⟩, fun x hx => ?_⟩
    obtain ⟨i, hi⟩ := List.getElem?_of_mem hx
    exact (h5 i x hi).2
set_option maxRecDepth 100000 in
theorem open_reg {base : Nat} {v : Value} {d : DataW H} {p : List MemPlace} (hval : Value.okWide Tryz.prog W .any base 27 v)
    (h : DataW.Trod enc Tryz.prog W 0 (fun _ => true) true 27 v d p) : ∃ ha hn hc hs ea en ec es ca cn cc, v = .agg #[.slice ha hn hc, .slice ea en ec, .slice ca cn cc] ∧ RdEs W ha hn hc hs ∧ RdEs W ea en ec es ∧ ∀ e ∈ hs ++ es, e.x.ok W ∧ e.x.n.Ok ∧ nmOk e.nm := by
  obtain ⟨cs, rfl, hsz⟩ := okWide_struct Tryz.underlying27 hval
  obtain ⟨fuel, hf⟩ := h
  obtain ⟨y0, y1, y2, n, _, hl, g0, g1, g2⟩ := Go.Deep.trod_struct3 Tryz.underlying27 hf
  rw [Tryz.cells27] at hsz
  obtain ⟨l⟩ := cs
  match l, hsz with
  | [c0, c1, c2], _ =>
    have g0' : DataW.trod enc Tryz.prog W 0 (fun _ => true) true n 24 (([c0, c1, c2].drop 0).take (Tryz.prog.cellsOf 24)) = some y0 := g0
    have g1' : DataW.trod enc Tryz.prog W 0 (fun _ => true) true n 24 (([c0, c1, c2].drop 1).take (Tryz.prog.cellsOf 24)) = some y1 := g1
    have g2' : DataW.trod enc Tryz.prog W 0 (fun _ => true) true n 25 (([c0, c1, c2].drop 2).take (Tryz.prog.cellsOf 25)) = some y2 := g2
    rw [Tryz.cells24] at g0' g1'
    rw [Tryz.cells25] at g2'
    obtain ⟨ha, hn, hc, hs, e0, r0, o0⟩ := open_events1 g0'
    obtain ⟨ea, en, ec, es, e1, r1, o1⟩ := open_events1 g1'
    obtain ⟨ca, cn, cc, e2, _⟩ := open_rows Tryz.underlying25 Tryz.cells29 (by decide) g2'
    simp at e0 e1 e2
    refine ⟨ha, hn, hc, hs, ea, en, ec, es, ca, cn, cc, by rw [e0, e1, e2], r0, r1, fun e he => ?_⟩
    rcases List.mem_append.1 he with he | he
    · exact o0 e he
    · exact o1 e he
end
end Go.Proofs.YtpjiakgfegnmcaaGreat
namespace Go.Proofs.YtpjiakgfegnmcaaGreat
open Go.ChangeShapes Go.WideShapes Go.ChangeAt Go.RowKit

/-- What is asked. -/
structure AskV where
  day : Int
  clock : Int
  stone : Int
  ring : Int
  heap : Int
  rh : Int
  rn : Int
def AskV.cells (x : AskV) : Array Value := #[.int .i64 x.day, .int .i64 x.clock, .int .i64 x.stone, .int .i64 x.ring, .int .i64 x.heap, .int .i64 x.rh, .int .i64 x.rn]
structure AskV.Ok (x : AskV) : Prop where
  day : I64 x.day
  clock : I64 x.clock
  ref : nmOk (x.rh, x.rn)
theorem Tryz.cells31 : Tryz.prog.cellsOf 31 = 7 := by kernel_rfl
section
variable {H : Type} {enc : TypeId × Value → H} {W : World}
set_option maxHeartbeats 1000000 in
set_option maxRecDepth 100000 in
theorem open_ask {base : Nat} {v : Value} {d : DataW H} {p : List MemPlace} (hval : Value.okWide Tryz.prog W .any base 31 v)
    (h : DataW.Trod enc Tryz.prog W 0 (fun _ => true) true 31 v d p) : ∃ x : AskV, v = .agg x.cells ∧ x.Ok := by
  obtain ⟨cs, rfl, hsz⟩ := okWide_struct Tryz.underlying31 hval
  obtain ⟨fuel, hf0⟩ := h
  obtain ⟨xs, m, _, _, hl, hlen, hf⟩ := DataW.trod_struct Tryz.underlying31 hf0
  rw [Tryz.cells31] at hsz
  obtain ⟨l⟩ := cs
  match l, hsz with
  | [c0, c1, c2, c3, c4, c5, c6], _ =>
    obtain ⟨y0, e0⟩ := get_some hlen (i := 0) (by decide)
    have g0 : DataW.trod enc Tryz.prog W 0 (fun _ => true) true m 3 (([c0, c1, c2, c3, c4, c5, c6].drop 0).take (Tryz.prog.cellsOf 3)) = some y0 := (hf 0 _ rfl).trans e0
    rw [Tryz.cells3] at g0
    obtain ⟨x0, a0, _, b0⟩ := DataW.trod_int Tryz.underlying3 g0
    simp at a0
    clear e0 g0
    obtain ⟨y1, e1⟩ := get_some hlen (i := 1) (by decide)
    have g1 : DataW.trod enc Tryz.prog W 0 (fun _ => true) true m 3 (([c0, c1, c2, c3, c4, c5, c6].drop 1).take (Tryz.prog.cellsOf 3)) = some y1 := (hf 1 _ rfl).trans e1
    rw [Tryz.cells3] at g1
    obtain ⟨x1, a1, _, b1⟩ := DataW.trod_int Tryz.underlying3 g1
    simp at a1
    clear e1 g1
    obtain ⟨y2, e2⟩ := get_some hlen (i := 2) (by decide)
    have g2 : DataW.trod enc Tryz.prog W 0 (fun _ => true) true m 3 (([c0, c1, c2, c3, c4, c5, c6].drop 2).take (Tryz.prog.cellsOf 3)) = some y2 := (hf 2 _ rfl).trans e2
    rw [Tryz.cells3] at g2
    obtain ⟨x2, a2, _, b2⟩ := DataW.trod_int Tryz.underlying3 g2
    simp at a2
    clear e2 g2
    obtain ⟨y3, e3⟩ := get_some hlen (i := 3) (by decide)
    have g3 : DataW.trod enc Tryz.prog W 0 (fun _ => true) true m 3 (([c0, c1, c2, c3, c4, c5, c6].drop 3).take (Tryz.prog.cellsOf 3)) = some y3 := (hf 3 _ rfl).trans e3
    rw [Tryz.cells3] at g3
    obtain ⟨x3, a3, _, b3⟩ := DataW.trod_int Tryz.underlying3 g3
    simp at a3
    clear e3 g3
    obtain ⟨y4, e4⟩ := get_some hlen (i := 4) (by decide)
    have g4 : DataW.trod enc Tryz.prog W 0 (fun _ => true) true m 3 (([c0, c1, c2, c3, c4, c5, c6].drop 4).take (Tryz.prog.cellsOf 3)) = some y4 := (hf 4 _ rfl).trans e4
    rw [Tryz.cells3] at g4
    obtain ⟨x4, a4, _, b4⟩ := DataW.trod_int Tryz.underlying3 g4
    simp at a4
    clear e4 g4
    obtain ⟨y5, e5⟩ := get_some hlen (i := 5) (by decide)
    have g5 : DataW.trod enc Tryz.prog W 0 (fun _ => true) true m 29 (([c0, c1, c2, c3, c4, c5, c6].drop 5).take (Tryz.prog.cellsOf 29)) = some y5 := (hf 5 _ rfl).trans e5
    rw [Tryz.cells29] at g5
    obtain ⟨x5, z5, a5, b5, d5⟩ := open_two Tryz.underlying29 rfl rfl rfl rfl Tryz.cells29 g5
    simp at a5
    exact ⟨⟨x0, x1, x2, x3, x4, x5, z5⟩, by rw [a0, a1, a2, a3, a4, a5.1, a5.2]; rfl, ⟨i64_of_wf b0, i64_of_wf b1, ⟨b5, d5⟩⟩⟩
end
end Go.Proofs.YtpjiakgfegnmcaaGreat
