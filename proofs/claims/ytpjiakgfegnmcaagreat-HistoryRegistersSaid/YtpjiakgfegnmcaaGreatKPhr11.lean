/- Parts of the proof, in this order: The reference's wellFormed and CheckNote; Which registers are right, in the reference: rightRegister, RightRegister; The plain law of a register, third part: the register of a set is right, its events are in order, its passes have their heaps. -/
import Derived.Test.YtpjiakgfegnmcaaGreatKPhr10
set_option linter.unusedSimpArgs false
set_option linter.unusedVariables false
namespace Go.Proofs.YtpjiakgfegnmcaaGreat
open Go.RowKit

/-- A frame and a note, boxed one behind the other. -/
structure LocF (w W : World) (p0 p1 : Nat) (f : FrV) (n : NoteV) (sa : Option Addr) (sc : Nat) : Prop where
  e0 : W.heap[p0]? = some (.cells #[.int .i64 f.rings, .int .i64 f.sectors, .int .i64 f.wide] 23 (0, 0))
  e1 : W.heap[p1]? = some (.cells (noteA n sa sc) 51 (0, 0))
  b : Below p0 w W
  lt : p0 < p1
theorem LocF.below {w W W' : World} {p0 p1 : Nat} {f : FrV} {n : NoteV} {sa : Option Addr} {sc : Nat} (h : LocF w W p0 p1 f n sa sc) (hb : Below W.heap.size W W') : LocF w W' p0 p1 f n sa sc := by
  have g : ∀ {k : Nat} {o : Obj}, W.heap[k]? = some o → W'.heap[k]? = some o := fun {k o} hk => (hb.block k (Array.getElem?_eq_some_iff.1 hk).1).trans hk
  have h0 := (Array.getElem?_eq_some_iff.1 h.e0).1
  exact ⟨g h.e0, g h.e1, h.b.trans (hb.mono (by omega)), h.lt⟩
theorem frame_cells {W : World} {p : Nat} {A : Array Value} {t : TypeId} {sp : Nat × Nat} (h : W.heap[p]? = some (.cells A t sp)) (j : Nat) (v : Value) (hv : A[j]? = some v) : W.cell? ⟨p, j, none⟩ = some v := by
  simp [World.cell?, h, hv]
section
attribute [local go_sem] noteA_0 noteA_1 noteA_2 noteA_3 noteA_4 noteA_5 noteA_6 noteA_7 noteA_8 noteA_9 noteA_10 noteA_11 noteA_12 noteA_13 noteA_14 noteA_15 noteA_16 noteA_17 noteA_18
variable (f : FrV) (n : NoteV) (sa : Option Addr) (sc : Nat) (w : World)
set_option maxHeartbeats 20000000 in
set_option maxRecDepth 100000 in
theorem well_2 (hv : f.valid = true) (hs : RdI w sa n.strokes.length sc n.strokes) (hk : n.kind = 2) :
    Calls Tryz.prog 65 #[f.val, .agg (noteA n sa sc)] w fun e w' => e = .returned (.bool (wellB f n)) ∧ Below w.heap.size w w' := by
  have I43 := Lib.hid (show ∀ (m : NoteV) (a : Option Addr) (c : Nat), (Tryz.prog.info? 51).map (·.size) = some (noteA m a c).size from fun m a c => by kernel_rfl)
  have g1 := heap_at (w.alloc (.cells #[.int .i64 f.rings, .int .i64 f.sectors, .int .i64 f.wide] 23)) (.cells (noteA n sa sc) 51) (w.heap.size + 1) (by simp)
  have g0 := heap_before (w.alloc (.cells #[.int .i64 f.rings, .int .i64 f.sectors, .int .i64 f.wide] 23)) (.cells (noteA n sa sc) 51) _ _ (heap_at w (.cells #[.int .i64 f.rings, .int .i64 f.sectors, .int .i64 f.wide] 23) _ rfl)
  have bb : Below w.heap.size w ((w.alloc (.cells #[.int .i64 f.rings, .int .i64 f.sectors, .int .i64 f.wide] 23)).alloc (.cells (noteA n sa sc) 51)) := ((Below.refl _ _).alloc (Nat.le_refl _) _).alloc (by simp) _
  have L0 : Hid (LocF w ((w.alloc (.cells #[.int .i64 f.rings, .int .i64 f.sectors, .int .i64 f.wide] 23)).alloc (.cells (noteA n sa sc) 51)) w.heap.size (w.heap.size + 1) f n sa sc) := Lib.hid ⟨g0, g1, bb, by omega⟩
  clear g0 g1 bb
  unfold FrV.val
  go_enter Tryz.func65, Tryz.ntmps65
  go_upto_region 1 with fail
  generalize hW0 : (w.alloc (.cells #[.int .i64 f.rings, .int .i64 f.sectors, .int .i64 f.wide] 23)).alloc (.cells (noteA n sa sc) 51) = W0 at *
  generalize hp0 : w.heap.size = p0 at *
  generalize hp1 : p0 + 1 = p1 at *
  have RDb := Lib.hid (show ∀ W', Below p0 w W' → RdI W' sa n.strokes.length sc n.strokes from fun W' h => hs.below (by rw [hp0]; exact h))
  have HP0 := Lib.hid hp0; clear hp0 hp1 hW0
  have HV := Lib.hid hv; clear hv
  have HK := Lib.hid hk; clear hk
  have q2 : (n.kind == 2) = true := by simp [HK.out]
  have q2' : decide (n.kind = 2) = true := by simp [HK.out]
  have q5 : (n.kind == 5) = false := by simp [HK.out]
  have q5' : decide (n.kind = 5) = false := by simp [HK.out]
  have q6 : (n.kind == 6) = false := by simp [HK.out]
  have q6' : decide (n.kind = 6) = false := by simp [HK.out]
  have HRS := Lib.hid (show refersB n = true by simp [refersB, HK.out])
  have HK2 := Lib.hid (show ¬ n.kind = 6 ∧ ¬ n.kind = 5 by rw [HK.out]; decide)
  go_wp2_with   (first
      | (refine wpList_load_row rfl 51 _ rfl p1 rfl 51 (noteA n sa sc) (0, 0) _ L0.out.e1 Tryz.underlying51 rfl (I43.out _ _ _) ?_)
      | (refine wpList_load_rowG ?hw 51 _ rfl p1 rfl 51 (noteA n sa sc) (0, 0) _ L0.out.e1 Tryz.underlying51 rfl (I43.out _ _ _) ?_; case hw => rfl))
  refine (rNameOf_any n sa sc _).mono ?_
  rintro e w1 ⟨rfl, b1⟩
  have L1 := Lib.hid (L0.out.below b1); clear b1
  go_wp2_with fail
  refine (rrightName_any n.house n.num _).mono ?_
  rintro e w2 ⟨rfl, b2⟩
  have L2 := Lib.hid (L1.out.below b2); clear b2
  cases hrn : rightNameB n.house n.num
  · have hR : wellB f n = false := by simp [wellB, HRS.out, HK2.out.1, HK2.out.2, hrn]
    have HRX := Lib.hid hR; clear hR
    go_wp2_with fail
    go_ret
    rw [HRX.out]
    exact ⟨rfl, by first | exact L2.out.b | (rw [HP0.out]; exact L2.out.b)⟩
  · have HRN := Lib.hid hrn; clear hrn
    have k2 := note_cells L2.out.e1 2 _ rfl
    simp only [Nat.zero_add] at k2
    have k3 := note_cells L2.out.e1 3 _ rfl
    simp only [Nat.zero_add] at k3
    have k4 := note_cells L2.out.e1 4 _ rfl
    simp only [Nat.zero_add] at k4
    have k16 := note_cells L2.out.e1 16 _ rfl
    simp only [Nat.zero_add] at k16
    have k17 := note_cells L2.out.e1 17 _ rfl
    simp only [Nat.zero_add] at k17
    go_wp2_with fail
    refine (rin_any n.clock 1 1099511627776 _).mono ?_
    rintro e w' ⟨rfl, rfl⟩
    cases hcl : inB n.clock 1 1099511627776
    · have hR : wellB f n = false := by simp [wellB, HRS.out, HK2.out.1, HK2.out.2, HRN.out, hcl]
      have HRX := Lib.hid hR; clear hR
      go_wp2_with fail
      go_ret
      rw [HRX.out]
      exact ⟨rfl, by first | exact L2.out.b | (rw [HP0.out]; exact L2.out.b)⟩
    · have HCL := Lib.hid hcl; clear hcl
      go_wp2_with fail
      refine (rin_any n.day 0 99999 _).mono ?_
      rintro e w' ⟨rfl, rfl⟩
      cases hda : inB n.day 0 99999
      · have hR : wellB f n = false := by simp [wellB, HRS.out, HK2.out.1, HK2.out.2, HRN.out, HCL.out, hda]
        have HRX := Lib.hid hR; clear hR
        go_wp2_with fail
        go_ret
        rw [HRX.out]
        exact ⟨rfl, by first | exact L2.out.b | (rw [HP0.out]; exact L2.out.b)⟩
      · have HDA := Lib.hid hda; clear hda
        by_cases h16 : n.refH = 0
        · by_cases h17 : n.refN = 0
          · have r16 : (n.refH == 0) = true := by simp [h16]
            have r16' : decide (n.refH = 0) = true := by simp [h16]
            have r17 : (n.refN == 0) = true := by simp [h17]
            have r17' : decide (n.refN = 0) = true := by simp [h17]
            have HNM := Lib.hid (show namedB n = false by simp [namedB, h16, h17])
            clear h16 h17
            have hR : wellB f n = false := by simp [wellB, HRS.out, HK2.out.1, HK2.out.2, HRN.out, HCL.out, HDA.out, HNM.out]
            have HRX := Lib.hid hR; clear hR
            go_wp2_with fail
            go_ret
            rw [HRX.out]
            exact ⟨rfl, by first | exact L2.out.b | (rw [HP0.out]; exact L2.out.b)⟩
          · have r16 : (n.refH == 0) = true := by simp [h16]
            have r16' : decide (n.refH = 0) = true := by simp [h16]
            have r17 : (n.refN == 0) = false := by simp [h17]
            have r17' : decide (n.refN = 0) = false := by simp [h17]
            have HNM := Lib.hid (show namedB n = true by simp [namedB, h16, h17])
            clear h16 h17
            go_wp2_with fail
            refine (rrightName_any n.refH n.refN _).mono ?_
            rintro e w3 ⟨rfl, b3⟩
            have L3 := Lib.hid (L2.out.below b3); clear b3
            cases hrf : rightNameB n.refH n.refN
            · have hR : wellB f n = false := by simp [wellB, HRS.out, HK2.out.1, HK2.out.2, HRN.out, HCL.out, HDA.out, HNM.out, hrf]
              have HRX := Lib.hid hR; clear hR
              go_wp2_with fail
              go_ret
              rw [HRX.out]
              exact ⟨rfl, by first | exact L3.out.b | (rw [HP0.out]; exact L3.out.b)⟩
            · have HRF := Lib.hid hrf; clear hrf
              clear k2 k3 k4 k16 k17
              have k4 := note_cells L3.out.e1 4 _ rfl
              simp only [Nat.zero_add] at k4
              by_cases hfx : n.fix = 0
              · have hfx1 : (n.fix == 0) = true := by simp [hfx]
                have hfx2 : decide (n.fix = 0) = true := by simp [hfx]
                have HFX := Lib.hid hfx; clear hfx
                have k18 := note_cells L3.out.e1 18 _ rfl
                simp only [Nat.zero_add] at k18
                have c0 := frame_cells L3.out.e0 0 _ rfl
                have c1 := frame_cells L3.out.e0 1 _ rfl
                have c2 := frame_cells L3.out.e0 2 _ rfl
                go_wp2_with   (first
                    | (refine wpList_load_row rfl 51 _ rfl p1 rfl 51 (noteA n sa sc) (0, 0) _ L3.out.e1 Tryz.underlying51 rfl (I43.out _ _ _) ?_)
                    | (refine wpList_load_rowG ?hw 51 _ rfl p1 rfl 51 (noteA n sa sc) (0, 0) _ L3.out.e1 Tryz.underlying51 rfl (I43.out _ _ _) ?_; case hw => rfl))

                refine (right_any f n sa sc _ HV.out (RDb.out _ L3.out.b) (n.kind)).mono ?_
                rintro e w5 ⟨rfl, b5⟩
                have L5 := Lib.hid (L3.out.below b5); clear b5
                cases hr : rightB f (n.kind) n
                · have hR : wellB f n = false := by simp [wellB, HRS.out, HK2.out.1, HK2.out.2, HRN.out, HCL.out, HDA.out, HNM.out, HRF.out, HFX.out, hr]
                  have HRX := Lib.hid hR; clear hR
                  go_wp2_with fail
                  go_ret
                  rw [HRX.out]
                  exact ⟨rfl, by first | exact L5.out.b | (rw [HP0.out]; exact L5.out.b)⟩
                · have HRR := Lib.hid hr; clear hr
                  go_wp2_with   (first
                      | (refine wpList_load_row rfl 51 _ rfl p1 rfl 51 (noteA n sa sc) (0, 0) _ L5.out.e1 Tryz.underlying51 rfl (I43.out _ _ _) ?_)
                      | (refine wpList_load_rowG ?hw 51 _ rfl p1 rfl 51 (noteA n sa sc) (0, 0) _ L5.out.e1 Tryz.underlying51 rfl (I43.out _ _ _) ?_; case hw => rfl))

                  refine (bare_any n sa sc _ (RDb.out _ L5.out.b) (n.kind)).mono ?_
                  rintro e w6 ⟨ta, tc, rfl, hrd, b6⟩
                  have L6 := Lib.hid (L5.out.below b6); clear b6
                  have hR : wellB f n = sameB (bareR (n.kind) n) zeroN := by simp [wellB, HRS.out, HK2.out.1, HK2.out.2, HRN.out, HCL.out, HDA.out, HNM.out, HRF.out, HFX.out, HRR.out]
                  obtain ⟨N, HN⟩ : ∃ N, Hid (bareR (n.kind) n = N) := ⟨_, Lib.hid rfl⟩
                  rw [HN.out] at hrd hR
                  have HRX := Lib.hid hR; clear hR
                  have RD6 := Lib.hid hrd; clear hrd
                  rw [HN.out]
                  go_wp2_with fail
                  refine (rsame_any N zeroN ta tc none 0 _ RD6.out (RdA.nil _ 1)).mono ?_
                  rintro e w7 ⟨rfl, b7⟩
                  have L7 := Lib.hid (L6.out.below b7); clear b7
                  go_wp2_with fail
                  go_ret
                  rw [HRX.out]
                  exact ⟨rfl, by first | exact L7.out.b | (rw [HP0.out]; exact L7.out.b)⟩
              · have hfx1 : (n.fix == 0) = false := by simp [hfx]
                have hfx2 : decide (n.fix = 0) = false := by simp [hfx]
                have HFX := Lib.hid hfx; clear hfx
                have k18 := note_cells L3.out.e1 18 _ rfl
                simp only [Nat.zero_add] at k18
                have hR : wellB f n = false := by simp [wellB, HRS.out, HK2.out.1, HK2.out.2, HRN.out, HCL.out, HDA.out, HNM.out, HRF.out, HFX.out]
                have HRX := Lib.hid hR; clear hR
                go_wp2_with fail
                go_ret
                rw [HRX.out]
                exact ⟨rfl, by first | exact L3.out.b | (rw [HP0.out]; exact L3.out.b)⟩
        · have r16 : (n.refH == 0) = false := by simp [h16]
          have r16' : decide (n.refH = 0) = false := by simp [h16]
          have HNM := Lib.hid (show namedB n = true by simp [namedB, h16])
          clear h16
          go_wp2_with fail
          refine (rrightName_any n.refH n.refN _).mono ?_
          rintro e w3 ⟨rfl, b3⟩
          have L3 := Lib.hid (L2.out.below b3); clear b3
          cases hrf : rightNameB n.refH n.refN
          · have hR : wellB f n = false := by simp [wellB, HRS.out, HK2.out.1, HK2.out.2, HRN.out, HCL.out, HDA.out, HNM.out, hrf]
            have HRX := Lib.hid hR; clear hR
            go_wp2_with fail
            go_ret
            rw [HRX.out]
            exact ⟨rfl, by first | exact L3.out.b | (rw [HP0.out]; exact L3.out.b)⟩
          · have HRF := Lib.hid hrf; clear hrf
            clear k2 k3 k4 k16 k17
            have k4 := note_cells L3.out.e1 4 _ rfl
            simp only [Nat.zero_add] at k4
            by_cases hfx : n.fix = 0
            · have hfx1 : (n.fix == 0) = true := by simp [hfx]
              have hfx2 : decide (n.fix = 0) = true := by simp [hfx]
              have HFX := Lib.hid hfx; clear hfx
              have k18 := note_cells L3.out.e1 18 _ rfl
              simp only [Nat.zero_add] at k18
              have c0 := frame_cells L3.out.e0 0 _ rfl
              have c1 := frame_cells L3.out.e0 1 _ rfl
              have c2 := frame_cells L3.out.e0 2 _ rfl
              go_wp2_with   (first
                  | (refine wpList_load_row rfl 51 _ rfl p1 rfl 51 (noteA n sa sc) (0, 0) _ L3.out.e1 Tryz.underlying51 rfl (I43.out _ _ _) ?_)
                  | (refine wpList_load_rowG ?hw 51 _ rfl p1 rfl 51 (noteA n sa sc) (0, 0) _ L3.out.e1 Tryz.underlying51 rfl (I43.out _ _ _) ?_; case hw => rfl))

              refine (right_any f n sa sc _ HV.out (RDb.out _ L3.out.b) (n.kind)).mono ?_
              rintro e w5 ⟨rfl, b5⟩
              have L5 := Lib.hid (L3.out.below b5); clear b5
              cases hr : rightB f (n.kind) n
              · have hR : wellB f n = false := by simp [wellB, HRS.out, HK2.out.1, HK2.out.2, HRN.out, HCL.out, HDA.out, HNM.out, HRF.out, HFX.out, hr]
                have HRX := Lib.hid hR; clear hR
                go_wp2_with fail
                go_ret
                rw [HRX.out]
                exact ⟨rfl, by first | exact L5.out.b | (rw [HP0.out]; exact L5.out.b)⟩
              · have HRR := Lib.hid hr; clear hr
                go_wp2_with   (first
                    | (refine wpList_load_row rfl 51 _ rfl p1 rfl 51 (noteA n sa sc) (0, 0) _ L5.out.e1 Tryz.underlying51 rfl (I43.out _ _ _) ?_)
                    | (refine wpList_load_rowG ?hw 51 _ rfl p1 rfl 51 (noteA n sa sc) (0, 0) _ L5.out.e1 Tryz.underlying51 rfl (I43.out _ _ _) ?_; case hw => rfl))

                refine (bare_any n sa sc _ (RDb.out _ L5.out.b) (n.kind)).mono ?_
                rintro e w6 ⟨ta, tc, rfl, hrd, b6⟩
                have L6 := Lib.hid (L5.out.below b6); clear b6
                have hR : wellB f n = sameB (bareR (n.kind) n) zeroN := by simp [wellB, HRS.out, HK2.out.1, HK2.out.2, HRN.out, HCL.out, HDA.out, HNM.out, HRF.out, HFX.out, HRR.out]
                obtain ⟨N, HN⟩ : ∃ N, Hid (bareR (n.kind) n = N) := ⟨_, Lib.hid rfl⟩
                rw [HN.out] at hrd hR
                have HRX := Lib.hid hR; clear hR
                have RD6 := Lib.hid hrd; clear hrd
                rw [HN.out]
                go_wp2_with fail
                refine (rsame_any N zeroN ta tc none 0 _ RD6.out (RdA.nil _ 1)).mono ?_
                rintro e w7 ⟨rfl, b7⟩
                have L7 := Lib.hid (L6.out.below b7); clear b7
                go_wp2_with fail
                go_ret
                rw [HRX.out]
                exact ⟨rfl, by first | exact L7.out.b | (rw [HP0.out]; exact L7.out.b)⟩
            · have hfx1 : (n.fix == 0) = false := by simp [hfx]
              have hfx2 : decide (n.fix = 0) = false := by simp [hfx]
              have HFX := Lib.hid hfx; clear hfx
              have k18 := note_cells L3.out.e1 18 _ rfl
              simp only [Nat.zero_add] at k18
              have hR : wellB f n = false := by simp [wellB, HRS.out, HK2.out.1, HK2.out.2, HRN.out, HCL.out, HDA.out, HNM.out, HRF.out, HFX.out]
              have HRX := Lib.hid hR; clear hR
              go_wp2_with fail
              go_ret
              rw [HRX.out]
              exact ⟨rfl, by first | exact L3.out.b | (rw [HP0.out]; exact L3.out.b)⟩
set_option maxHeartbeats 20000000 in
set_option maxRecDepth 100000 in
theorem well_5 (hv : f.valid = true) (hs : RdI w sa n.strokes.length sc n.strokes) (hk : n.kind = 5) :
    Calls Tryz.prog 65 #[f.val, .agg (noteA n sa sc)] w fun e w' => e = .returned (.bool (wellB f n)) ∧ Below w.heap.size w w' := by
  have I43 := Lib.hid (show ∀ (m : NoteV) (a : Option Addr) (c : Nat), (Tryz.prog.info? 51).map (·.size) = some (noteA m a c).size from fun m a c => by kernel_rfl)
  have g1 := heap_at (w.alloc (.cells #[.int .i64 f.rings, .int .i64 f.sectors, .int .i64 f.wide] 23)) (.cells (noteA n sa sc) 51) (w.heap.size + 1) (by simp)
  have g0 := heap_before (w.alloc (.cells #[.int .i64 f.rings, .int .i64 f.sectors, .int .i64 f.wide] 23)) (.cells (noteA n sa sc) 51) _ _ (heap_at w (.cells #[.int .i64 f.rings, .int .i64 f.sectors, .int .i64 f.wide] 23) _ rfl)
  have bb : Below w.heap.size w ((w.alloc (.cells #[.int .i64 f.rings, .int .i64 f.sectors, .int .i64 f.wide] 23)).alloc (.cells (noteA n sa sc) 51)) := ((Below.refl _ _).alloc (Nat.le_refl _) _).alloc (by simp) _
  have L0 : Hid (LocF w ((w.alloc (.cells #[.int .i64 f.rings, .int .i64 f.sectors, .int .i64 f.wide] 23)).alloc (.cells (noteA n sa sc) 51)) w.heap.size (w.heap.size + 1) f n sa sc) := Lib.hid ⟨g0, g1, bb, by omega⟩
  clear g0 g1 bb
  unfold FrV.val
  go_enter Tryz.func65, Tryz.ntmps65
  go_upto_region 1 with fail
  generalize hW0 : (w.alloc (.cells #[.int .i64 f.rings, .int .i64 f.sectors, .int .i64 f.wide] 23)).alloc (.cells (noteA n sa sc) 51) = W0 at *
  generalize hp0 : w.heap.size = p0 at *
  generalize hp1 : p0 + 1 = p1 at *
  have RDb := Lib.hid (show ∀ W', Below p0 w W' → RdI W' sa n.strokes.length sc n.strokes from fun W' h => hs.below (by rw [hp0]; exact h))
  have HP0 := Lib.hid hp0; clear hp0 hp1 hW0
  have HV := Lib.hid hv; clear hv
  have HK := Lib.hid hk; clear hk
  have q2 : (n.kind == 2) = false := by simp [HK.out]
  have q2' : decide (n.kind = 2) = false := by simp [HK.out]
  have q5 : (n.kind == 5) = true := by simp [HK.out]
  have q5' : decide (n.kind = 5) = true := by simp [HK.out]
  have q6 : (n.kind == 6) = false := by simp [HK.out]
  have q6' : decide (n.kind = 6) = false := by simp [HK.out]
  have HRS := Lib.hid (show refersB n = true by simp [refersB, HK.out])
  go_wp2_with   (first
      | (refine wpList_load_row rfl 51 _ rfl p1 rfl 51 (noteA n sa sc) (0, 0) _ L0.out.e1 Tryz.underlying51 rfl (I43.out _ _ _) ?_)
      | (refine wpList_load_rowG ?hw 51 _ rfl p1 rfl 51 (noteA n sa sc) (0, 0) _ L0.out.e1 Tryz.underlying51 rfl (I43.out _ _ _) ?_; case hw => rfl))
  refine (rNameOf_any n sa sc _).mono ?_
  rintro e w1 ⟨rfl, b1⟩
  have L1 := Lib.hid (L0.out.below b1); clear b1
  go_wp2_with fail
  refine (rrightName_any n.house n.num _).mono ?_
  rintro e w2 ⟨rfl, b2⟩
  have L2 := Lib.hid (L1.out.below b2); clear b2
  cases hrn : rightNameB n.house n.num
  · have hR : wellB f n = false := by simp [wellB, HRS.out, HK.out, hrn]
    have HRX := Lib.hid hR; clear hR
    go_wp2_with fail
    go_ret
    rw [HRX.out]
    exact ⟨rfl, by first | exact L2.out.b | (rw [HP0.out]; exact L2.out.b)⟩
  · have HRN := Lib.hid hrn; clear hrn
    have k2 := note_cells L2.out.e1 2 _ rfl
    simp only [Nat.zero_add] at k2
    have k3 := note_cells L2.out.e1 3 _ rfl
    simp only [Nat.zero_add] at k3
    have k4 := note_cells L2.out.e1 4 _ rfl
    simp only [Nat.zero_add] at k4
    have k16 := note_cells L2.out.e1 16 _ rfl
    simp only [Nat.zero_add] at k16
    have k17 := note_cells L2.out.e1 17 _ rfl
    simp only [Nat.zero_add] at k17
    go_wp2_with fail
    refine (rin_any n.clock 1 1099511627776 _).mono ?_
    rintro e w' ⟨rfl, rfl⟩
    cases hcl : inB n.clock 1 1099511627776
    · have hR : wellB f n = false := by simp [wellB, HRS.out, HK.out, HRN.out, hcl]
      have HRX := Lib.hid hR; clear hR
      go_wp2_with fail
      go_ret
      rw [HRX.out]
      exact ⟨rfl, by first | exact L2.out.b | (rw [HP0.out]; exact L2.out.b)⟩
    · have HCL := Lib.hid hcl; clear hcl
      go_wp2_with fail
      refine (rin_any n.day 0 99999 _).mono ?_
      rintro e w' ⟨rfl, rfl⟩
      cases hda : inB n.day 0 99999
      · have hR : wellB f n = false := by simp [wellB, HRS.out, HK.out, HRN.out, HCL.out, hda]
        have HRX := Lib.hid hR; clear hR
        go_wp2_with fail
        go_ret
        rw [HRX.out]
        exact ⟨rfl, by first | exact L2.out.b | (rw [HP0.out]; exact L2.out.b)⟩
      · have HDA := Lib.hid hda; clear hda
        by_cases h16 : n.refH = 0
        · by_cases h17 : n.refN = 0
          · have r16 : (n.refH == 0) = true := by simp [h16]
            have r16' : decide (n.refH = 0) = true := by simp [h16]
            have r17 : (n.refN == 0) = true := by simp [h17]
            have r17' : decide (n.refN = 0) = true := by simp [h17]
            have HNM := Lib.hid (show namedB n = false by simp [namedB, h16, h17])
            clear h16 h17
            have hR : wellB f n = false := by simp [wellB, HRS.out, HK.out, HRN.out, HCL.out, HDA.out, HNM.out]
            have HRX := Lib.hid hR; clear hR
            go_wp2_with fail
            go_ret
            rw [HRX.out]
            exact ⟨rfl, by first | exact L2.out.b | (rw [HP0.out]; exact L2.out.b)⟩
          · have r16 : (n.refH == 0) = true := by simp [h16]
            have r16' : decide (n.refH = 0) = true := by simp [h16]
            have r17 : (n.refN == 0) = false := by simp [h17]
            have r17' : decide (n.refN = 0) = false := by simp [h17]
            have HNM := Lib.hid (show namedB n = true by simp [namedB, h16, h17])
            clear h16 h17
            go_wp2_with fail
            refine (rrightName_any n.refH n.refN _).mono ?_
            rintro e w3 ⟨rfl, b3⟩
            have L3 := Lib.hid (L2.out.below b3); clear b3
            cases hrf : rightNameB n.refH n.refN
            · have hR : wellB f n = false := by simp [wellB, HRS.out, HK.out, HRN.out, HCL.out, HDA.out, HNM.out, hrf]
              have HRX := Lib.hid hR; clear hR
              go_wp2_with fail
              go_ret
              rw [HRX.out]
              exact ⟨rfl, by first | exact L3.out.b | (rw [HP0.out]; exact L3.out.b)⟩
            · have HRF := Lib.hid hrf; clear hrf
              clear k2 k3 k4 k16 k17
              have k4 := note_cells L3.out.e1 4 _ rfl
              simp only [Nat.zero_add] at k4
              have k18 := note_cells L3.out.e1 18 _ rfl
              simp only [Nat.zero_add] at k18
              have c0 := frame_cells L3.out.e0 0 _ rfl
              have c1 := frame_cells L3.out.e0 1 _ rfl
              have c2 := frame_cells L3.out.e0 2 _ rfl
              go_wp2_with   (first
                  | (refine wpList_load_row rfl 51 _ rfl p1 rfl 51 (noteA n sa sc) (0, 0) _ L3.out.e1 Tryz.underlying51 rfl (I43.out _ _ _) ?_)
                  | (refine wpList_load_rowG ?hw 51 _ rfl p1 rfl 51 (noteA n sa sc) (0, 0) _ L3.out.e1 Tryz.underlying51 rfl (I43.out _ _ _) ?_; case hw => rfl))

              refine (right_any f n sa sc _ HV.out (RDb.out _ L3.out.b) (n.fix)).mono ?_
              rintro e w5 ⟨rfl, b5⟩
              have L5 := Lib.hid (L3.out.below b5); clear b5
              cases hr : rightB f (n.fix) n
              · have hR : wellB f n = false := by simp [wellB, HRS.out, HK.out, HRN.out, HCL.out, HDA.out, HNM.out, HRF.out, hr]
                have HRX := Lib.hid hR; clear hR
                go_wp2_with fail
                go_ret
                rw [HRX.out]
                exact ⟨rfl, by first | exact L5.out.b | (rw [HP0.out]; exact L5.out.b)⟩
              · have HRR := Lib.hid hr; clear hr
                go_wp2_with   (first
                    | (refine wpList_load_row rfl 51 _ rfl p1 rfl 51 (noteA n sa sc) (0, 0) _ L5.out.e1 Tryz.underlying51 rfl (I43.out _ _ _) ?_)
                    | (refine wpList_load_rowG ?hw 51 _ rfl p1 rfl 51 (noteA n sa sc) (0, 0) _ L5.out.e1 Tryz.underlying51 rfl (I43.out _ _ _) ?_; case hw => rfl))

                refine (bare_any n sa sc _ (RDb.out _ L5.out.b) (n.fix)).mono ?_
                rintro e w6 ⟨ta, tc, rfl, hrd, b6⟩
                have L6 := Lib.hid (L5.out.below b6); clear b6
                have hR : wellB f n = sameB (bareR (n.fix) n) zeroN := by simp [wellB, HRS.out, HK.out, HRN.out, HCL.out, HDA.out, HNM.out, HRF.out, HRR.out]
                obtain ⟨N, HN⟩ : ∃ N, Hid (bareR (n.fix) n = N) := ⟨_, Lib.hid rfl⟩
                rw [HN.out] at hrd hR
                have HRX := Lib.hid hR; clear hR
                have RD6 := Lib.hid hrd; clear hrd
                rw [HN.out]
                go_wp2_with fail
                refine (rsame_any N zeroN ta tc none 0 _ RD6.out (RdA.nil _ 1)).mono ?_
                rintro e w7 ⟨rfl, b7⟩
                have L7 := Lib.hid (L6.out.below b7); clear b7
                go_wp2_with fail
                go_ret
                rw [HRX.out]
                exact ⟨rfl, by first | exact L7.out.b | (rw [HP0.out]; exact L7.out.b)⟩
        · have r16 : (n.refH == 0) = false := by simp [h16]
          have r16' : decide (n.refH = 0) = false := by simp [h16]
          have HNM := Lib.hid (show namedB n = true by simp [namedB, h16])
          clear h16
          go_wp2_with fail
          refine (rrightName_any n.refH n.refN _).mono ?_
          rintro e w3 ⟨rfl, b3⟩
          have L3 := Lib.hid (L2.out.below b3); clear b3
          cases hrf : rightNameB n.refH n.refN
          · have hR : wellB f n = false := by simp [wellB, HRS.out, HK.out, HRN.out, HCL.out, HDA.out, HNM.out, hrf]
            have HRX := Lib.hid hR; clear hR
            go_wp2_with fail
            go_ret
            rw [HRX.out]
            exact ⟨rfl, by first | exact L3.out.b | (rw [HP0.out]; exact L3.out.b)⟩
          · have HRF := Lib.hid hrf; clear hrf
            clear k2 k3 k4 k16 k17
            have k4 := note_cells L3.out.e1 4 _ rfl
            simp only [Nat.zero_add] at k4
            have k18 := note_cells L3.out.e1 18 _ rfl
            simp only [Nat.zero_add] at k18
            have c0 := frame_cells L3.out.e0 0 _ rfl
            have c1 := frame_cells L3.out.e0 1 _ rfl
            have c2 := frame_cells L3.out.e0 2 _ rfl
            go_wp2_with   (first
                | (refine wpList_load_row rfl 51 _ rfl p1 rfl 51 (noteA n sa sc) (0, 0) _ L3.out.e1 Tryz.underlying51 rfl (I43.out _ _ _) ?_)
                | (refine wpList_load_rowG ?hw 51 _ rfl p1 rfl 51 (noteA n sa sc) (0, 0) _ L3.out.e1 Tryz.underlying51 rfl (I43.out _ _ _) ?_; case hw => rfl))

            refine (right_any f n sa sc _ HV.out (RDb.out _ L3.out.b) (n.fix)).mono ?_
            rintro e w5 ⟨rfl, b5⟩
            have L5 := Lib.hid (L3.out.below b5); clear b5
            cases hr : rightB f (n.fix) n
            · have hR : wellB f n = false := by simp [wellB, HRS.out, HK.out, HRN.out, HCL.out, HDA.out, HNM.out, HRF.out, hr]
              have HRX := Lib.hid hR; clear hR
              go_wp2_with fail
              go_ret
              rw [HRX.out]
              exact ⟨rfl, by first | exact L5.out.b | (rw [HP0.out]; exact L5.out.b)⟩
            · have HRR := Lib.hid hr; clear hr
              go_wp2_with   (first
                  | (refine wpList_load_row rfl 51 _ rfl p1 rfl 51 (noteA n sa sc) (0, 0) _ L5.out.e1 Tryz.underlying51 rfl (I43.out _ _ _) ?_)
                  | (refine wpList_load_rowG ?hw 51 _ rfl p1 rfl 51 (noteA n sa sc) (0, 0) _ L5.out.e1 Tryz.underlying51 rfl (I43.out _ _ _) ?_; case hw => rfl))

              refine (bare_any n sa sc _ (RDb.out _ L5.out.b) (n.fix)).mono ?_
              rintro e w6 ⟨ta, tc, rfl, hrd, b6⟩
              have L6 := Lib.hid (L5.out.below b6); clear b6
              have hR : wellB f n = sameB (bareR (n.fix) n) zeroN := by simp [wellB, HRS.out, HK.out, HRN.out, HCL.out, HDA.out, HNM.out, HRF.out, HRR.out]
              obtain ⟨N, HN⟩ : ∃ N, Hid (bareR (n.fix) n = N) := ⟨_, Lib.hid rfl⟩
              rw [HN.out] at hrd hR
              have HRX := Lib.hid hR; clear hR
              have RD6 := Lib.hid hrd; clear hrd
              rw [HN.out]
              go_wp2_with fail
              refine (rsame_any N zeroN ta tc none 0 _ RD6.out (RdA.nil _ 1)).mono ?_
              rintro e w7 ⟨rfl, b7⟩
              have L7 := Lib.hid (L6.out.below b7); clear b7
              go_wp2_with fail
              go_ret
              rw [HRX.out]
              exact ⟨rfl, by first | exact L7.out.b | (rw [HP0.out]; exact L7.out.b)⟩
set_option maxHeartbeats 20000000 in
set_option maxRecDepth 100000 in
theorem well_6 (hv : f.valid = true) (hs : RdI w sa n.strokes.length sc n.strokes) (hk : n.kind = 6) :
    Calls Tryz.prog 65 #[f.val, .agg (noteA n sa sc)] w fun e w' => e = .returned (.bool (wellB f n)) ∧ Below w.heap.size w w' := by
  have I43 := Lib.hid (show ∀ (m : NoteV) (a : Option Addr) (c : Nat), (Tryz.prog.info? 51).map (·.size) = some (noteA m a c).size from fun m a c => by kernel_rfl)
  have g1 := heap_at (w.alloc (.cells #[.int .i64 f.rings, .int .i64 f.sectors, .int .i64 f.wide] 23)) (.cells (noteA n sa sc) 51) (w.heap.size + 1) (by simp)
  have g0 := heap_before (w.alloc (.cells #[.int .i64 f.rings, .int .i64 f.sectors, .int .i64 f.wide] 23)) (.cells (noteA n sa sc) 51) _ _ (heap_at w (.cells #[.int .i64 f.rings, .int .i64 f.sectors, .int .i64 f.wide] 23) _ rfl)
  have bb : Below w.heap.size w ((w.alloc (.cells #[.int .i64 f.rings, .int .i64 f.sectors, .int .i64 f.wide] 23)).alloc (.cells (noteA n sa sc) 51)) := ((Below.refl _ _).alloc (Nat.le_refl _) _).alloc (by simp) _
  have L0 : Hid (LocF w ((w.alloc (.cells #[.int .i64 f.rings, .int .i64 f.sectors, .int .i64 f.wide] 23)).alloc (.cells (noteA n sa sc) 51)) w.heap.size (w.heap.size + 1) f n sa sc) := Lib.hid ⟨g0, g1, bb, by omega⟩
  clear g0 g1 bb
  unfold FrV.val
  go_enter Tryz.func65, Tryz.ntmps65
  go_upto_region 1 with fail
  generalize hW0 : (w.alloc (.cells #[.int .i64 f.rings, .int .i64 f.sectors, .int .i64 f.wide] 23)).alloc (.cells (noteA n sa sc) 51) = W0 at *
  generalize hp0 : w.heap.size = p0 at *
  generalize hp1 : p0 + 1 = p1 at *
  have RDb := Lib.hid (show ∀ W', Below p0 w W' → RdI W' sa n.strokes.length sc n.strokes from fun W' h => hs.below (by rw [hp0]; exact h))
  have HP0 := Lib.hid hp0; clear hp0 hp1 hW0
  have HV := Lib.hid hv; clear hv
  have HK := Lib.hid hk; clear hk
  have q2 : (n.kind == 2) = false := by simp [HK.out]
  have q2' : decide (n.kind = 2) = false := by simp [HK.out]
  have q5 : (n.kind == 5) = false := by simp [HK.out]
  have q5' : decide (n.kind = 5) = false := by simp [HK.out]
  have q6 : (n.kind == 6) = true := by simp [HK.out]
  have q6' : decide (n.kind = 6) = true := by simp [HK.out]
  have HRS := Lib.hid (show refersB n = true by simp [refersB, HK.out])
  go_wp2_with   (first
      | (refine wpList_load_row rfl 51 _ rfl p1 rfl 51 (noteA n sa sc) (0, 0) _ L0.out.e1 Tryz.underlying51 rfl (I43.out _ _ _) ?_)
      | (refine wpList_load_rowG ?hw 51 _ rfl p1 rfl 51 (noteA n sa sc) (0, 0) _ L0.out.e1 Tryz.underlying51 rfl (I43.out _ _ _) ?_; case hw => rfl))
  refine (rNameOf_any n sa sc _).mono ?_
  rintro e w1 ⟨rfl, b1⟩
  have L1 := Lib.hid (L0.out.below b1); clear b1
  go_wp2_with fail
  refine (rrightName_any n.house n.num _).mono ?_
  rintro e w2 ⟨rfl, b2⟩
  have L2 := Lib.hid (L1.out.below b2); clear b2
  cases hrn : rightNameB n.house n.num
  · have hR : wellB f n = false := by simp [wellB, HRS.out, HK.out, hrn]
    have HRX := Lib.hid hR; clear hR
    go_wp2_with fail
    go_ret
    rw [HRX.out]
    exact ⟨rfl, by first | exact L2.out.b | (rw [HP0.out]; exact L2.out.b)⟩
  · have HRN := Lib.hid hrn; clear hrn
    have k2 := note_cells L2.out.e1 2 _ rfl
    simp only [Nat.zero_add] at k2
    have k3 := note_cells L2.out.e1 3 _ rfl
    simp only [Nat.zero_add] at k3
    have k4 := note_cells L2.out.e1 4 _ rfl
    simp only [Nat.zero_add] at k4
    have k16 := note_cells L2.out.e1 16 _ rfl
    simp only [Nat.zero_add] at k16
    have k17 := note_cells L2.out.e1 17 _ rfl
    simp only [Nat.zero_add] at k17
    go_wp2_with fail
    refine (rin_any n.clock 1 1099511627776 _).mono ?_
    rintro e w' ⟨rfl, rfl⟩
    cases hcl : inB n.clock 1 1099511627776
    · have hR : wellB f n = false := by simp [wellB, HRS.out, HK.out, HRN.out, hcl]
      have HRX := Lib.hid hR; clear hR
      go_wp2_with fail
      go_ret
      rw [HRX.out]
      exact ⟨rfl, by first | exact L2.out.b | (rw [HP0.out]; exact L2.out.b)⟩
    · have HCL := Lib.hid hcl; clear hcl
      go_wp2_with fail
      refine (rin_any n.day 0 99999 _).mono ?_
      rintro e w' ⟨rfl, rfl⟩
      cases hda : inB n.day 0 99999
      · have hR : wellB f n = false := by simp [wellB, HRS.out, HK.out, HRN.out, HCL.out, hda]
        have HRX := Lib.hid hR; clear hR
        go_wp2_with fail
        go_ret
        rw [HRX.out]
        exact ⟨rfl, by first | exact L2.out.b | (rw [HP0.out]; exact L2.out.b)⟩
      · have HDA := Lib.hid hda; clear hda
        by_cases h16 : n.refH = 0
        · by_cases h17 : n.refN = 0
          · have r16 : (n.refH == 0) = true := by simp [h16]
            have r16' : decide (n.refH = 0) = true := by simp [h16]
            have r17 : (n.refN == 0) = true := by simp [h17]
            have r17' : decide (n.refN = 0) = true := by simp [h17]
            have HNM := Lib.hid (show namedB n = false by simp [namedB, h16, h17])
            clear h16 h17
            have hR : wellB f n = false := by simp [wellB, HRS.out, HK.out, HRN.out, HCL.out, HDA.out, HNM.out]
            have HRX := Lib.hid hR; clear hR
            go_wp2_with fail
            go_ret
            rw [HRX.out]
            exact ⟨rfl, by first | exact L2.out.b | (rw [HP0.out]; exact L2.out.b)⟩
          · have r16 : (n.refH == 0) = true := by simp [h16]
            have r16' : decide (n.refH = 0) = true := by simp [h16]
            have r17 : (n.refN == 0) = false := by simp [h17]
            have r17' : decide (n.refN = 0) = false := by simp [h17]
            have HNM := Lib.hid (show namedB n = true by simp [namedB, h16, h17])
            clear h16 h17
            go_wp2_with fail
            refine (rrightName_any n.refH n.refN _).mono ?_
            rintro e w3 ⟨rfl, b3⟩
            have L3 := Lib.hid (L2.out.below b3); clear b3
            cases hrf : rightNameB n.refH n.refN
            · have hR : wellB f n = false := by simp [wellB, HRS.out, HK.out, HRN.out, HCL.out, HDA.out, HNM.out, hrf]
              have HRX := Lib.hid hR; clear hR
              go_wp2_with fail
              go_ret
              rw [HRX.out]
              exact ⟨rfl, by first | exact L3.out.b | (rw [HP0.out]; exact L3.out.b)⟩
            · have HRF := Lib.hid hrf; clear hrf
              clear k2 k3 k4 k16 k17
              have k4 := note_cells L3.out.e1 4 _ rfl
              simp only [Nat.zero_add] at k4
              by_cases hfx : n.fix = 0
              · have hfx1 : (n.fix == 0) = true := by simp [hfx]
                have hfx2 : decide (n.fix = 0) = true := by simp [hfx]
                have HFX := Lib.hid hfx; clear hfx
                have k18 := note_cells L3.out.e1 18 _ rfl
                simp only [Nat.zero_add] at k18
                go_wp2_with   (first
                    | (refine wpList_load_row rfl 51 _ rfl p1 rfl 51 (noteA n sa sc) (0, 0) _ L3.out.e1 Tryz.underlying51 rfl (I43.out _ _ _) ?_)
                    | (refine wpList_load_rowG ?hw 51 _ rfl p1 rfl 51 (noteA n sa sc) (0, 0) _ L3.out.e1 Tryz.underlying51 rfl (I43.out _ _ _) ?_; case hw => rfl))

                refine (bare_any n sa sc _ (RDb.out _ L3.out.b) (0)).mono ?_
                rintro e w6 ⟨ta, tc, rfl, hrd, b6⟩
                have L6 := Lib.hid (L3.out.below b6); clear b6
                have hR : wellB f n = sameB (bareR (0) n) zeroN := by simp [wellB, HRS.out, HK.out, HRN.out, HCL.out, HDA.out, HNM.out, HRF.out, HFX.out]
                obtain ⟨N, HN⟩ : ∃ N, Hid (bareR (0) n = N) := ⟨_, Lib.hid rfl⟩
                rw [HN.out] at hrd hR
                have HRX := Lib.hid hR; clear hR
                have RD6 := Lib.hid hrd; clear hrd
                rw [HN.out]
                go_wp2_with fail
                refine (rsame_any N zeroN ta tc none 0 _ RD6.out (RdA.nil _ 1)).mono ?_
                rintro e w7 ⟨rfl, b7⟩
                have L7 := Lib.hid (L6.out.below b7); clear b7
                go_wp2_with fail
                go_ret
                rw [HRX.out]
                exact ⟨rfl, by first | exact L7.out.b | (rw [HP0.out]; exact L7.out.b)⟩
              · have hfx1 : (n.fix == 0) = false := by simp [hfx]
                have hfx2 : decide (n.fix = 0) = false := by simp [hfx]
                have HFX := Lib.hid hfx; clear hfx
                have k18 := note_cells L3.out.e1 18 _ rfl
                simp only [Nat.zero_add] at k18
                have hR : wellB f n = false := by simp [wellB, HRS.out, HK.out, HRN.out, HCL.out, HDA.out, HNM.out, HRF.out, HFX.out]
                have HRX := Lib.hid hR; clear hR
                go_wp2_with fail
                go_ret
                rw [HRX.out]
                exact ⟨rfl, by first | exact L3.out.b | (rw [HP0.out]; exact L3.out.b)⟩
        · have r16 : (n.refH == 0) = false := by simp [h16]
          have r16' : decide (n.refH = 0) = false := by simp [h16]
          have HNM := Lib.hid (show namedB n = true by simp [namedB, h16])
          clear h16
          go_wp2_with fail
          refine (rrightName_any n.refH n.refN _).mono ?_
          rintro e w3 ⟨rfl, b3⟩
          have L3 := Lib.hid (L2.out.below b3); clear b3
          cases hrf : rightNameB n.refH n.refN
          · have hR : wellB f n = false := by simp [wellB, HRS.out, HK.out, HRN.out, HCL.out, HDA.out, HNM.out, hrf]
            have HRX := Lib.hid hR; clear hR
            go_wp2_with fail
            go_ret
            rw [HRX.out]
            exact ⟨rfl, by first | exact L3.out.b | (rw [HP0.out]; exact L3.out.b)⟩
          · have HRF := Lib.hid hrf; clear hrf
            clear k2 k3 k4 k16 k17
            have k4 := note_cells L3.out.e1 4 _ rfl
            simp only [Nat.zero_add] at k4
            by_cases hfx : n.fix = 0
            · have hfx1 : (n.fix == 0) = true := by simp [hfx]
              have hfx2 : decide (n.fix = 0) = true := by simp [hfx]
              have HFX := Lib.hid hfx; clear hfx
              have k18 := note_cells L3.out.e1 18 _ rfl
              simp only [Nat.zero_add] at k18
              go_wp2_with   (first
                  | (refine wpList_load_row rfl 51 _ rfl p1 rfl 51 (noteA n sa sc) (0, 0) _ L3.out.e1 Tryz.underlying51 rfl (I43.out _ _ _) ?_)
                  | (refine wpList_load_rowG ?hw 51 _ rfl p1 rfl 51 (noteA n sa sc) (0, 0) _ L3.out.e1 Tryz.underlying51 rfl (I43.out _ _ _) ?_; case hw => rfl))

              refine (bare_any n sa sc _ (RDb.out _ L3.out.b) (0)).mono ?_
              rintro e w6 ⟨ta, tc, rfl, hrd, b6⟩
              have L6 := Lib.hid (L3.out.below b6); clear b6
              have hR : wellB f n = sameB (bareR (0) n) zeroN := by simp [wellB, HRS.out, HK.out, HRN.out, HCL.out, HDA.out, HNM.out, HRF.out, HFX.out]
              obtain ⟨N, HN⟩ : ∃ N, Hid (bareR (0) n = N) := ⟨_, Lib.hid rfl⟩
              rw [HN.out] at hrd hR
              have HRX := Lib.hid hR; clear hR
              have RD6 := Lib.hid hrd; clear hrd
              rw [HN.out]
              go_wp2_with fail
              refine (rsame_any N zeroN ta tc none 0 _ RD6.out (RdA.nil _ 1)).mono ?_
              rintro e w7 ⟨rfl, b7⟩
              have L7 := Lib.hid (L6.out.below b7); clear b7
              go_wp2_with fail
              go_ret
              rw [HRX.out]
              exact ⟨rfl, by first | exact L7.out.b | (rw [HP0.out]; exact L7.out.b)⟩
            · have hfx1 : (n.fix == 0) = false := by simp [hfx]
              have hfx2 : decide (n.fix = 0) = false := by simp [hfx]
              have HFX := Lib.hid hfx; clear hfx
              have k18 := note_cells L3.out.e1 18 _ rfl
              simp only [Nat.zero_add] at k18
              have hR : wellB f n = false := by simp [wellB, HRS.out, HK.out, HRN.out, HCL.out, HDA.out, HNM.out, HRF.out, HFX.out]
              have HRX := Lib.hid hR; clear hR
              go_wp2_with fail
              go_ret
              rw [HRX.out]
              exact ⟨rfl, by first | exact L3.out.b | (rw [HP0.out]; exact L3.out.b)⟩
set_option maxHeartbeats 20000000 in
set_option maxRecDepth 100000 in
theorem well_o (hv : f.valid = true) (hs : RdI w sa n.strokes.length sc n.strokes) (k2 : n.kind ≠ 2) (k5 : n.kind ≠ 5) (k6 : n.kind ≠ 6) :
    Calls Tryz.prog 65 #[f.val, .agg (noteA n sa sc)] w fun e w' => e = .returned (.bool (wellB f n)) ∧ Below w.heap.size w w' := by
  have I43 := Lib.hid (show ∀ (m : NoteV) (a : Option Addr) (c : Nat), (Tryz.prog.info? 51).map (·.size) = some (noteA m a c).size from fun m a c => by kernel_rfl)
  have g1 := heap_at (w.alloc (.cells #[.int .i64 f.rings, .int .i64 f.sectors, .int .i64 f.wide] 23)) (.cells (noteA n sa sc) 51) (w.heap.size + 1) (by simp)
  have g0 := heap_before (w.alloc (.cells #[.int .i64 f.rings, .int .i64 f.sectors, .int .i64 f.wide] 23)) (.cells (noteA n sa sc) 51) _ _ (heap_at w (.cells #[.int .i64 f.rings, .int .i64 f.sectors, .int .i64 f.wide] 23) _ rfl)
  have bb : Below w.heap.size w ((w.alloc (.cells #[.int .i64 f.rings, .int .i64 f.sectors, .int .i64 f.wide] 23)).alloc (.cells (noteA n sa sc) 51)) := ((Below.refl _ _).alloc (Nat.le_refl _) _).alloc (by simp) _
  have L0 : Hid (LocF w ((w.alloc (.cells #[.int .i64 f.rings, .int .i64 f.sectors, .int .i64 f.wide] 23)).alloc (.cells (noteA n sa sc) 51)) w.heap.size (w.heap.size + 1) f n sa sc) := Lib.hid ⟨g0, g1, bb, by omega⟩
  clear g0 g1 bb
  unfold FrV.val
  go_enter Tryz.func65, Tryz.ntmps65
  go_upto_region 1 with fail
  generalize hW0 : (w.alloc (.cells #[.int .i64 f.rings, .int .i64 f.sectors, .int .i64 f.wide] 23)).alloc (.cells (noteA n sa sc) 51) = W0 at *
  generalize hp0 : w.heap.size = p0 at *
  generalize hp1 : p0 + 1 = p1 at *
  have RDb := Lib.hid (show ∀ W', Below p0 w W' → RdI W' sa n.strokes.length sc n.strokes from fun W' h => hs.below (by rw [hp0]; exact h))
  have HP0 := Lib.hid hp0; clear hp0 hp1 hW0
  have HV := Lib.hid hv; clear hv
  have HK := Lib.hid (And.intro k2 (And.intro k5 k6)); clear k2 k5 k6
  have q2 : (n.kind == 2) = false := by simp [HK.out.1]
  have q2' : decide (n.kind = 2) = false := by simp [HK.out.1]
  have q5 : (n.kind == 5) = false := by simp [HK.out.2.1]
  have q5' : decide (n.kind = 5) = false := by simp [HK.out.2.1]
  have q6 : (n.kind == 6) = false := by simp [HK.out.2.2]
  have q6' : decide (n.kind = 6) = false := by simp [HK.out.2.2]
  have HRS := Lib.hid (show refersB n = false by simp [refersB, HK.out.1, HK.out.2.1, HK.out.2.2])
  go_wp2_with   (first
      | (refine wpList_load_row rfl 51 _ rfl p1 rfl 51 (noteA n sa sc) (0, 0) _ L0.out.e1 Tryz.underlying51 rfl (I43.out _ _ _) ?_)
      | (refine wpList_load_rowG ?hw 51 _ rfl p1 rfl 51 (noteA n sa sc) (0, 0) _ L0.out.e1 Tryz.underlying51 rfl (I43.out _ _ _) ?_; case hw => rfl))
  refine (rNameOf_any n sa sc _).mono ?_
  rintro e w1 ⟨rfl, b1⟩
  have L1 := Lib.hid (L0.out.below b1); clear b1
  go_wp2_with fail
  refine (rrightName_any n.house n.num _).mono ?_
  rintro e w2 ⟨rfl, b2⟩
  have L2 := Lib.hid (L1.out.below b2); clear b2
  cases hrn : rightNameB n.house n.num
  · have hR : wellB f n = false := by simp [wellB, HRS.out, HK.out.2.1, HK.out.2.2, hrn]
    have HRX := Lib.hid hR; clear hR
    go_wp2_with fail
    go_ret
    rw [HRX.out]
    exact ⟨rfl, by first | exact L2.out.b | (rw [HP0.out]; exact L2.out.b)⟩
  · have HRN := Lib.hid hrn; clear hrn
    have k2 := note_cells L2.out.e1 2 _ rfl
    simp only [Nat.zero_add] at k2
    have k3 := note_cells L2.out.e1 3 _ rfl
    simp only [Nat.zero_add] at k3
    have k4 := note_cells L2.out.e1 4 _ rfl
    simp only [Nat.zero_add] at k4
    have k16 := note_cells L2.out.e1 16 _ rfl
    simp only [Nat.zero_add] at k16
    have k17 := note_cells L2.out.e1 17 _ rfl
    simp only [Nat.zero_add] at k17
    go_wp2_with fail
    refine (rin_any n.clock 1 1099511627776 _).mono ?_
    rintro e w' ⟨rfl, rfl⟩
    cases hcl : inB n.clock 1 1099511627776
    · have hR : wellB f n = false := by simp [wellB, HRS.out, HK.out.2.1, HK.out.2.2, HRN.out, hcl]
      have HRX := Lib.hid hR; clear hR
      go_wp2_with fail
      go_ret
      rw [HRX.out]
      exact ⟨rfl, by first | exact L2.out.b | (rw [HP0.out]; exact L2.out.b)⟩
    · have HCL := Lib.hid hcl; clear hcl
      go_wp2_with fail
      refine (rin_any n.day 0 99999 _).mono ?_
      rintro e w' ⟨rfl, rfl⟩
      cases hda : inB n.day 0 99999
      · have hR : wellB f n = false := by simp [wellB, HRS.out, HK.out.2.1, HK.out.2.2, HRN.out, HCL.out, hda]
        have HRX := Lib.hid hR; clear hR
        go_wp2_with fail
        go_ret
        rw [HRX.out]
        exact ⟨rfl, by first | exact L2.out.b | (rw [HP0.out]; exact L2.out.b)⟩
      · have HDA := Lib.hid hda; clear hda
        by_cases h16 : n.refH = 0
        · by_cases h17 : n.refN = 0
          · have r16 : (n.refH == 0) = true := by simp [h16]
            have r16' : decide (n.refH = 0) = true := by simp [h16]
            have r17 : (n.refN == 0) = true := by simp [h17]
            have r17' : decide (n.refN = 0) = true := by simp [h17]
            have HNM := Lib.hid (show namedB n = false by simp [namedB, h16, h17])
            clear h16 h17
            by_cases hfx : n.fix = 0
            · have hfx1 : (n.fix == 0) = true := by simp [hfx]
              have hfx2 : decide (n.fix = 0) = true := by simp [hfx]
              have HFX := Lib.hid hfx; clear hfx
              have k18 := note_cells L2.out.e1 18 _ rfl
              simp only [Nat.zero_add] at k18
              have c0 := frame_cells L2.out.e0 0 _ rfl
              have c1 := frame_cells L2.out.e0 1 _ rfl
              have c2 := frame_cells L2.out.e0 2 _ rfl
              go_wp2_with   (first
                  | (refine wpList_load_row rfl 51 _ rfl p1 rfl 51 (noteA n sa sc) (0, 0) _ L2.out.e1 Tryz.underlying51 rfl (I43.out _ _ _) ?_)
                  | (refine wpList_load_rowG ?hw 51 _ rfl p1 rfl 51 (noteA n sa sc) (0, 0) _ L2.out.e1 Tryz.underlying51 rfl (I43.out _ _ _) ?_; case hw => rfl))

              refine (right_any f n sa sc _ HV.out (RDb.out _ L2.out.b) (n.kind)).mono ?_
              rintro e w5 ⟨rfl, b5⟩
              have L5 := Lib.hid (L2.out.below b5); clear b5
              cases hr : rightB f (n.kind) n
              · have hR : wellB f n = false := by simp [wellB, HRS.out, HK.out.2.1, HK.out.2.2, HRN.out, HCL.out, HDA.out, HNM.out, HFX.out, hr]
                have HRX := Lib.hid hR; clear hR
                go_wp2_with fail
                go_ret
                rw [HRX.out]
                exact ⟨rfl, by first | exact L5.out.b | (rw [HP0.out]; exact L5.out.b)⟩
              · have HRR := Lib.hid hr; clear hr
                go_wp2_with   (first
                    | (refine wpList_load_row rfl 51 _ rfl p1 rfl 51 (noteA n sa sc) (0, 0) _ L5.out.e1 Tryz.underlying51 rfl (I43.out _ _ _) ?_)
                    | (refine wpList_load_rowG ?hw 51 _ rfl p1 rfl 51 (noteA n sa sc) (0, 0) _ L5.out.e1 Tryz.underlying51 rfl (I43.out _ _ _) ?_; case hw => rfl))

                refine (bare_any n sa sc _ (RDb.out _ L5.out.b) (n.kind)).mono ?_
                rintro e w6 ⟨ta, tc, rfl, hrd, b6⟩
                have L6 := Lib.hid (L5.out.below b6); clear b6
                have hR : wellB f n = sameB (bareR (n.kind) n) zeroN := by simp [wellB, HRS.out, HK.out.2.1, HK.out.2.2, HRN.out, HCL.out, HDA.out, HNM.out, HFX.out, HRR.out]
                obtain ⟨N, HN⟩ : ∃ N, Hid (bareR (n.kind) n = N) := ⟨_, Lib.hid rfl⟩
                rw [HN.out] at hrd hR
                have HRX := Lib.hid hR; clear hR
                have RD6 := Lib.hid hrd; clear hrd
                rw [HN.out]
                go_wp2_with fail
                refine (rsame_any N zeroN ta tc none 0 _ RD6.out (RdA.nil _ 1)).mono ?_
                rintro e w7 ⟨rfl, b7⟩
                have L7 := Lib.hid (L6.out.below b7); clear b7
                go_wp2_with fail
                go_ret
                rw [HRX.out]
                exact ⟨rfl, by first | exact L7.out.b | (rw [HP0.out]; exact L7.out.b)⟩
            · have hfx1 : (n.fix == 0) = false := by simp [hfx]
              have hfx2 : decide (n.fix = 0) = false := by simp [hfx]
              have HFX := Lib.hid hfx; clear hfx
              have k18 := note_cells L2.out.e1 18 _ rfl
              simp only [Nat.zero_add] at k18
              have hR : wellB f n = false := by simp [wellB, HRS.out, HK.out.2.1, HK.out.2.2, HRN.out, HCL.out, HDA.out, HNM.out, HFX.out]
              have HRX := Lib.hid hR; clear hR
              go_wp2_with fail
              go_ret
              rw [HRX.out]
              exact ⟨rfl, by first | exact L2.out.b | (rw [HP0.out]; exact L2.out.b)⟩
          · have r16 : (n.refH == 0) = true := by simp [h16]
            have r16' : decide (n.refH = 0) = true := by simp [h16]
            have r17 : (n.refN == 0) = false := by simp [h17]
            have r17' : decide (n.refN = 0) = false := by simp [h17]
            have HNM := Lib.hid (show namedB n = true by simp [namedB, h16, h17])
            clear h16 h17
            have hR : wellB f n = false := by simp [wellB, HRS.out, HK.out.2.1, HK.out.2.2, HRN.out, HCL.out, HDA.out, HNM.out]
            have HRX := Lib.hid hR; clear hR
            go_wp2_with fail
            go_ret
            rw [HRX.out]
            exact ⟨rfl, by first | exact L2.out.b | (rw [HP0.out]; exact L2.out.b)⟩
        · have r16 : (n.refH == 0) = false := by simp [h16]
          have r16' : decide (n.refH = 0) = false := by simp [h16]
          have HNM := Lib.hid (show namedB n = true by simp [namedB, h16])
          clear h16
          have hR : wellB f n = false := by simp [wellB, HRS.out, HK.out.2.1, HK.out.2.2, HRN.out, HCL.out, HDA.out, HNM.out]
          have HRX := Lib.hid hR; clear hR
          go_wp2_with fail
          go_ret
          rw [HRX.out]
          exact ⟨rfl, by first | exact L2.out.b | (rw [HP0.out]; exact L2.out.b)⟩
theorem well_any (hv : f.valid = true) (hs : RdI w sa n.strokes.length sc n.strokes) :
    Calls Tryz.prog 65 #[f.val, .agg (noteA n sa sc)] w fun e w' => e = .returned (.bool (wellB f n)) ∧ Below w.heap.size w w' := by
  by_cases k2 : n.kind = 2
  · exact well_2 f n sa sc w hv hs k2
  by_cases k5 : n.kind = 5
  · exact well_5 f n sa sc w hv hs k5
  by_cases k6 : n.kind = 6
  · exact well_6 f n sa sc w hv hs k6
  exact well_o f n sa sc w hv hs k2 k5 k6
end
end Go.Proofs.YtpjiakgfegnmcaaGreat
namespace Go.Proofs.YtpjiakgfegnmcaaGreat
set_option linter.unusedSimpArgs false
open Go.RowKit

/-- An event at a place among all, as the reference has it. -/
def rgoodE (f : FrV) (hn k : Nat) (e : EvV) : Bool := formedB f e.x.n && (decide (e.x.nm = e.nm) && (doneB e.x.n && (e.x.n.kind == 1) == decide ((k : Int) < (hn : Int))))
/-- What is wrong at a place k of all: itself, an earlier one of its name, no heap of its pass. -/
def rstep (f : FrV) (hs : List EvV) (hn : Nat) (all : List EvV) (k : Nat) (e : EvV) : Bool := rgoodE f hn k e && (!decide (e.nm ∈ (all.take k).map EvV.nm) && !(e.x.n.kind == 2 && decide (idxI hs (isNm e.x.n.refH e.x.n.refN) < 0)))
theorem goodAll_iff {f : FrV} : ∀ (l : List EvV) (ks : List Nm), goodAll f ks l = true ↔ ∀ k e, l[k]? = some e → goodE f (ks ++ (l.take k).map EvV.nm) e = true
  | [], ks => by simp [goodAll]
  | x :: l, ks => by
    rw [goodAll, Bool.and_eq_true, goodAll_iff l]
    constructor
    · rintro ⟨h1, h2⟩ k e he
      cases k with
      | zero => simp at he; subst he; simpa using h1
      | succ k =>
        have := h2 k e (by simpa using he)
        rw [List.append_assoc] at this
        simpa using this
    · intro h
      refine ⟨by simpa using h 0 x rfl, fun k e he => ?_⟩
      have := h (k + 1) e (by simpa using he)
      rw [List.append_assoc]
      simpa using this
/-- The reference's test and the program's are one. -/
theorem right_eq {f : FrV} {hs es : List EvV} (h8 : hs.length ≤ 8) (h4 : es.length ≤ 400) : (∀ k e, (hs ++ es)[k]? = some e → rstep f hs hs.length (hs ++ es) k e = true) ↔ regOkB f hs es = true := by
  have hkind : ∀ e : EvV, doneB e.x.n = true → True := fun _ _ => trivial
  simp only [regOkB, Bool.and_eq_true, decide_eq_true_eq, goodAll_iff, List.nil_append]
  constructor
  · intro h
    refine ⟨h8, h4, fun k e he => ?_, ?_, ?_⟩
    · have := h k e he
      simp only [rstep, rgoodE, Bool.and_eq_true] at this
      obtain ⟨⟨h1, h2, h3, h5⟩, h6, h7⟩ := this
      simp only [goodE, Bool.and_eq_true]
      exact ⟨h3, h1, h2, h6⟩
    · rw [List.all_eq_true]
      intro e he
      obtain ⟨k, hk⟩ := List.getElem?_of_mem he
      have hlt := (List.getElem?_eq_some_iff.1 hk).1
      have := h k e (by rw [List.getElem?_append_left hlt]; exact hk)
      simp only [rstep, rgoodE, Bool.and_eq_true] at this
      have h5 := this.1.2.2.2
      rw [beq_iff_eq] at h5
      rw [h5]
      simp; omega
    · rw [Bool.not_eq_true', List.any_eq_false]
      intro e he hb
      obtain ⟨k, hk⟩ := List.getElem?_of_mem he
      have := h (hs.length + k) e (by rw [List.getElem?_append_right (by omega), Nat.add_sub_cancel_left]; exact hk)
      simp only [rstep, rgoodE, Bool.and_eq_true] at this
      have h5 := this.1.2.2.2
      have h7 := this.2.2
      rw [beq_iff_eq] at h5
      have h8 : decide (((hs.length + k : Nat) : Int) < (hs.length : Int)) = false := by simp; omega
      rw [h8] at h5
      simp only [badE, Bool.or_eq_true] at hb
      rcases hb with hb | hb
      · rw [hb] at h5; cases h5
      · rw [hb] at h7; cases h7
  · rintro ⟨_, _, h1, h2, h3⟩ k e he
    have hg := h1 k e he
    simp only [goodE, Bool.and_eq_true] at hg
    rw [List.all_eq_true] at h2
    rw [Bool.not_eq_true', List.any_eq_false] at h3
    simp only [rstep, rgoodE, Bool.and_eq_true]
    rcases Nat.lt_or_ge k hs.length with hlt | hge
    · rw [List.getElem?_append_left hlt] at he
      have hk1 := h2 e (List.mem_of_getElem? he)
      refine ⟨⟨hg.2.1, hg.2.2.1, hg.1, ?_⟩, hg.2.2.2, ?_⟩
      · rw [hk1]
        have : decide ((k : Int) < (hs.length : Int)) = true := by simp; omega
        rw [this]; rfl
      · rw [beq_iff_eq] at hk1
        rw [hk1]; rfl
    · rw [List.getElem?_append_right hge] at he
      have hb := h3 e (List.mem_of_getElem? he)
      simp only [badE, Bool.or_eq_true, not_or] at hb
      refine ⟨⟨hg.2.1, hg.2.2.1, hg.1, ?_⟩, hg.2.2.2, ?_⟩
      · have h9 : (e.x.n.kind == 1) = false := by simpa using hb.1
        have : decide ((k : Int) < (hs.length : Int)) = false := by simp; omega
        rw [this, h9]; rfl
      · have := hb.2
        cases hq : (e.x.n.kind == 2 && decide (idxI hs (isNm e.x.n.refH e.x.n.refN) < 0)) with
        | true => exact absurd hq this
        | false => rfl
theorem right_bad {f : FrV} {hs es : List EvV} {k : Nat} {e : EvV} (he : (hs ++ es)[k]? = some e) (h : rstep f hs hs.length (hs ++ es) k e = false) : regOkB f hs es = false := by
  rw [← Bool.not_eq_true]
  intro hr
  have h8 : hs.length ≤ 8 := by simp only [regOkB, Bool.and_eq_true, decide_eq_true_eq] at hr; exact hr.1
  have h4 : es.length ≤ 400 := by simp only [regOkB, Bool.and_eq_true, decide_eq_true_eq] at hr; exact hr.2.1
  have := (right_eq h8 h4).2 hr k e he
  rw [h] at this
  cases this

set_option maxRecDepth 100000 in
theorem plain_any (n : NoteV) (sa : Option Addr) (sc : Nat) (w : World) : Calls Tryz.prog 80 #[.agg (noteA n sa sc)] w fun e w' => e = .returned (.bool (doneB n)) ∧ Below w.heap.size w w' := by
  have hb := (Below.refl w.heap.size w).alloc (Nat.le_refl _) (.cells (noteA n sa sc) 51)
  have c4 := cell_of (heap_last w (.cells (noteA n sa sc) 51)) 4 (.int .i64 n.kind) rfl
  have BB := Lib.hid hb; clear hb
  have hd : doneB n = (decide (1 ≤ n.kind) && decide (n.kind ≤ 4)) := rfl
  cases h1 : decide (1 ≤ n.kind)
  · rw [h1] at hd
    have HD := Lib.hid hd; clear hd
    go_enter Tryz.func80, Tryz.ntmps80
    go_wp2_with fail
    go_ret
    exact ⟨by rw [HD.out]; rfl, BB.out⟩
  · cases h2 : decide (n.kind ≤ 4)
    · rw [h1, h2] at hd
      have HD := Lib.hid hd; clear hd
      go_enter Tryz.func80, Tryz.ntmps80
      go_wp2_with fail
      go_ret
      exact ⟨by rw [HD.out]; rfl, BB.out⟩
    · rw [h1, h2] at hd
      have HD := Lib.hid hd; clear hd
      go_enter Tryz.func80, Tryz.ntmps80
      go_wp2_with fail
      go_ret
      exact ⟨by rw [HD.out]; rfl, BB.out⟩

set_option maxHeartbeats 16000000 in
set_option maxRecDepth 100000 in
theorem rright_any (f : FrV) (hs es : List EvV) (ha : Option Addr) (hn hc : Nat) (ea : Option Addr) (en ec : Nat) (v3 : Value) (w : World) (hv : f.valid = true)
    (h1 : RdA w 21 ha hn hc (evCells hs)) (h2 : RdA w 21 ea en ec (evCells es)) (hok : ∀ e ∈ hs ++ es, e.x.ok w) :
    Calls Tryz.prog 60 #[f.val, .agg #[.slice ha hn hc, .slice ea en ec, v3]] w fun e w' => e = .returned (.bool (regOkB f hs es)) ∧ Below w.heap.size w w' := by
  have hvl : f.val = .agg #[.int .i64 f.rings, .int .i64 f.sectors, .int .i64 f.wide] := rfl
  have WELL := Lib.hid (fun (x : NoteV) sa sc (W : World) (hs : RdI W sa x.strokes.length sc x.strokes) => formed_well hv x ▸ well_any f x sa sc W hv hs)
  rw [hvl] at WELL ⊢; clear hvl
  have I43 := Lib.hid (show ∀ (m : NoteV) (a : Option Addr) (c : Nat), (Tryz.prog.info? 51).map (·.size) = some (noteA m a c).size from fun m a c => by kernel_rfl)
  have J21 : (Tryz.prog.info? 53).map (·.size) = some 21 := by kernel_rfl
  have LH : Hid (hs.length = hn) := Lib.hid (by have := h1.len; rw [evCells_len] at this; omega)
  have LE : Hid (es.length = en) := Lib.hid (by have := h2.len; rw [evCells_len] at this; omega)
  have B0 := Lib.hid (((Below.refl w.heap.size w).alloc (Nat.le_refl _) (.cells #[.int .i64 f.rings, .int .i64 f.sectors, .int .i64 f.wide] 23)).alloc (by simp) (.cells #[.slice ha hn hc, .slice ea en ec, v3] 27))
  have F0 := Lib.hid (heap_before _ (.cells #[.slice ha hn hc, .slice ea en ec, v3] 27) _ _ (heap_last w (.cells #[.int .i64 f.rings, .int .i64 f.sectors, .int .i64 f.wide] 23)))
  have P0 := Lib.hid (heap_at (w.alloc (.cells #[.int .i64 f.rings, .int .i64 f.sectors, .int .i64 f.wide] 23)) (.cells #[.slice ha hn hc, .slice ea en ec, v3] 27) (w.heap.size + 1) (by simp))
  have R1 := Lib.hid (h1.below B0.out)
  have R2 := Lib.hid (h2.below B0.out)
  have OK := Lib.hid (evs_ok hok B0.out)
  clear h1 h2 hok hv
  go_enter Tryz.func60, Tryz.ntmps60
  go_upto_region 1 with fail
  obtain ⟨pF, hpF⟩ : ∃ pF, Hid (w.heap.size = pF) := ⟨_, Lib.hid rfl⟩
  obtain ⟨pR, hpR⟩ : ∃ pR, Hid (w.heap.size + 1 = pR) := ⟨_, Lib.hid rfl⟩
  rw [hpR.out, hpF.out]
  rw [hpF.out] at F0
  rw [hpR.out] at P0
  generalize (w.alloc (.cells #[.int .i64 f.rings, .int .i64 f.sectors, .int .i64 f.wide] 23)).alloc (.cells #[.slice ha hn hc, .slice ea en ec, v3] 27) = W1 at *
  have c0 := cell_of P0.out 0 (.slice ha hn hc) rfl
  have c1 := cell_of P0.out 1 (.slice ea en ec) rfl
  by_cases h8 : hn ≤ 8
  · have t8 : decide ((8 : Int) < (hn : Int)) = false := by simp; omega
    by_cases h4 : en ≤ 400
    · have t4 : decide ((400 : Int) < (en : Int)) = false := by simp; omega
      have HNE := Lib.hid (And.intro h8 h4); clear h8 h4
      obtain ⟨N, hN⟩ : ∃ N, Hid (hn + en = N) := ⟨_, Lib.hid rfl⟩
      go_upto_region 3 with fail
      clear t8 t4 c0 c1
      refine wp_region_noPanic ?_
      refine wp_region_held_drew (S := fun w' => w'.heap[pR]? = some (.cells #[.slice ha hn hc, .slice ea en ec, v3] 27 (0, 0))) (by kernel_rfl) (show W1.drew.heap[pR]? = _ from P0.out) (fun hHeld => ?_)
      refine wpAnyH_take (i := 1) (v := .pointer (some ⟨pR, 0, none⟩)) rfl (by kernel_rfl) (by kernel_rfl) (by kernel_rfl) (fun _ _ _ h => h) (Or.inl ⟨by kernel_rfl, by intro W _; go_simp⟩) (by assumption) ?_
      try simp only [Act.put, List.getElem_toArray, List.getElem_cons_succ, List.getElem_cons_zero, List.setIfInBounds_toArray, List.set_cons_zero, List.set_cons_succ]
      refine wpAnyH_take (i := 2) (v := .slice ha hn hc) rfl (by kernel_rfl) (by kernel_rfl) (by kernel_rfl) (fun _ _ _ h => h) (Or.inl ⟨by kernel_rfl, by intro W h; have h0 := cell_of h 0 (.slice ha hn hc) rfl; go_simp⟩) (by assumption) ?_
      try simp only [Act.put, List.getElem_toArray, List.getElem_cons_succ, List.getElem_cons_zero, List.setIfInBounds_toArray, List.set_cons_zero, List.set_cons_succ]
      refine wpAnyH_take (i := 4) (v := .pointer (some ⟨pR, 1, none⟩)) rfl (by kernel_rfl) (by kernel_rfl) (by kernel_rfl) (fun _ _ _ h => h) (Or.inl ⟨by kernel_rfl, by intro W _; go_simp⟩) (by assumption) ?_
      try simp only [Act.put, List.getElem_toArray, List.getElem_cons_succ, List.getElem_cons_zero, List.setIfInBounds_toArray, List.set_cons_zero, List.set_cons_succ]
      refine wpAnyH_take (i := 5) (v := .slice ea en ec) rfl (by kernel_rfl) (by kernel_rfl) (by kernel_rfl) (fun _ _ _ h => h) (Or.inl ⟨by kernel_rfl, by intro W h; have h0 := cell_of h 1 (.slice ea en ec) rfl; go_simp⟩) (by assumption) ?_
      try simp only [Act.put, List.getElem_toArray, List.getElem_cons_succ, List.getElem_cons_zero, List.setIfInBounds_toArray, List.set_cons_zero, List.set_cons_succ]
      refine wpAnyH_ready (rs := [0]) (by kernel_rfl) (by simp) ?_
      refine AllReadyH.cons rfl (fun K hK => ?_) AllReadyH.nil
      go_simp
      have hbe : Below W1.heap.size W1 (W1.alloc (.cells #[] 53)) := (Below.refl W1.heap.size W1).alloc (Nat.le_refl _) _
      have o0 := World.ownsRow_lit (base := W1.heap.size) (e := 53) (size := 21) W1 #[] 0 (Nat.le_refl _) (by unfold maxLen; omega) rfl
      have O0 := Lib.hid (own_below o0 ((Below.refl (W1.alloc (.cells #[] 53)).heap.size _).drew))
      have BE := Lib.hid hbe.drew
      clear o0 hbe
      generalize (W1.alloc (.cells #[] 53)).drew = V1 at *
      refine hK.out _ _ (below_blk BE.out P0.out) (fun hHeld => ?_)
      clear hK K
      try simp only [Act.put, List.getElem_toArray, List.getElem_cons_succ, List.getElem_cons_zero, List.setIfInBounds_toArray, List.set_cons_zero, List.set_cons_succ]
      refine wpAnyH_ready (rs := [3]) (by kernel_rfl) (by simp) ?_
      refine AllReadyH.cons rfl (fun K hK => ?_) AllReadyH.nil
      obtain ⟨a1, c1, v2, hrun, ho, hg, _⟩ := run_app_ev V1 W1.heap.size _ 0 0 _ O0.out ha hn hc _ (R1.out.below BE.out) (evCells_one hs) (by have := HNE.out; omega) BE.out.size
      have O1 := Lib.hid ho
      have BE2 := Lib.hid (BE.out.grown hg BE.out.size (fun k hk => (O0.out.lt k hk).1))
      clear ho hg
      rw [if_pos (by kernel_rfl)]
      refine oper_append _ _ _ rfl _ _ _ rfl rfl hrun ?_
      clear hrun
      refine hK.out _ _ (below_blk BE2.out P0.out) (fun hHeld => ?_)
      clear hK K
      try simp only [Act.put, List.getElem_toArray, List.getElem_cons_succ, List.getElem_cons_zero, List.setIfInBounds_toArray, List.set_cons_zero, List.set_cons_succ]
      refine wpAnyH_ready (rs := [6]) (by kernel_rfl) (by simp) ?_
      refine AllReadyH.cons rfl (fun K hK => ?_) AllReadyH.nil
      obtain ⟨a, c, w3, hrun, ho, hg, _⟩ := run_app_ev v2 W1.heap.size _ _ _ _ O1.out ea en ec _ (R2.out.below BE2.out) (evCells_one es) (by have := HNE.out; omega) BE2.out.size
      have HB3 := Lib.hid (BE2.out.grown hg BE2.out.size (fun k hk => (O1.out.lt k hk).1))
      have O3 : Hid (w3.ownsRow W1.heap.size 53 21 (.slice a N c) N (evCells (hs ++ es))) := Lib.hid (by rw [← hN.out, evCells_append]; have := ho; rwa [List.nil_append, Nat.zero_add] at this)
      clear ho hg
      rw [if_pos (by kernel_rfl)]
      refine oper_append _ _ _ rfl _ _ _ rfl rfl hrun ?_
      clear hrun
      rw [Nat.zero_add, hN.out]
      refine hK.out _ _ (below_blk HB3.out P0.out) (fun hHeld => ?_)
      clear hK K
      try simp only [Act.put, List.getElem_toArray, List.getElem_cons_succ, List.getElem_cons_zero, List.setIfInBounds_toArray, List.set_cons_zero, List.set_cons_succ]
      refine wpAnyH_take (i := 7) (v := .slice a N c) rfl (by kernel_rfl) (by kernel_rfl) (by kernel_rfl) (fun _ _ _ h => h) (Or.inl ⟨by kernel_rfl, by intro W _; go_simp⟩) (by assumption) ?_
      try simp only [Act.put, List.getElem_toArray, List.getElem_cons_succ, List.getElem_cons_zero, List.setIfInBounds_toArray, List.set_cons_zero, List.set_cons_succ]
      refine wpAnyH_done (by kernel_rfl) ?_ _
      refine NoPanic.normal ?_
      have E3 := Lib.hid (RdEs.of_rd (RdA.of_own O3.out))
      have P3 := Lib.hid (below_blk HB3.out P0.out)
      have F3 := Lib.hid (below_blk HB3.out F0.out)
      have H3 := Lib.hid (RdEs.of_rd (R1.out.below HB3.out))
      have OK3 := Lib.hid (evs_ok OK.out HB3.out)
      have B3 := Lib.hid (B0.out.trans (HB3.out.mono B0.out.size))
      clear BE BE2 O0 O1 O3 HB3 P0 F0 R1 R2 OK B0
      obtain ⟨all, hall⟩ : ∃ all, Hid (hs ++ es = all) := ⟨_, Lib.hid rfl⟩
      rw [hall.out] at E3 OK3
      have HN : Hid (N ≤ 408) := Lib.hid (by rw [← hN.out]; have := HNE.out; omega)
      have GB : Hid (∀ (k : Nat) x, all[k]? = some x → rstep f hs hn all k x = false → regOkB f hs es = false) := Lib.hid (fun k x hx hg => right_bad (k := k) (e := x) (by rw [hall.out]; exact hx) (by rw [hall.out, LH.out]; exact hg))
      have GG : Hid ((∀ (k : Nat) x, all[k]? = some x → rstep f hs hn all k x = true) → regOkB f hs es = true) := Lib.hid (fun h => (right_eq (by have := LH.out; have := HNE.out; omega) (by have := LE.out; have := HNE.out; omega)).1 (by rw [hall.out, LH.out]; exact h))
      go_wp2_with fail
      go_loopw [6, 8] (fun i _ wr => ∃ k : Nat, i = .int .i64 k ∧ k ≤ N ∧ Hid (Below w3.heap.size w3 wr) ∧ Hid (∀ j y, j < k → all[j]? = some y → rstep f hs hn all j y = true)) (fun i _ _ => N - (intOf i).toNat)
      case atStart => exact ⟨0, rfl, Nat.zero_le _, Lib.hid (Below.refl _ _), Lib.hid (fun j y h => by omega)⟩
      case round =>
        obtain ⟨k, rfl, hk, HS, HA⟩ := hrel
        by_cases hlt : k < N
        · have t0 : decide ((k : Int) < (N : Int)) = true := by simp; omega
          obtain ⟨x, Hx⟩ : ∃ x, all[k]? = some x := ⟨all[k]'(by rw [E3.out.1]; exact hlt), List.getElem?_eq_getElem (by rw [E3.out.1]; exact hlt)⟩
          have HX := Lib.hid Hx
          obtain ⟨b, off, ha0, hat⟩ := (E3.out.below HS.out).at (by omega)
          subst ha0
          have HAT := Lib.hid hat
          obtain ⟨o, ho⟩ : ∃ o, Hid (off + k * 21 = o) := ⟨_, Lib.hid rfl⟩
          have HRA : Hid (wr.rangeAt b o x.cells) := Lib.hid (by rw [← ho.out]; exact hat k x Hx)
          have HRN : Hid (wr.rangeAt b (o + 2) (x.x.n.cells x.x.sa x.x.sc)) := Lib.hid (fun j v hv => by
            have := HRA.out (2 + j) v (by rw [EvV.cells, List.getElem?_append_right (by simp)]; simpa using hv)
            rwa [← Nat.add_assoc] at this)
          have HIX := Lib.hid (fun W => idx_off (W := W) (c := c) (b := b) Tryz.underlying24 J21 hlt ho.out)
          have hix := HIX.out
          have HOK := Lib.hid ((OK3.out x (List.mem_of_getElem? Hx)).below HS.out)
          clear hat Hx
          go_upto_region 8 with (first
            | (refine wpList_load_mid rfl 51 _ rfl b (o + 2) rfl (x.x.n.cells x.x.sa x.x.sc) _ HRN.out Tryz.underlying51 rfl (size43 x.x.n x.x.sa x.x.sc) ?_)
            | (refine wpList_store_newp _ rfl 51 _ _ rfl _ rfl _ (noteA x.x.n x.x.sa x.x.sc) rfl rfl (I43.out _ _ _) rfl (noteA_one _ _ _) ?_)
            | fail)
          try simp only [Act.put, List.setIfInBounds_toArray, List.set_cons_zero, List.set_cons_succ]
          clear hix t0
          have hbt : Below wr.heap.size wr (wr.alloc (.cells (noteA x.x.n x.x.sa x.x.sc) 51)) := (Below.refl _ _).alloc (Nat.le_refl _) _
          have XT := Lib.hid (heap_last wr (.cells (noteA x.x.n x.x.sa x.x.sc) 51))
          have S7 := Lib.hid (HS.out.trans (hbt.mono HS.out.size))
          have OT := Lib.hid (HOK.out.below hbt)
          have RT := Lib.hid (rangeAt_below HRA.out hbt)
          clear hbt HRA HRN HOK HS
          obtain ⟨p7, hp7⟩ : ∃ p7, Hid (wr.heap.size = p7) := ⟨_, Lib.hid rfl⟩
          rw [hp7.out] at XT ⊢
          generalize hwt : wr.alloc (.cells (noteA x.x.n x.x.sa x.x.sc) 51) = wt at *
          have HWT : Hid (Below wr.heap.size wr wt) := Lib.hid (by rw [← hwt]; exact (Below.refl _ _).alloc (Nat.le_refl _) _)
          clear hwt
          have hC0 : Below wt.heap.size wt wt.drew := (Below.refl _ _).drew
          have LX := Lib.hid (show ∀ w0, Below wt.heap.size wt w0 → w0.heap[p7]? = some (.cells (noteA x.x.n x.x.sa x.x.sc) 51 (0, 0)) from fun w0 h => below_blk h XT.out)
          have LF := Lib.hid (show ∀ w0, Below wt.heap.size wt w0 → w0.heap[pF]? = some (.cells #[.int .i64 f.rings, .int .i64 f.sectors, .int .i64 f.wide] 23 (0, 0)) from fun w0 h => below_blk (S7.out.trans (h.mono S7.out.size)) F3.out)
          have LR := Lib.hid (show ∀ w0, Below wt.heap.size wt w0 → w0.heap[pR]? = some (.cells #[.slice ha hn hc, .slice ea en ec, v3] 27 (0, 0)) from fun w0 h => below_blk (S7.out.trans (h.mono S7.out.size)) P3.out)
          have LE' := Lib.hid (show ∀ w0, Below wt.heap.size wt w0 → w0.rangeAt b o x.cells from fun w0 h => rangeAt_below RT.out h)
          have GBX := Lib.hid (GB.out k x HX.out)
          have hk64 : (k : Int) + 1 ≤ 9223372036854775807 := by have := HN.out; omega
          obtain ⟨ks, hks⟩ : ∃ ks, Hid ((all.take k).map EvV.nm = ks) := ⟨_, Lib.hid rfl⟩
          refine wp_region_quiet (C := fun w' : World => Below wt.heap.size wt w') (by kernel_rfl) (by kernel_rfl) hC0 ?_
          show wpQuiet _ _ _ _ (_ :: _) _
          go_big_quiet_want
          refine ⟨.agg #[.int .i64 f.rings, .int .i64 f.sectors, .int .i64 f.wide], fun w0 hC => ?_, ?_⟩
          · have c0 := cell_of (LF.out w0 hC) 0 (.int .i64 f.rings) rfl
            have c1 := cell_of (LF.out w0 hC) 1 (.int .i64 f.sectors) rfl
            have c2 := cell_of (LF.out w0 hC) 2 (.int .i64 f.wide) rfl
            clear hC
            go_simp
          simp only [Act.put, List.setIfInBounds_toArray, List.set_cons_zero, List.set_cons_succ]
          go_big_quiet_on
          go_big_quiet_want
          refine ⟨.agg (noteA x.x.n x.x.sa x.x.sc), fun w0 hC => quiet_load43 (.tmp 7) rfl p7 rfl x.x.n x.x.sa x.x.sc (LX.out w0 hC), ?_⟩
          simp only [Act.put, List.setIfInBounds_toArray, List.set_cons_zero, List.set_cons_succ]
          go_big_quiet_on
          go_big_quiet_want
          refine ⟨.bool (formedB f x.x.n), fun w0 hC => ?_, ?_⟩
          · go_simp
            refine (WELL.out x.x.n x.x.sa x.x.sc w0 (OT.out.below hC)).mono ?_
            rintro e w1 ⟨rfl, b1⟩
            exact ⟨rfl, hC.trans (b1.mono hC.size)⟩
          simp only [Act.put, List.setIfInBounds_toArray, List.set_cons_zero, List.set_cons_succ]
          go_big_quiet_on
          cases hf : formedB f x.x.n
          · have GR := Lib.hid (GBX.out (by simp [rstep, rgoodE, hf]))
            go_big_quiet_want
            refine ⟨.bool true, fun w0 hC => ?_, ?_⟩
            · clear hC
              go_simp
            simp only [Act.put, List.setIfInBounds_toArray, List.set_cons_zero, List.set_cons_succ]
            go_big_quiet_on
            go_big_quiet_want
            go_big_quiet_op
            go_big_quiet_on
            go_big_quiet_skip
            go_big_quiet_skip
            go_big_quiet_skip
            go_big_quiet_skip
            go_big_quiet_skip
            go_big_quiet_skip
            go_big_quiet_skip
            go_big_quiet_skip
            go_big_quiet_want
            refine ⟨.bool true, fun w0 hC => ?_, ?_⟩
            · clear hC
              go_simp
            simp only [Act.put, List.setIfInBounds_toArray, List.set_cons_zero, List.set_cons_succ]
            go_big_quiet_on
            go_big_quiet_want
            go_big_quiet_op
            go_big_quiet_on
            go_big_quiet_skip
            go_big_quiet_skip
            go_big_quiet_skip
            go_big_quiet_want
            refine ⟨.bool true, fun w0 hC => ?_, ?_⟩
            · clear hC
              go_simp
            simp only [Act.put, List.setIfInBounds_toArray, List.set_cons_zero, List.set_cons_succ]
            go_big_quiet_on
            go_big_quiet_want
            go_big_quiet_op
            go_big_quiet_on
            go_big_quiet_skip
            go_big_quiet_skip
            go_big_quiet_skip
            go_big_quiet_skip
            go_big_quiet_skip
            go_big_quiet_skip
            go_big_quiet_skip
            go_big_quiet_skip
            go_big_quiet_skip
            go_big_quiet_want
            refine ⟨.bool true, fun w0 hC => ?_, ?_⟩
            · clear hC
              go_simp
            simp only [Act.put, List.setIfInBounds_toArray, List.set_cons_zero, List.set_cons_succ]
            go_big_quiet_on
            refine wpQuiet_nil ?_
            intro w' hC
            have BF := Lib.hid (S7.out.trans (hC.mono S7.out.size))
            clear hC
            go_wp2_with fail
            go_ret
            exact ⟨by rw [GR.out]; rfl, B3.out.trans (BF.out.mono B3.out.size)⟩
          · have HF := Lib.hid hf; clear hf
            go_big_quiet_want
            refine ⟨.bool false, fun w0 hC => ?_, ?_⟩
            · clear hC
              go_simp
            simp only [Act.put, List.setIfInBounds_toArray, List.set_cons_zero, List.set_cons_succ]
            go_big_quiet_on
            go_big_quiet_want
            go_big_quiet_op
            go_big_quiet_on
            go_big_quiet_want
            refine ⟨.agg (noteA x.x.n x.x.sa x.x.sc), fun w0 hC => quiet_load43 (.tmp 7) rfl p7 rfl x.x.n x.x.sa x.x.sc (LX.out w0 hC), ?_⟩
            simp only [Act.put, List.setIfInBounds_toArray, List.set_cons_zero, List.set_cons_succ]
            go_big_quiet_on
            go_big_quiet_want
            refine ⟨.agg #[.int .i64 x.x.n.house, .int .i64 x.x.n.num], fun w0 hC => ?_, ?_⟩
            · go_simp
              refine (rNameOf_any x.x.n x.x.sa x.x.sc w0).mono ?_
              rintro e w1 ⟨rfl, b1⟩
              exact ⟨rfl, hC.trans (b1.mono hC.size)⟩
            simp only [Act.put, List.setIfInBounds_toArray, List.set_cons_zero, List.set_cons_succ]
            go_big_quiet_on
            go_big_quiet_want
            go_big_quiet_op
            go_big_quiet_on
            go_big_quiet_want
            go_big_quiet_op
            go_big_quiet_on
            go_big_quiet_want
            refine ⟨.pointer (some ⟨b, o, none⟩), fun w0 hC => ?_, ?_⟩
            · have hix := HIX.out w0
              clear hC
              go_simp
            simp only [Act.put, List.setIfInBounds_toArray, List.set_cons_zero, List.set_cons_succ]
            go_big_quiet_on
            go_big_quiet_want
            refine ⟨.pointer (some ⟨b, o, none⟩), fun w0 hC => ?_, ?_⟩
            · clear hC
              go_simp
            simp only [Act.put, List.setIfInBounds_toArray, List.set_cons_zero, List.set_cons_succ]
            go_big_quiet_on
            go_big_quiet_want
            refine ⟨.agg #[.int .i64 x.nm.1, .int .i64 x.nm.2], fun w0 hC => ?_, ?_⟩
            · have c0 := LE'.out w0 hC 0 (.int .i64 x.nm.1) rfl
              have c1 := LE'.out w0 hC 1 (.int .i64 x.nm.2) rfl
              simp only [Nat.add_zero] at c0
              clear hC
              go_simp
            simp only [Act.put, List.setIfInBounds_toArray, List.set_cons_zero, List.set_cons_succ]
            go_big_quiet_on
            cases hn' : decide (x.x.nm = x.nm)
            · have GR := Lib.hid (GBX.out (by simp only [rstep, rgoodE, hn']; simp))
              have hnn : ¬ (x.x.n.house = x.nm.1 ∧ x.x.n.num = x.nm.2) := fun h => by
                have h1 : ¬ x.x.nm = x.nm := of_decide_eq_false hn'
                exact h1 (Prod.ext h.1 h.2)
              have HNN := Lib.hid hnn; clear hnn hn'
              go_big_quiet_want
              refine ⟨.bool true, fun w0 hC => ?_, ?_⟩
              · clear hC
                have h0 := HNN.out
                by_cases h1 : x.x.n.house = x.nm.1 <;> by_cases h2 : x.x.n.num = x.nm.2
                · exact absurd ⟨h1, h2⟩ h0
                all_goals (go_simp; try simp [h1, h2])
              simp only [Act.put, List.setIfInBounds_toArray, List.set_cons_zero, List.set_cons_succ]
              go_big_quiet_on
              go_big_quiet_want
              refine ⟨.bool true, fun w0 hC => ?_, ?_⟩
              · clear hC
                go_simp
              simp only [Act.put, List.setIfInBounds_toArray, List.set_cons_zero, List.set_cons_succ]
              go_big_quiet_on
              go_big_quiet_want
              go_big_quiet_op
              go_big_quiet_on
              go_big_quiet_skip
              go_big_quiet_skip
              go_big_quiet_skip
              go_big_quiet_want
              refine ⟨.bool true, fun w0 hC => ?_, ?_⟩
              · clear hC
                go_simp
              simp only [Act.put, List.setIfInBounds_toArray, List.set_cons_zero, List.set_cons_succ]
              go_big_quiet_on
              go_big_quiet_want
              go_big_quiet_op
              go_big_quiet_on
              go_big_quiet_skip
              go_big_quiet_skip
              go_big_quiet_skip
              go_big_quiet_skip
              go_big_quiet_skip
              go_big_quiet_skip
              go_big_quiet_skip
              go_big_quiet_skip
              go_big_quiet_skip
              go_big_quiet_want
              refine ⟨.bool true, fun w0 hC => ?_, ?_⟩
              · clear hC
                go_simp
              simp only [Act.put, List.setIfInBounds_toArray, List.set_cons_zero, List.set_cons_succ]
              go_big_quiet_on
              refine wpQuiet_nil ?_
              intro w' hC
              have BF := Lib.hid (S7.out.trans (hC.mono S7.out.size))
              clear hC
              go_wp2_with fail
              go_ret
              exact ⟨by rw [GR.out]; rfl, B3.out.trans (BF.out.mono B3.out.size)⟩
            · have hne : x.x.n.house = x.nm.1 ∧ x.x.n.num = x.nm.2 := by
                have h1 : x.x.nm = x.nm := of_decide_eq_true hn'
                exact ⟨congrArg Prod.fst h1, congrArg Prod.snd h1⟩
              have HNN := Lib.hid hne; clear hne
              have HNM := Lib.hid hn'; clear hn'
              go_big_quiet_want
              refine ⟨.bool false, fun w0 hC => ?_, ?_⟩
              · clear hC
                have h0 := HNN.out
                go_simp
                try simp [h0.1, h0.2]
              simp only [Act.put, List.setIfInBounds_toArray, List.set_cons_zero, List.set_cons_succ]
              go_big_quiet_on
              go_big_quiet_want
              refine ⟨.bool false, fun w0 hC => ?_, ?_⟩
              · clear hC
                go_simp
              simp only [Act.put, List.setIfInBounds_toArray, List.set_cons_zero, List.set_cons_succ]
              go_big_quiet_on
              go_big_quiet_want
              go_big_quiet_op
              go_big_quiet_on
              go_big_quiet_want
              refine ⟨.agg (noteA x.x.n x.x.sa x.x.sc), fun w0 hC => quiet_load43 (.tmp 7) rfl p7 rfl x.x.n x.x.sa x.x.sc (LX.out w0 hC), ?_⟩
              simp only [Act.put, List.setIfInBounds_toArray, List.set_cons_zero, List.set_cons_succ]
              go_big_quiet_on
              go_big_quiet_want
              refine ⟨.bool (doneB x.x.n), fun w0 hC => ?_, ?_⟩
              · go_simp
                refine (plain_any x.x.n x.x.sa x.x.sc w0).mono ?_
                rintro e w1 ⟨rfl, b1⟩
                exact ⟨rfl, hC.trans (b1.mono hC.size)⟩
              simp only [Act.put, List.setIfInBounds_toArray, List.set_cons_zero, List.set_cons_succ]
              go_big_quiet_on
              cases hd : doneB x.x.n
              · have GR := Lib.hid (GBX.out (by simp [rstep, rgoodE, hd]))
                go_big_quiet_want
                refine ⟨.bool true, fun w0 hC => ?_, ?_⟩
                · clear hC
                  go_simp
                simp only [Act.put, List.setIfInBounds_toArray, List.set_cons_zero, List.set_cons_succ]
                go_big_quiet_on
                go_big_quiet_want
                refine ⟨.bool true, fun w0 hC => ?_, ?_⟩
                · clear hC
                  go_simp
                simp only [Act.put, List.setIfInBounds_toArray, List.set_cons_zero, List.set_cons_succ]
                go_big_quiet_on
                go_big_quiet_want
                go_big_quiet_op
                go_big_quiet_on
                go_big_quiet_skip
                go_big_quiet_skip
                go_big_quiet_skip
                go_big_quiet_skip
                go_big_quiet_skip
                go_big_quiet_skip
                go_big_quiet_skip
                go_big_quiet_skip
                go_big_quiet_skip
                go_big_quiet_want
                refine ⟨.bool true, fun w0 hC => ?_, ?_⟩
                · clear hC
                  go_simp
                simp only [Act.put, List.setIfInBounds_toArray, List.set_cons_zero, List.set_cons_succ]
                go_big_quiet_on
                refine wpQuiet_nil ?_
                intro w' hC
                have BF := Lib.hid (S7.out.trans (hC.mono S7.out.size))
                clear hC
                go_wp2_with fail
                go_ret
                exact ⟨by rw [GR.out]; rfl, B3.out.trans (BF.out.mono B3.out.size)⟩
              · have HD := Lib.hid hd; clear hd
                go_big_quiet_want
                refine ⟨.bool false, fun w0 hC => ?_, ?_⟩
                · clear hC
                  go_simp
                simp only [Act.put, List.setIfInBounds_toArray, List.set_cons_zero, List.set_cons_succ]
                go_big_quiet_on
                go_big_quiet_want
                refine ⟨.bool false, fun w0 hC => ?_, ?_⟩
                · clear hC
                  go_simp
                simp only [Act.put, List.setIfInBounds_toArray, List.set_cons_zero, List.set_cons_succ]
                go_big_quiet_on
                go_big_quiet_want
                go_big_quiet_op
                go_big_quiet_on
                go_big_quiet_want
                refine ⟨.pointer (some ⟨p7, 4, none⟩), fun w0 hC => ?_, ?_⟩
                · clear hC
                  go_simp
                simp only [Act.put, List.setIfInBounds_toArray, List.set_cons_zero, List.set_cons_succ]
                go_big_quiet_on
                go_big_quiet_want
                refine ⟨.int .i64 x.x.n.kind, fun w0 hC => ?_, ?_⟩
                · have c4 := cell_of (LX.out w0 hC) 4 (.int .i64 x.x.n.kind) rfl
                  clear hC
                  go_simp
                simp only [Act.put, List.setIfInBounds_toArray, List.set_cons_zero, List.set_cons_succ]
                go_big_quiet_on
                go_big_quiet_want
                refine ⟨.bool (x.x.n.kind == 1), fun w0 hC => ?_, ?_⟩
                · clear hC
                  go_simp
                simp only [Act.put, List.setIfInBounds_toArray, List.set_cons_zero, List.set_cons_succ]
                go_big_quiet_on
                go_big_quiet_want
                go_big_quiet_op
                go_big_quiet_on
                go_big_quiet_want
                refine ⟨.pointer (some ⟨pR, 0, none⟩), fun w0 hC => ?_, ?_⟩
                · clear hC
                  go_simp
                simp only [Act.put, List.setIfInBounds_toArray, List.set_cons_zero, List.set_cons_succ]
                go_big_quiet_on
                go_big_quiet_want
                refine ⟨.slice ha hn hc, fun w0 hC => ?_, ?_⟩
                · have c0 := cell_of (LR.out w0 hC) 0 (.slice ha hn hc) rfl
                  clear hC
                  go_simp
                simp only [Act.put, List.setIfInBounds_toArray, List.set_cons_zero, List.set_cons_succ]
                go_big_quiet_on
                go_big_quiet_want
                refine ⟨.int .i64 (hn : Int), fun w0 hC => ?_, ?_⟩
                · clear hC
                  go_simp
                simp only [Act.put, List.setIfInBounds_toArray, List.set_cons_zero, List.set_cons_succ]
                go_big_quiet_on
                go_big_quiet_want
                refine ⟨.bool (decide ((k : Int) < (hn : Int))), fun w0 hC => ?_, ?_⟩
                · clear hC
                  go_simp
                simp only [Act.put, List.setIfInBounds_toArray, List.set_cons_zero, List.set_cons_succ]
                go_big_quiet_on
                cases hkb : ((x.x.n.kind == 1) == decide ((k : Int) < (hn : Int)))
                · have GR := Lib.hid (GBX.out (by simp only [rstep, rgoodE, hkb]; simp))
                  have HKB := Lib.hid hkb
                  clear hkb
                  go_big_quiet_want
                  refine ⟨.bool true, fun w0 hC => ?_, ?_⟩
                  · clear hC
                    go_simp
                    first | done | simpa using HKB.out
                  simp only [Act.put, List.setIfInBounds_toArray, List.set_cons_zero, List.set_cons_succ]
                  go_big_quiet_on
                  go_big_quiet_want
                  refine ⟨.bool true, fun w0 hC => ?_, ?_⟩
                  · clear hC
                    go_simp
                  simp only [Act.put, List.setIfInBounds_toArray, List.set_cons_zero, List.set_cons_succ]
                  go_big_quiet_on
                  refine wpQuiet_nil ?_
                  intro w' hC
                  have BF := Lib.hid (S7.out.trans (hC.mono S7.out.size))
                  clear hC
                  go_wp2_with fail
                  go_ret
                  exact ⟨by rw [GR.out]; rfl, B3.out.trans (BF.out.mono B3.out.size)⟩
                · have HK := Lib.hid hkb
                  clear hkb
                  go_big_quiet_want
                  refine ⟨.bool false, fun w0 hC => ?_, ?_⟩
                  · clear hC
                    go_simp
                    first | done | simpa using HK.out
                  simp only [Act.put, List.setIfInBounds_toArray, List.set_cons_zero, List.set_cons_succ]
                  go_big_quiet_on
                  go_big_quiet_want
                  refine ⟨.bool false, fun w0 hC => ?_, ?_⟩
                  · clear hC
                    go_simp
                  simp only [Act.put, List.setIfInBounds_toArray, List.set_cons_zero, List.set_cons_succ]
                  go_big_quiet_on
                  refine wpQuiet_nil ?_
                  intro w' hC
                  have BF := Lib.hid (S7.out.trans (hC.mono S7.out.size))
                  have XW := Lib.hid (LX.out w' hC)
                  have RW' := Lib.hid (LR.out w' hC)
                  have EW := Lib.hid (show ∀ (i : Nat) y, all[i]? = some y → w'.rangeAt b (off + i * 21) y.cells from fun i y hy => rangeAt_below (rangeAt_below (HAT.out i y hy) HWT.out) hC)
                  have x0 := LE'.out w' hC 0 (.int .i64 x.nm.1) rfl
                  have x1 := LE'.out w' hC 1 (.int .i64 x.nm.2) rfl
                  rw [Nat.add_zero] at x0
                  clear hC
                  have hix := HIX.out
                  go_wp2_with fail
                  go_loopw [8] (fun i wz => ∃ j : Nat, i = .int .i64 j ∧ j ≤ k ∧ Hid (∀ (i : Nat) y, i < j → all[i]? = some y → y.nm ≠ x.nm) ∧ ∃ q, wz = w'.drewN q) (fun i _ => k - (intOf i).toNat)
                  case atStart => exact ⟨0, rfl, Nat.zero_le _, Lib.hid (fun i y h => by omega), 0, rfl⟩
                  case round =>
                    obtain ⟨j, rfl, hj, HJ, q', rfl⟩ := hrel
                    by_cases hjk : j < k
                    · have t1 : decide ((j : Int) < (k : Int)) = true := by simp; omega
                      have hjN : j < N := by omega
                      obtain ⟨y, Hy⟩ : ∃ y, all[j]? = some y := ⟨all[j]'(by rw [E3.out.1]; exact hjN), List.getElem?_eq_getElem (by rw [E3.out.1]; exact hjN)⟩
                      have HY := Lib.hid Hy
                      obtain ⟨oy, hoy⟩ : ∃ oy, Hid (off + j * 21 = oy) := ⟨_, Lib.hid rfl⟩
                      have hyr := EW.out j y Hy
                      rw [hoy.out] at hyr
                      have y0 := hyr 0 (.int .i64 y.nm.1) rfl
                      have y1 := hyr 1 (.int .i64 y.nm.2) rfl
                      rw [Nat.add_zero] at y0
                      have hiy := fun W => idx_off (W := W) (c := c) (b := b) Tryz.underlying24 J21 hjN hoy.out
                      clear hyr Hy
                      by_cases he : y.nm = x.nm
                      · have e1 : y.nm.1 = x.nm.1 := by rw [he]
                        have e2 : y.nm.2 = x.nm.2 := by rw [he]
                        have GR := Lib.hid (GBX.out (by
                          have hm : x.nm ∈ (all.take k).map EvV.nm := by
                            rw [← he]
                            exact List.mem_map_of_mem (List.mem_of_getElem? (show (all.take k)[j]? = some y by rw [List.getElem?_take_of_lt hjk]; exact HY.out))
                          simp only [rstep, decide_eq_true hm, Bool.not_true, Bool.false_and, Bool.and_false]))
                        rw [e1] at y0; rw [e2] at y1
                        clear e1 e2 he
                        go_wp2
                        go_quiet (fail)
                        go_wp2
                        go_ret
                        exact ⟨by rw [GR.out]; rfl, B3.out.trans ((below_drewN (below_drewN BF.out _) _).mono B3.out.size)⟩
                      · have HE := Lib.hid he
                        by_cases e1 : y.nm.1 = x.nm.1
                        · have e2 : (y.nm.2 == x.nm.2) = false := by rw [beq_eq_false_iff_ne]; exact fun h => he (Prod.ext e1 h)
                          rw [e1] at y0
                          clear e1 he
                          go_wp2
                          go_quiet (fail)
                          go_wp2
                          go_roundw
                          case rel => exact ⟨j + 1, by go_num, by omega, Lib.hid (fun i z hi hz => by
                            rcases Nat.lt_or_ge i j with h' | h'
                            · exact HJ.out i z h' hz
                            · have e : i = j := by omega
                              subst e
                              rw [HY.out] at hz
                              cases hz
                              exact HE.out), _, rfl⟩
                          case measure => simp [intOf]; omega
                        · have e2 : (y.nm.1 == x.nm.1) = false := by rw [beq_eq_false_iff_ne]; exact e1
                          clear e1 he
                          go_wp2
                          go_quiet (fail)
                          go_wp2
                          go_roundw
                          case rel => exact ⟨j + 1, by go_num, by omega, Lib.hid (fun i z hi hz => by
                            rcases Nat.lt_or_ge i j with h' | h'
                            · exact HJ.out i z h' hz
                            · have e : i = j := by omega
                              subst e
                              rw [HY.out] at hz
                              cases hz
                              exact HE.out), _, rfl⟩
                          case measure => simp [intOf]; omega
                    · have t1 : decide ((j : Int) < (k : Int)) = false := by simp; omega
                      have HM : Hid (x.nm ∉ (all.take k).map EvV.nm) := Lib.hid (fun hm => by
                        obtain ⟨y, hy, hyx⟩ := List.mem_map.1 hm
                        obtain ⟨i, hi⟩ := List.getElem?_of_mem hy
                        rw [List.getElem?_take] at hi
                        split at hi
                        · exact HJ.out i y (by omega) hi hyx
                        · cases hi)
                      have BZ := Lib.hid (below_drewN BF.out q')
                      have XZ : Hid ((w'.drewN q').heap[p7]? = some (.cells (noteA x.x.n x.x.sa x.x.sc) 51 (0, 0))) := Lib.hid XW.out
                      have RZ : Hid ((w'.drewN q').heap[pR]? = some (.cells #[.slice ha hn hc, .slice ea en ec, v3] 27 (0, 0))) := Lib.hid RW'.out
                      clear HJ XW RW' EW BF x0 x1 hix
                      go_upto_region 15 with fail
                      generalize w'.drewN q' = wz at *
                      have d4 := cell_of XZ.out 4 (.int .i64 x.x.n.kind) rfl
                      have d16 := cell_of XZ.out 16 (.int .i64 x.x.n.refH) rfl
                      have d17 := cell_of XZ.out 17 (.int .i64 x.x.n.refN) rfl
                      have r0 := cell_of RZ.out 0 (.slice ha hn hc) rfl
                      cases hk2 : (x.x.n.kind == 2)
                      · have HST : Hid (rstep f hs hn all k x = true) := Lib.hid (by simp only [rstep, rgoodE, HF.out, HNM.out, HD.out, HK.out, hk2, decide_eq_false HM.out]; rfl)
                        have BY := Lib.hid BZ.out
                        go_wp2_with fail
                        go_roundw
                        case rel => exact ⟨k + 1, by go_num, by omega, BY, Lib.hid (fun i z hi hz => by
                          rcases Nat.lt_or_ge i k with h' | h'
                          · exact HA.out i z h' hz
                          · have e : i = k := by omega
                            subst e
                            rw [HX.out] at hz
                            cases hz
                            exact HST.out)⟩
                        case measure => simp [intOf]; omega
                      · have CH := Lib.hid (rheap_any hs ha hn hc x.x.n.refH x.x.n.refN wz (H3.out.below BZ.out))
                        obtain ⟨z, hz⟩ : ∃ z, Hid (idxI hs (isNm x.x.n.refH x.x.n.refN) = z) := ⟨_, Lib.hid rfl⟩
                        rw [hz.out] at CH
                        cases hz0 : decide (z < 0)
                        · have HST : Hid (rstep f hs hn all k x = true) := Lib.hid (by simp only [rstep, rgoodE, HF.out, HNM.out, HD.out, HK.out, hk2, hz.out, hz0, decide_eq_false HM.out]; rfl)
                          go_wp2_with (first
                            | (go_at_call 47
                               refine CH.out.mono ?_
                               rintro e wy ⟨rfl, by_⟩
                               have BY := Lib.hid (BZ.out.trans (by_.mono BZ.out.size))
                               clear by_
                               dsimp only)
                            | fail)
                          go_roundw
                          case rel => exact ⟨k + 1, by go_num, by omega, BY, Lib.hid (fun i z hi hz => by
                            rcases Nat.lt_or_ge i k with h' | h'
                            · exact HA.out i z h' hz
                            · have e : i = k := by omega
                              subst e
                              rw [HX.out] at hz
                              cases hz
                              exact HST.out)⟩
                          case measure => simp [intOf]; omega
                        · have GR := Lib.hid (GBX.out (by simp only [rstep, hk2, hz.out, hz0]; simp))
                          go_wp2_with (first
                            | (go_at_call 47
                               refine CH.out.mono ?_
                               rintro e wy ⟨rfl, by_⟩
                               have BY := Lib.hid (BZ.out.trans (by_.mono BZ.out.size))
                               clear by_
                               dsimp only)
                            | fail)
                          go_ret
                          exact ⟨by rw [GR.out]; rfl, B3.out.trans (BY.out.mono B3.out.size)⟩
        · have hkN : k = N := by omega
          have t0 : decide ((k : Int) < (N : Int)) = false := by simp; omega
          have GR := Lib.hid (GG.out (fun j y hy => HA.out j y (by have h1 := (List.getElem?_eq_some_iff.1 hy).1; rw [E3.out.1] at h1; omega) hy))
          go_wp2_with fail
          go_ret
          exact ⟨by rw [GR.out]; rfl, B3.out.trans (HS.out.mono B3.out.size)⟩
    · have t4 : decide ((400 : Int) < (en : Int)) = true := by simp; omega
      have GR : Hid (regOkB f hs es = false) := Lib.hid (by rw [regOkB, LE.out]; simp [h4])
      clear h4
      go_wp2_with fail
      go_ret
      exact ⟨by rw [GR.out]; rfl, B0.out⟩
  · have t8 : decide ((8 : Int) < (hn : Int)) = true := by simp; omega
    have GR : Hid (regOkB f hs es = false) := Lib.hid (by rw [regOkB, LH.out]; simp [h8])
    clear h8
    go_wp2_with fail
    go_ret
    exact ⟨by rw [GR.out]; rfl, B0.out⟩
set_option maxHeartbeats 4000000 in
set_option maxRecDepth 100000 in
theorem rrightReg_any (f : FrV) (hs es : List EvV) (ha : Option Addr) (hn hc : Nat) (ea : Option Addr) (en ec : Nat) (v3 : Value) (w : World)
    (h1 : RdA w 21 ha hn hc (evCells hs)) (h2 : RdA w 21 ea en ec (evCells es)) (hok : ∀ e ∈ hs ++ es, e.x.ok w) :
    Calls Tryz.prog 21 #[f.val, .agg #[.slice ha hn hc, .slice ea en ec, v3]] w fun e w' => e = .returned (.bool (f.valid && regOkB f hs es)) ∧ Below w.heap.size w w' := by
  have hvl : f.val = .agg #[.int .i64 f.rings, .int .i64 f.sectors, .int .i64 f.wide] := rfl
  have RR := Lib.hid (fun (W : World) (hv : f.valid = true) a b c => rright_any f hs es ha hn hc ea en ec v3 W hv a b c)
  rw [hvl] at RR ⊢; clear hvl
  have B0 := Lib.hid (((Below.refl w.heap.size w).alloc (Nat.le_refl _) (.cells #[.int .i64 f.rings, .int .i64 f.sectors, .int .i64 f.wide] 23)).alloc (by simp) (.cells #[.slice ha hn hc, .slice ea en ec, v3] 27))
  have F0 := Lib.hid (heap_before _ (.cells #[.slice ha hn hc, .slice ea en ec, v3] 27) _ _ (heap_last w (.cells #[.int .i64 f.rings, .int .i64 f.sectors, .int .i64 f.wide] 23)))
  have P0 := Lib.hid (heap_at (w.alloc (.cells #[.int .i64 f.rings, .int .i64 f.sectors, .int .i64 f.wide] 23)) (.cells #[.slice ha hn hc, .slice ea en ec, v3] 27) (w.heap.size + 1) (by simp))
  have R1 := Lib.hid (h1.below B0.out)
  have R2 := Lib.hid (h2.below B0.out)
  have OK := Lib.hid (evs_ok hok B0.out)
  clear h1 h2 hok
  go_enter Tryz.func21, Tryz.ntmps21
  go_upto_region 1 with fail
  obtain ⟨pF, hpF⟩ : ∃ pF, Hid (w.heap.size = pF) := ⟨_, Lib.hid rfl⟩
  obtain ⟨pR, hpR⟩ : ∃ pR, Hid (w.heap.size + 1 = pR) := ⟨_, Lib.hid rfl⟩
  rw [hpR.out, hpF.out]
  rw [hpF.out] at F0
  rw [hpR.out] at P0
  generalize (w.alloc (.cells #[.int .i64 f.rings, .int .i64 f.sectors, .int .i64 f.wide] 23)).alloc (.cells #[.slice ha hn hc, .slice ea en ec, v3] 27) = W1 at *
  have f0 := cell_of F0.out 0 (.int .i64 f.rings) rfl
  have f1 := cell_of F0.out 1 (.int .i64 f.sectors) rfl
  have f2 := cell_of F0.out 2 (.int .i64 f.wide) rfl
  have VF := Lib.hid (fun W => validFrame_any f.rings f.sectors f.wide W)
  have HVE : Hid (FrV.valid ⟨f.rings, f.sectors, f.wide⟩ = f.valid) := Lib.hid rfl
  rw [HVE.out] at VF
  clear HVE
  cases hv : f.valid
  · rw [hv] at VF
    have HV := Lib.hid hv
    clear hv
    go_wp2_with (first
      | (go_at_call 59
         refine (VF.out _).mono ?_
         rintro e W2 ⟨rfl, b2⟩
         have B2 := Lib.hid (B0.out.trans (b2.mono B0.out.size))
         clear b2
         dsimp only)
      | fail)
    go_ret
    exact ⟨by rw [HV.out]; rfl, B2.out⟩
  · have HV := Lib.hid hv
    rw [hv] at VF
    clear hv
    obtain ⟨q, hq⟩ : ∃ q, Hid (regOkB f hs es = q) := ⟨_, Lib.hid rfl⟩
    rw [hq.out] at RR
    go_wp2_with (first
      | (go_at_call 59
         refine (VF.out _).mono ?_
         rintro e W2 ⟨rfl, b2⟩
         have B2 := Lib.hid (B0.out.trans (b2.mono B0.out.size))
         have F2 := Lib.hid (below_blk b2 F0.out)
         have P2 := Lib.hid (below_blk b2 P0.out)
         have R12 := Lib.hid (R1.out.below b2)
         have R22 := Lib.hid (R2.out.below b2)
         have OK2 := Lib.hid (evs_ok OK.out b2)
         clear b2 f0 f1 f2
         have f0 := cell_of F2.out 0 (.int .i64 f.rings) rfl
         have f1 := cell_of F2.out 1 (.int .i64 f.sectors) rfl
         have f2 := cell_of F2.out 2 (.int .i64 f.wide) rfl
         have p0 := cell_of P2.out 0 (.slice ha hn hc) rfl
         have p1 := cell_of P2.out 1 (.slice ea en ec) rfl
         have p2 := cell_of P2.out 2 v3 rfl
         dsimp only)
      | (go_at_call 60
         refine (RR.out _ HV.out R12.out R22.out OK2.out).mono ?_
         rintro e W3 ⟨rfl, b3⟩
         have B3 := Lib.hid (B2.out.trans (b3.mono B2.out.size))
         clear b3
         dsimp only)
      | fail)
    go_ret
    exact ⟨by rw [hq.out, HV.out]; rfl, B3.out⟩
end Go.Proofs.YtpjiakgfegnmcaaGreat
namespace Go.Proofs.YtpjiakgfegnmcaaGreat
set_option linter.unusedSimpArgs false
set_option linter.unusedVariables false

theorem judgeP_mem {l : List NoteV} {r j : NoteV} (h : judgeP l r = some j) : j ∈ l ∧ candP r j = true := by
  have hg : ∀ (l : List NoteV) (b : Option NoteV), l.foldl (betterP r) b = some j → (j ∈ l ∧ candP r j = true) ∨ b = some j := by
    intro l
    induction l with
    | nil => intro b h; exact .inr h
    | cons x l ih =>
      intro b h
      rcases ih _ h with h1 | h1
      · exact .inl ⟨List.mem_cons_of_mem _ h1.1, h1.2⟩
      · unfold betterP at h1
        split at h1
        · rename_i hc
          split at h1
          · cases h1; exact .inl ⟨List.mem_cons_self .., hc⟩
          · split at h1
            · cases h1; exact .inl ⟨List.mem_cons_self .., hc⟩
            · exact .inr h1
        · exact .inr h1
  rcases hg l none h with h1 | h1
  · exact h1
  · cases h1
theorem formed_count {f : FrV} (hv : f.valid = true) {r j : NoteV} (hr : formedB f r = true) (hj : formedB f j = true) (h5 : j.kind ≠ 6) (hc : candP r j = true) : formedB f (countN r j) = true ∧ doneB (countN r j) = true := by
  simp only [candP, judgesB, doneB, Bool.and_eq_true, Bool.or_eq_true, decide_eq_true_eq, inB_true, Bool.not_eq_true', decide_eq_false_iff_not] at hc
  obtain ⟨_, _, hd, hk⟩ := hc
  have hk5 : j.kind = 5 := by
    rcases hk with h | h
    · exact absurd h h5
    · exact h.1
  have hf : 1 ≤ j.fix ∧ j.fix ≤ 4 := by
    rcases formed_kind hj (by rw [doneB, inB_false, hk5]; omega) with h | h
    · exact absurd h h5
    · exact h
  have h2 : j.fix = 2 → r.kind = 2 := by
    intro e
    rcases hk with h | h
    · exact absurd h h5
    · rcases h.2 with h | h
      · exact absurd e h
      · exact h
  refine ⟨?_, inB_true.2 hf⟩
  rw [formed_well hv] at hr hj ⊢
  simp only [wellB, Bool.and_eq_true, hk5] at hr hj ⊢
  simp only [countN]
  have hfx : j.fix = 1 ∨ j.fix = 2 ∨ j.fix = 3 ∨ j.fix = 4 := by omega
  rcases hfx with e | e | e | e
  · simp only [e, refersB, namedB, zero14, bareR, bare0, rightB] at hr hj ⊢
    simp_all
  · have hr2 := h2 e
    simp only [e, hr2, refersB, namedB, zero14, bareR, bare0, rightB] at hr hj ⊢
    simp_all
  · simp only [e, refersB, namedB, zero14, bareR, bare0, rightB] at hr hj ⊢
    simp_all
  · simp only [e, refersB, namedB, zero14, bareR, bare0, rightB] at hr hj ⊢
    simp_all
theorem count_good {f : FrV} (hv : f.valid = true) {l : List NoteV} (hl : ∀ x ∈ l, formedB f x = true) {r e : NoteV} (hr : r ∈ l) (h : countP l r = some e) : formedB f e = true ∧ doneB e = true := by
  unfold countP at h
  split at h
  · rename_i hd
    split at h
    · cases h; exact ⟨hl r hr, hd⟩
    · rename_i j hj
      split at h
      · cases h
      · cases h
        obtain ⟨h1, h2⟩ := judgeP_mem hj
        exact formed_count hv (hl r hr) (hl j h1) (by assumption) h2
  · cases h
theorem mem_events {l : List NoteV} {e : NoteV} (h : e ∈ eventsP l) : ∃ r ∈ l, countP l r = some e := List.mem_filterMap.1 ((sortP_perm _).subset h)
theorem count_clock {l : List NoteV} {r e : NoteV} (h : countP l r = some e) : e.clock = r.clock := by
  unfold countP at h
  split at h
  · split at h
    · cases h; rfl
    · split at h
      · cases h
      · cases h; rfl
  · cases h
theorem events_nodup {l : List NoteV} (hd : (l.map nmOf).Nodup) : ((eventsP l).map nmOf).Nodup := ((sortP_perm _).map nmOf).nodup_iff.2 (count_nodup l l hd)
theorem events_strict {l : List NoteV} (hd : (l.map nmOf).Nodup) : (eventsP l).Pairwise (fun x y => whenC x y < 0) := by
  have h1 := events_nodup hd
  rw [List.Nodup, List.pairwise_map] at h1
  refine (h1.and (sortP_sorted _)).imp (fun {x y} h => ?_)
  by_cases h2 : whenC x y < 0
  · exact h2
  · exact absurd (whenC_eq h2 h.2) h.1
theorem events_len (l : List NoteV) : (eventsP l).length ≤ l.length := by
  rw [eventsP, (sortP_perm _).length_eq]
  exact List.length_filterMap_le _ _
theorem fold_inv {day : Int} (P : List NoteV → RegN → Prop) (h0 : P [] ⟨[], [], []⟩) (hs : ∀ p N n, P p N → P (p ++ [n]) (stepN day N n)) (l : List NoteV) : P l (l.foldl (stepN day) ⟨[], [], []⟩) := by
  have h : ∀ (l p : List NoteV) (N : RegN), P p N → P (p ++ l) (l.foldl (stepN day) N) := by
    intro l
    induction l with
    | nil => intro p N h; simpa using h
    | cons n l ih =>
      intro p N h
      have := ih _ _ (hs p N n h)
      rwa [List.append_assoc] at this
  exact h l [] _ h0
structure RInv (day : Int) (p : List NoteV) (N : RegN) : Prop where
  hs : N.hs.Sublist p
  es : N.es.Sublist p
  h8 : N.hs.length ≤ 8
  kh : ∀ n ∈ N.hs, n.kind = 1
  ke : ∀ n ∈ N.es, n.kind ≠ 1
  dy : ∀ n ∈ N.es, n.day ≤ day
  ps : p.Pairwise (fun x y => whenC x y < 0) → ∀ e ∈ N.es, e.kind = 2 → ∃ h ∈ N.hs, nmOf h = refOf e ∧ whenC h e < 0
theorem rinv (day : Int) (l : List NoteV) : RInv day l (l.foldl (stepN day) ⟨[], [], []⟩) := by
  refine fold_inv _ ⟨by simp, by simp, by simp, by simp, by simp, by simp, by simp⟩ (fun p N n h => ?_) l
  have hs' : N.hs.Sublist (p ++ [n]) := h.hs.trans (List.sublist_append_left ..)
  have es' : N.es.Sublist (p ++ [n]) := h.es.trans (List.sublist_append_left ..)
  have ps' : (p ++ [n]).Pairwise (fun x y => whenC x y < 0) → ∀ e ∈ N.es, e.kind = 2 → ∃ h ∈ N.hs, nmOf h = refOf e ∧ whenC h e < 0 := fun hp => h.ps (List.pairwise_append.1 hp).1
  unfold stepN
  split
  · rename_i hday
    split
    · rename_i he
      split
      · rename_i hk
        unfold effN at he
        rw [if_pos hk, decide_eq_true_eq] at he
        have := h.h8
        refine ⟨h.hs.append (List.Sublist.refl _), es', by simp only [List.length_append, List.length_singleton]; omega, fun m hm => ?_, h.ke, h.dy, fun hp e hm h2 => ?_⟩
        · rcases List.mem_append.1 hm with hm | hm
          · exact h.kh m hm
          · rw [List.mem_singleton] at hm; rw [hm]; exact hk
        · obtain ⟨x, h3, h4⟩ := ps' hp e hm h2
          exact ⟨x, List.mem_append_left _ h3, h4⟩
      · rename_i hk
        refine ⟨hs', h.es.append (List.Sublist.refl _), h.h8, h.kh, fun m hm => ?_, fun m hm => ?_, fun hp e hm h2 => ?_⟩
        · rcases List.mem_append.1 hm with hm | hm
          · exact h.ke m hm
          · rw [List.mem_singleton] at hm; rw [hm]; exact hk
        · rcases List.mem_append.1 hm with hm | hm
          · exact h.dy m hm
          · rw [List.mem_singleton] at hm; rw [hm]; exact hday
        · rcases List.mem_append.1 hm with hm | hm
          · exact ps' hp e hm h2
          · rw [List.mem_singleton] at hm
            subst hm
            unfold effN at he
            rw [if_neg hk, if_pos h2, List.any_eq_true] at he
            obtain ⟨x, hx, h3⟩ := he
            exact ⟨x, hx, of_decide_eq_true h3, (List.pairwise_append.1 hp).2.2 x (h.hs.subset hx) e (List.mem_singleton_self e)⟩
    · exact ⟨hs', es', h.h8, h.kh, h.ke, h.dy, ps'⟩
  · exact ⟨hs', es', h.h8, h.kh, h.ke, h.dy, ps'⟩
/-- The turns of all passes. -/
def turnsSum (l : List EvV) : Int := l.foldl (fun n e => if e.x.n.kind = 2 then n + e.x.n.turns else n) 0
theorem turnsSum_snoc (l : List EvV) (e : EvV) : turnsSum (l ++ [e]) = if e.x.n.kind = 2 then turnsSum l + e.x.n.turns else turnsSum l := by simp [turnsSum, List.foldl_append]
def sumI (l : List Int) : Int := l.foldl (· + ·) 0
theorem sumI_snoc (l : List Int) (x : Int) : sumI (l ++ [x]) = sumI l + x := by simp [sumI, List.foldl_append]
theorem sumI_cons (x : Int) (l : List Int) : sumI (x :: l) = x + sumI l := by
  have h : ∀ (l : List Int) (z : Int), l.foldl (· + ·) z = z + sumI l := by
    intro l
    induction l with
    | nil => intro z; simp [sumI]
    | cons y l ih =>
      intro z
      rw [List.foldl_cons, ih, show sumI (y :: l) = l.foldl (· + ·) (0 + y) from rfl, ih]
      omega
  rw [show sumI (x :: l) = l.foldl (· + ·) (0 + x) from rfl, h]
  omega
theorem sumI_one {ks : List Nm} (g g' : Nm → Int) (b : Nm) (t : Int) (hn : ks.Nodup) (hb : b ∈ ks) (h1 : g' b = g b + t) (h2 : ∀ a, a ≠ b → g' a = g a) : sumI (ks.map g') = sumI (ks.map g) + t := by
  induction ks with
  | nil => cases hb
  | cons k ks ih =>
    rw [List.nodup_cons] at hn
    rw [List.map_cons, List.map_cons, sumI_cons, sumI_cons]
    rcases List.mem_cons.1 hb with rfl | hb
    · have h3 : ks.map g' = ks.map g := List.map_congr_left (fun a ha => h2 a (fun e => hn.1 (by rw [← e]; exact ha)))
      rw [h3, h1]; omega
    · rw [ih hn.2 hb, h2 k (fun e => hn.1 (by rw [e]; exact hb))]; omega
/-- The turns of all heaps are those of all passes. -/
theorem turns_all {ks : List Nm} (hn : ks.Nodup) {es : List EvV} (h : ∀ e ∈ es, e.x.n.kind = 2 → refOf e.x.n ∈ ks ∧ 1 ≤ e.x.n.turns ∧ e.x.n.turns ≤ 10000) : sumI (ks.map (fun a => passSum a es)) = turnsSum es := by
  have hg : ∀ n, n ≤ es.length → sumI (ks.map (fun a => passSum a (es.take n))) = turnsSum (es.take n) := by
    intro n
    induction n with
    | zero =>
      intro _
      simp only [List.take_zero]
      have : ∀ ks : List Nm, sumI (ks.map (fun a => passSum a [])) = 0 := by
        intro ks
        induction ks with
        | nil => rfl
        | cons k ks ih => rw [List.map_cons, sumI_cons, ih]; rfl
      rw [this]; rfl
    | succ n ih =>
      intro hlt
      obtain ⟨e, he⟩ : ∃ e, es[n]? = some e := ⟨_, List.getElem?_eq_getElem (by omega)⟩
      have ih := ih (by omega)
      rw [take_snoc he, turnsSum_snoc]
      by_cases hk : e.x.n.kind = 2
      · obtain ⟨h1, h2⟩ := h e (List.mem_of_getElem? he) hk
        rw [if_pos hk, ← ih]
        refine sumI_one _ _ (refOf e.x.n) _ hn h1 ?_ (fun a ha => ?_)
        · rw [passSum_snoc, if_pos]
          unfold passOne
          rw [hk, inB_true.2 h2]
          simp [refOf]
        · rw [passSum_snoc, if_neg]
          unfold passOne
          intro h3
          simp only [Bool.and_eq_true, decide_eq_true_eq] at h3
          exact ha h3.2.1.symm
      · rw [if_neg hk, ← ih]
        congr 1
        refine List.map_congr_left (fun a _ => ?_)
        rw [passSum_snoc, if_neg]
        unfold passOne
        simp [hk]
  have := hg es.length (Nat.le_refl _)
  rwa [List.take_length] at this
/-- All that is asked of the register of a set. -/
structure RegGood (f : FrV) (day clock : Int) (hs es : List EvV) (cs : List Nm) : Prop where
  right : (f.valid && regOkB f hs es) = true
  h8 : hs.length ≤ 8
  e4 : es.length ≤ 400
  c4 : cs.length ≤ 400
  ord : ∀ i a b, es[i]? = some a → es[i + 1]? = some b → whenC a.x.n b.x.n < 0
  le : ∀ e ∈ es, e.x.n.day ≤ day ∧ e.x.n.clock ≤ clock
  pass : ∀ e ∈ es, e.x.n.kind = 2 → ∃ k h, idxI hs (isNm e.x.n.refH e.x.n.refN) = (k : Nat) ∧ hs[k]? = some h ∧ h.nm = refOf e.x.n ∧ whenC h.x.n e.x.n < 0
  turns : ∀ e ∈ es, e.x.n.kind = 2 → 1 ≤ e.x.n.turns ∧ e.x.n.turns ≤ 10000
  sum : sumI (hs.map (fun h => passSum h.nm es)) = turnsSum es
  cs : ∀ i a b, cs[i]? = some a → cs[i + 1]? = some b → nmLt a b = true
theorem idxI_nat {hs : List EvV} {p : EvV → Bool} {h : EvV} (hm : h ∈ hs) (hp : p h = true) : ∃ k x, idxI hs p = (k : Nat) ∧ hs[k]? = some x ∧ p x = true := by
  unfold idxI
  cases hf : hs.findIdx? p with
  | none =>
    rw [List.findIdx?_eq_none_iff] at hf
    rw [hf h hm] at hp; cases hp
  | some i =>
    obtain ⟨h2, h3, _⟩ := List.findIdx?_eq_some_iff_getElem.1 hf
    exact ⟨i, hs[i], rfl, List.getElem?_eq_getElem h2, h3⟩
theorem formed_turns {f : FrV} {n : NoteV} (h : formedB f n = true) (hk : n.kind = 2) : 1 ≤ n.turns ∧ n.turns ≤ 10000 := by
  unfold formedB okB at h
  rw [if_pos hk] at h
  simp only [Bool.and_eq_true] at h
  have h1 := h.1.1
  rw [hk] at h1
  unfold saidB at h1
  exact inB_true.1 (by simpa using h1)
theorem adj_of_pairwise {α : Type} {R : α → α → Prop} {l : List α} (h : l.Pairwise R) (i : Nat) (a b : α) (ha : l[i]? = some a) (hb : l[i + 1]? = some b) : R a b := by
  obtain ⟨h1, rfl⟩ := List.getElem?_eq_some_iff.1 ha
  obtain ⟨h2, rfl⟩ := List.getElem?_eq_some_iff.1 hb
  exact List.pairwise_iff_getElem.1 h i (i + 1) h1 h2 (by omega)
theorem reg_good {f : FrV} {l : List NoteV} {day clock : Int} {hs es : List EvV} {cs : List Nm} (hset : (checkSetP f l).1 = 0) (e1 : hs.map (fun e => e.x.n) = (regN day (upTo clock l)).hs) (e2 : es.map (fun e => e.x.n) = (regN day (upTo clock l)).es)
    (e3 : cs = csN day (upTo clock l)) (e4 : ∀ e ∈ hs ++ es, e.nm = nmOf e.x.n) : RegGood f day clock hs es cs := by
  obtain ⟨hv, h400, hfm, hpw⟩ := set_ok hset
  have hpw' : (upTo clock l).Pairwise (fun x y => nmLt (nmOf x) (nmOf y) = true) := hpw.sublist (upTo_sub clock l)
  have hd := set_nodup hpw'
  have hfm' : ∀ x ∈ upTo clock l, formedB f x = true := fun x hx => hfm x ((upTo_sub clock l).subset hx)
  have hlen : (upTo clock l).length ≤ 400 := Nat.le_trans (upTo_sub clock l).length_le h400
  generalize hl : upTo clock l = m at *
  have hcl : ∀ x ∈ m, x.clock ≤ clock := fun x hx => by
    rw [← hl] at hx
    have := (List.mem_filter.1 hx).2
    simp at this; omega
  obtain ⟨i1, i2, i3, i4, i5, i6, i7⟩ := rinv day (eventsP m)
  change (regN day m).hs.Sublist _ at i1
  change (regN day m).es.Sublist _ at i2
  have i7 := i7 (events_strict hd)
  rw [show (eventsP m).foldl (stepN day) ⟨[], [], []⟩ = regN day m from rfl] at i3 i4 i5 i6 i7
  have mh : ∀ e ∈ hs, e.x.n ∈ (regN day m).hs := fun e he => by rw [← e1]; exact List.mem_map_of_mem he
  have me : ∀ e ∈ es, e.x.n ∈ (regN day m).es := fun e he => by rw [← e2]; exact List.mem_map_of_mem he
  have mev : ∀ e ∈ hs ++ es, e.x.n ∈ eventsP m := fun e he => by
    rcases List.mem_append.1 he with h | h
    · exact i1.subset (mh e h)
    · exact i2.subset (me e h)
  have good : ∀ n ∈ eventsP m, formedB f n = true ∧ doneB n = true ∧ n.clock ≤ clock := fun n hn => by
    obtain ⟨r, hr, hc⟩ := mem_events hn
    obtain ⟨h1, h2⟩ := count_good hv hfm' hr hc
    exact ⟨h1, h2, by rw [count_clock hc]; exact hcl r hr⟩
  have hl1 : hs.length ≤ 8 := by have := congrArg List.length e1; rw [List.length_map] at this; omega
  have hl2 : es.length ≤ 400 := by
    have h1 := congrArg List.length e2
    rw [List.length_map] at h1
    have h2 := i2.length_le
    have h3 := events_len m
    omega
  have nd : ((hs ++ es).map EvV.nm).Nodup := by
    have h1 : (hs ++ es).map EvV.nm = ((regN day m).hs ++ (regN day m).es).map nmOf := by
      rw [← e1, ← e2, ← List.map_append, List.map_map]
      exact List.map_congr_left (fun e he => e4 e he)
    rw [h1, List.map_append, List.nodup_append]
    have hen := events_nodup hd
    refine ⟨hen.sublist (i1.map _), hen.sublist (i2.map _), fun a ha b hb e => ?_⟩
    obtain ⟨x, hx, rfl⟩ := List.mem_map.1 ha
    obtain ⟨y, hy, rfl⟩ := List.mem_map.1 hb
    have := nodup_inj hen (i1.subset hx) (i2.subset hy) e
    exact i5 y hy (by rw [← this]; exact i4 x hx)
  have pss : ∀ e ∈ es, e.x.n.kind = 2 → ∃ k h, idxI hs (isNm e.x.n.refH e.x.n.refN) = (k : Nat) ∧ hs[k]? = some h ∧ h.nm = refOf e.x.n ∧ whenC h.x.n e.x.n < 0 := fun e he h2 => by
    obtain ⟨n, hn, h3, h4⟩ := i7 _ (me e he) h2
    rw [← e1] at hn
    obtain ⟨h, hh, rfl⟩ := List.mem_map.1 hn
    have hnm := e4 h (List.mem_append_left _ hh)
    obtain ⟨k, x, q1, q2, q3⟩ := idxI_nat (p := isNm e.x.n.refH e.x.n.refN) hh (by rw [isNm, decide_eq_true_eq, hnm, h3]; exact ⟨rfl, rfl⟩)
    have q4 : x.nm = refOf e.x.n := by
      rw [isNm, decide_eq_true_eq] at q3
      exact Prod.ext q3.1 q3.2
    have hx := List.mem_of_getElem? q2
    refine ⟨k, x, q1, q2, q4, ?_⟩
    have : x.x.n = h.x.n := nodup_inj (events_nodup hd) (mev x (List.mem_append_left _ hx)) (mev h (List.mem_append_left _ hh)) (by rw [← e4 x (List.mem_append_left _ hx), q4, h3])
    rw [this]; exact h4
  have trn : ∀ e ∈ es, e.x.n.kind = 2 → 1 ≤ e.x.n.turns ∧ e.x.n.turns ≤ 10000 := fun e he h2 => formed_turns (good _ (mev e (List.mem_append_right _ he))).1 h2
  refine ⟨?_, hl1, hl2, ?_, ?_, fun e he => ⟨i6 _ (me e he), (good _ (mev e (List.mem_append_right _ he))).2.2⟩, pss, trn, ?_, ?_⟩
  · rw [hv, Bool.true_and, regOkB]
    rw [Bool.and_eq_true, Bool.and_eq_true, Bool.and_eq_true, Bool.and_eq_true]
    refine ⟨decide_eq_true hl1, decide_eq_true hl2, ?_, ?_, ?_⟩
    · rw [goodAll_iff]
      intro k e he
      have hm := List.mem_of_getElem? he
      obtain ⟨g1, g2, _⟩ := good _ (mev e hm)
      unfold goodE
      rw [g1, g2, ln_nm, ← e4 e hm]
      simp only [decide_true, Bool.true_and, List.nil_append, Bool.not_eq_true', decide_eq_false_iff_not]
      intro hmem
      rw [List.map_take] at hmem
      rw [List.mem_take_iff_getElem] at hmem
      obtain ⟨i, hi, h2⟩ := hmem
      obtain ⟨hk, h3⟩ := List.getElem?_eq_some_iff.1 he
      have hik : i < k := by omega
      have hi2 : i < ((hs ++ es).map EvV.nm).length := by omega
      have := List.pairwise_iff_getElem.1 nd i k hi2 (by rw [List.length_map]; exact hk) hik
      rw [h2, List.getElem_map, h3] at this
      exact this rfl
    · rw [List.all_eq_true]
      intro e he
      rw [i4 _ (mh e he)]; rfl
    · rw [Bool.not_eq_true', List.any_eq_false]
      intro e he hb
      unfold badE at hb
      rw [Bool.or_eq_true, Bool.and_eq_true, beq_iff_eq, beq_iff_eq, decide_eq_true_eq] at hb
      rcases hb with h | ⟨h1, h2⟩
      · exact i5 _ (me e he) h
      · obtain ⟨k, h, q1, _⟩ := pss e he h1
        omega
  · rw [e3]
    unfold csN
    rw [List.length_map]
    exact Nat.le_trans (List.length_filter_le _ _) hlen
  · intro i a b ha hb
    have h1 := (events_strict hd).sublist i2
    rw [← e2, List.pairwise_map] at h1
    exact adj_of_pairwise h1 i a b ha hb
  · have h1 : hs.map (fun h => passSum h.nm es) = (hs.map EvV.nm).map (fun a => passSum a es) := by rw [List.map_map]; rfl
    rw [h1]
    refine turns_all (nd.sublist ((List.sublist_append_left hs es).map _)) (fun e he h2 => ?_)
    obtain ⟨k, h, _, q2, q3, _⟩ := pss e he h2
    exact ⟨by rw [← q3]; exact List.mem_map_of_mem (List.mem_of_getElem? q2), trn e he h2⟩
  · rw [e3]
    refine fun i a b ha hb => adj_of_pairwise (R := fun a b => nmLt a b = true) ?_ i a b ha hb
    unfold csN
    rw [List.pairwise_map]
    exact hpw'.sublist List.filter_sublist
end Go.Proofs.YtpjiakgfegnmcaaGreat
