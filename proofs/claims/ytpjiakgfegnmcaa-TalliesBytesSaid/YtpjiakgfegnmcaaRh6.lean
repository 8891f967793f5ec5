/- The reference's wellFormed and CheckNote. -/
import Derived.Test.YtpjiakgfegnmcaaEncp
import Derived.Test.YtpjiakgfegnmcaaRh5
import Derived.Test.YtpjiakgfegnmcaaHis8
namespace Go.Proofs.Ytpjiakgfegnmcaa
open Go.RowKit

/-- A frame and a note, boxed one behind the other. -/
structure LocF (w W : World) (p0 p1 : Nat) (f : FrV) (n : NoteV) (sa : Option Addr) (sc : Nat) : Prop where
  e0 : W.heap[p0]? = some (.cells #[.int .i64 f.rings, .int .i64 f.sectors, .int .i64 f.wide] 61 (0, 0))
  e1 : W.heap[p1]? = some (.cells (noteA n sa sc) 43 (0, 0))
  b : Below p0 w W
  lt : p0 < p1
theorem LocF.below {w W W' : World} {p0 p1 : Nat} {f : FrV} {n : NoteV} {sa : Option Addr} {sc : Nat} (h : LocF w W p0 p1 f n sa sc) (hb : Below W.heap.size W W') : LocF w W' p0 p1 f n sa sc := by
  have g : ∀ {k : Nat} {o : Obj}, W.heap[k]? = some o → W'.heap[k]? = some o := fun {k o} hk => (hb.block k (Array.getElem?_eq_some_iff.1 hk).1).trans hk
  have h0 := (Array.getElem?_eq_some_iff.1 h.e0).1
  exact ⟨g h.e0, g h.e1, h.b.trans (hb.mono (by omega)), h.lt⟩
theorem frame_cells {W : World} {p : Nat} {A : Array Value} {t : TypeId} {sp : Nat × Nat} (h : W.heap[p]? = some (.cells A t sp)) (j : Nat) (v : Value) (hv : A[j]? = some v) : W.cell? ⟨p, j, none⟩ = some v := by
  simp [World.cell?, h, hv]
section
attribute [local go_sem] noteA_0 noteA_1 noteA_2 noteA_3 noteA_4 noteA_5 noteA_6 noteA_7 noteA_8 noteA_9 noteA_10 noteA_11 noteA_12 noteA_13 noteA_14 noteA_15 noteA_16 noteA_17 noteA_18
variable (f : FrV) (n : NoteV) (sa : Option Addr) (sc : Nat) (w : World)
set_option maxHeartbeats 20000000 in
set_option maxRecDepth 100000 in
theorem well_2 (hv : f.valid = true) (hs : RdI w sa n.strokes.length sc n.strokes) (hk : n.kind = 2) :
    Calls Try.prog 83 #[f.val, .agg (noteA n sa sc)] w fun e w' => e = .returned (.bool (wellB f n)) ∧ Below w.heap.size w w' := by
  have I43 := Lib.hid (show ∀ (m : NoteV) (a : Option Addr) (c : Nat), (Try.prog.info? 43).map (·.size) = some (noteA m a c).size from fun m a c => by kernel_rfl)
  have g1 := heap_at (w.alloc (.cells #[.int .i64 f.rings, .int .i64 f.sectors, .int .i64 f.wide] 61)) (.cells (noteA n sa sc) 43) (w.heap.size + 1) (by simp)
  have g0 := heap_before (w.alloc (.cells #[.int .i64 f.rings, .int .i64 f.sectors, .int .i64 f.wide] 61)) (.cells (noteA n sa sc) 43) _ _ (heap_at w (.cells #[.int .i64 f.rings, .int .i64 f.sectors, .int .i64 f.wide] 61) _ rfl)
  have bb : Below w.heap.size w ((w.alloc (.cells #[.int .i64 f.rings, .int .i64 f.sectors, .int .i64 f.wide] 61)).alloc (.cells (noteA n sa sc) 43)) := ((Below.refl _ _).alloc (Nat.le_refl _) _).alloc (by simp) _
  have L0 : Hid (LocF w ((w.alloc (.cells #[.int .i64 f.rings, .int .i64 f.sectors, .int .i64 f.wide] 61)).alloc (.cells (noteA n sa sc) 43)) w.heap.size (w.heap.size + 1) f n sa sc) := Lib.hid ⟨g0, g1, bb, by omega⟩
  clear g0 g1 bb
  unfold FrV.val
  go_enter Try.func83, Try.ntmps83
  go_upto_region 1 with fail
  generalize hW0 : (w.alloc (.cells #[.int .i64 f.rings, .int .i64 f.sectors, .int .i64 f.wide] 61)).alloc (.cells (noteA n sa sc) 43) = W0 at *
  generalize hp0 : w.heap.size = p0 at *
  generalize hp1 : p0 + 1 = p1 at *
  have RDb := Lib.hid (show ∀ W', Below p0 w W' → RdI W' sa n.strokes.length sc n.strokes from fun W' h => hs.below (by rw [hp0]; exact h))
  have HP0 := Lib.hid hp0; clear hp0 hp1 hW0
  have HV := Lib.hid hv; clear hv
  have HK := Lib.hid hk; clear hk
  have q2 : (n.kind == 2) = true := by simp [HK.out]
  have q2' : decide (n.kind = 2) = true := by simp [HK.out]
  have q5 : (n.kind == 5) = false := by simp [HK.out]
  have q5' : decide (n.kind = 5) = false := by simp [HK.out]
  have q6 : (n.kind == 6) = false := by simp [HK.out]
  have q6' : decide (n.kind = 6) = false := by simp [HK.out]
  have HRS := Lib.hid (show refersB n = true by simp [refersB, HK.out])
  have HK2 := Lib.hid (show ¬ n.kind = 6 ∧ ¬ n.kind = 5 by rw [HK.out]; decide)
  go_wp2_with   (first
      | (refine wpList_load_row rfl 43 _ rfl p1 rfl 43 (noteA n sa sc) (0, 0) _ L0.out.e1 Try.underlying43 rfl (I43.out _ _ _) ?_)
      | (refine wpList_load_rowG ?hw 43 _ rfl p1 rfl 43 (noteA n sa sc) (0, 0) _ L0.out.e1 Try.underlying43 rfl (I43.out _ _ _) ?_; case hw => rfl))
  refine (rNameOf_any n sa sc _).mono ?_
  rintro e w1 ⟨rfl, b1⟩
  have L1 := Lib.hid (L0.out.below b1); clear b1
  go_wp2_with fail
  refine (rrightName_any n.house n.num _).mono ?_
  rintro e w2 ⟨rfl, b2⟩
  have L2 := Lib.hid (L1.out.below b2); clear b2
  cases hrn : rightNameB n.house n.num
  · have hR : wellB f n = false := by simp [wellB, HRS.out, HK2.out.1, HK2.out.2, hrn]
    have HRX := Lib.hid hR; clear hR
    go_wp2_with fail
    go_ret
    rw [HRX.out]
    exact ⟨rfl, by first | exact L2.out.b | (rw [HP0.out]; exact L2.out.b)⟩
  · have HRN := Lib.hid hrn; clear hrn
    have k2 := note_cells L2.out.e1 2 _ rfl
    simp only [Nat.zero_add] at k2
    have k3 := note_cells L2.out.e1 3 _ rfl
    simp only [Nat.zero_add] at k3
    have k4 := note_cells L2.out.e1 4 _ rfl
    simp only [Nat.zero_add] at k4
    have k16 := note_cells L2.out.e1 16 _ rfl
    simp only [Nat.zero_add] at k16
    have k17 := note_cells L2.out.e1 17 _ rfl
    simp only [Nat.zero_add] at k17
    go_wp2_with fail
    refine (rin_any n.clock 1 1099511627776 _).mono ?_
    rintro e w' ⟨rfl, rfl⟩
    cases hcl : inB n.clock 1 1099511627776
    · have hR : wellB f n = false := by simp [wellB, HRS.out, HK2.out.1, HK2.out.2, HRN.out, hcl]
      have HRX := Lib.hid hR; clear hR
      go_wp2_with fail
      go_ret
      rw [HRX.out]
      exact ⟨rfl, by first | exact L2.out.b | (rw [HP0.out]; exact L2.out.b)⟩
    · have HCL := Lib.hid hcl; clear hcl
      go_wp2_with fail
      refine (rin_any n.day 0 99999 _).mono ?_
      rintro e w' ⟨rfl, rfl⟩
      cases hda : inB n.day 0 99999
      · have hR : wellB f n = false := by simp [wellB, HRS.out, HK2.out.1, HK2.out.2, HRN.out, HCL.out, hda]
        have HRX := Lib.hid hR; clear hR
        go_wp2_with fail
        go_ret
        rw [HRX.out]
        exact ⟨rfl, by first | exact L2.out.b | (rw [HP0.out]; exact L2.out.b)⟩
      · have HDA := Lib.hid hda; clear hda
        by_cases h16 : n.refH = 0
        · by_cases h17 : n.refN = 0
          · have r16 : (n.refH == 0) = true := by simp [h16]
            have r16' : decide (n.refH = 0) = true := by simp [h16]
            have r17 : (n.refN == 0) = true := by simp [h17]
            have r17' : decide (n.refN = 0) = true := by simp [h17]
            have HNM := Lib.hid (show namedB n = false by simp [namedB, h16, h17])
            clear h16 h17
            have hR : wellB f n = false := by simp [wellB, HRS.out, HK2.out.1, HK2.out.2, HRN.out, HCL.out, HDA.out, HNM.out]
            have HRX := Lib.hid hR; clear hR
            go_wp2_with fail
            go_ret
            rw [HRX.out]
            exact ⟨rfl, by first | exact L2.out.b | (rw [HP0.out]; exact L2.out.b)⟩
          · have r16 : (n.refH == 0) = true := by simp [h16]
            have r16' : decide (n.refH = 0) = true := by simp [h16]
            have r17 : (n.refN == 0) = false := by simp [h17]
            have r17' : decide (n.refN = 0) = false := by simp [h17]
            have HNM := Lib.hid (show namedB n = true by simp [namedB, h16, h17])
            clear h16 h17
            go_wp2_with fail
            refine (rrightName_any n.refH n.refN _).mono ?_
            rintro e w3 ⟨rfl, b3⟩
            have L3 := Lib.hid (L2.out.below b3); clear b3
            cases hrf : rightNameB n.refH n.refN
            · have hR : wellB f n = false := by simp [wellB, HRS.out, HK2.out.1, HK2.out.2, HRN.out, HCL.out, HDA.out, HNM.out, hrf]
              have HRX := Lib.hid hR; clear hR
              go_wp2_with fail
              go_ret
              rw [HRX.out]
              exact ⟨rfl, by first | exact L3.out.b | (rw [HP0.out]; exact L3.out.b)⟩
            · have HRF := Lib.hid hrf; clear hrf
              clear k2 k3 k4 k16 k17
              have k4 := note_cells L3.out.e1 4 _ rfl
              simp only [Nat.zero_add] at k4
              by_cases hfx : n.fix = 0
              · have hfx1 : (n.fix == 0) = true := by simp [hfx]
                have hfx2 : decide (n.fix = 0) = true := by simp [hfx]
                have HFX := Lib.hid hfx; clear hfx
                have k18 := note_cells L3.out.e1 18 _ rfl
                simp only [Nat.zero_add] at k18
                have c0 := frame_cells L3.out.e0 0 _ rfl
                have c1 := frame_cells L3.out.e0 1 _ rfl
                have c2 := frame_cells L3.out.e0 2 _ rfl
                go_wp2_with   (first
                    | (refine wpList_load_row rfl 43 _ rfl p1 rfl 43 (noteA n sa sc) (0, 0) _ L3.out.e1 Try.underlying43 rfl (I43.out _ _ _) ?_)
                    | (refine wpList_load_rowG ?hw 43 _ rfl p1 rfl 43 (noteA n sa sc) (0, 0) _ L3.out.e1 Try.underlying43 rfl (I43.out _ _ _) ?_; case hw => rfl))

                refine (right_any f n sa sc _ HV.out (RDb.out _ L3.out.b) (n.kind)).mono ?_
                rintro e w5 ⟨rfl, b5⟩
                have L5 := Lib.hid (L3.out.below b5); clear b5
                cases hr : rightB f (n.kind) n
                · have hR : wellB f n = false := by simp [wellB, HRS.out, HK2.out.1, HK2.out.2, HRN.out, HCL.out, HDA.out, HNM.out, HRF.out, HFX.out, hr]
                  have HRX := Lib.hid hR; clear hR
                  go_wp2_with fail
                  go_ret
                  rw [HRX.out]
                  exact ⟨rfl, by first | exact L5.out.b | (rw [HP0.out]; exact L5.out.b)⟩
                · have HRR := Lib.hid hr; clear hr
                  go_wp2_with   (first
                      | (refine wpList_load_row rfl 43 _ rfl p1 rfl 43 (noteA n sa sc) (0, 0) _ L5.out.e1 Try.underlying43 rfl (I43.out _ _ _) ?_)
                      | (refine wpList_load_rowG ?hw 43 _ rfl p1 rfl 43 (noteA n sa sc) (0, 0) _ L5.out.e1 Try.underlying43 rfl (I43.out _ _ _) ?_; case hw => rfl))

                  refine (bare_any n sa sc _ (RDb.out _ L5.out.b) (n.kind)).mono ?_
                  rintro e w6 ⟨ta, tc, rfl, hrd, b6⟩
                  have L6 := Lib.hid (L5.out.below b6); clear b6
                  have hR : wellB f n = sameB (bareR (n.kind) n) zeroN := by simp [wellB, HRS.out, HK2.out.1, HK2.out.2, HRN.out, HCL.out, HDA.out, HNM.out, HRF.out, HFX.out, HRR.out]
                  obtain ⟨N, HN⟩ : ∃ N, Hid (bareR (n.kind) n = N) := ⟨_, Lib.hid rfl⟩
                  rw [HN.out] at hrd hR
                  have HRX := Lib.hid hR; clear hR
                  have RD6 := Lib.hid hrd; clear hrd
                  rw [HN.out]
                  go_wp2_with fail
                  refine (rsame_any N zeroN ta tc none 0 _ RD6.out (RdA.nil _ 1)).mono ?_
                  rintro e w7 ⟨rfl, b7⟩
                  have L7 := Lib.hid (L6.out.below b7); clear b7
                  go_wp2_with fail
                  go_ret
                  rw [HRX.out]
                  exact ⟨rfl, by first | exact L7.out.b | (rw [HP0.out]; exact L7.out.b)⟩
              · have hfx1 : (n.fix == 0) = false := by simp [hfx]
                have hfx2 : decide (n.fix = 0) = false := by simp [hfx]
                have HFX := Lib.hid hfx; clear hfx
                have k18 := note_cells L3.out.e1 18 _ rfl
                simp only [Nat.zero_add] at k18
                have hR : wellB f n = false := by simp [wellB, HRS.out, HK2.out.1, HK2.out.2, HRN.out, HCL.out, HDA.out, HNM.out, HRF.out, HFX.out]
                have HRX := Lib.hid hR; clear hR
                go_wp2_with fail
                go_ret
                rw [HRX.out]
                exact ⟨rfl, by first | exact L3.out.b | (rw [HP0.out]; exact L3.out.b)⟩
        · have r16 : (n.refH == 0) = false := by simp [h16]
          have r16' : decide (n.refH = 0) = false := by simp [h16]
          have HNM := Lib.hid (show namedB n = true by simp [namedB, h16])
          clear h16
          go_wp2_with fail
          refine (rrightName_any n.refH n.refN _).mono ?_
          rintro e w3 ⟨rfl, b3⟩
          have L3 := Lib.hid (L2.out.below b3); clear b3
          cases hrf : rightNameB n.refH n.refN
          · have hR : wellB f n = false := by simp [wellB, HRS.out, HK2.out.1, HK2.out.2, HRN.out, HCL.out, HDA.out, HNM.out, hrf]
            have HRX := Lib.hid hR; clear hR
            go_wp2_with fail
            go_ret
            rw [HRX.out]
            exact ⟨rfl, by first | exact L3.out.b | (rw [HP0.out]; exact L3.out.b)⟩
          · have HRF := Lib.hid hrf; clear hrf
            clear k2 k3 k4 k16 k17
            have k4 := note_cells L3.out.e1 4 _ rfl
            simp only [Nat.zero_add] at k4
            by_cases hfx : n.fix = 0
            · have hfx1 : (n.fix == 0) = true := by simp [hfx]
              have hfx2 : decide (n.fix = 0) = true := by simp [hfx]
              have HFX := Lib.hid hfx; clear hfx
              have k18 := note_cells L3.out.e1 18 _ rfl
              simp only [Nat.zero_add] at k18
              have c0 := frame_cells L3.out.e0 0 _ rfl
              have c1 := frame_cells L3.out.e0 1 _ rfl
              have c2 := frame_cells L3.out.e0 2 _ rfl
              go_wp2_with   (first
                  | (refine wpList_load_row rfl 43 _ rfl p1 rfl 43 (noteA n sa sc) (0, 0) _ L3.out.e1 Try.underlying43 rfl (I43.out _ _ _) ?_)
                  | (refine wpList_load_rowG ?hw 43 _ rfl p1 rfl 43 (noteA n sa sc) (0, 0) _ L3.out.e1 Try.underlying43 rfl (I43.out _ _ _) ?_; case hw => rfl))

              refine (right_any f n sa sc _ HV.out (RDb.out _ L3.out.b) (n.kind)).mono ?_
              rintro e w5 ⟨rfl, b5⟩
              have L5 := Lib.hid (L3.out.below b5); clear b5
              cases hr : rightB f (n.kind) n
              · have hR : wellB f n = false := by simp [wellB, HRS.out, HK2.out.1, HK2.out.2, HRN.out, HCL.out, HDA.out, HNM.out, HRF.out, HFX.out, hr]
                have HRX := Lib.hid hR; clear hR
                go_wp2_with fail
                go_ret
                rw [HRX.out]
                exact ⟨rfl, by first | exact L5.out.b | (rw [HP0.out]; exact L5.out.b)⟩
              · have HRR := Lib.hid hr; clear hr
                go_wp2_with   (first
                    | (refine wpList_load_row rfl 43 _ rfl p1 rfl 43 (noteA n sa sc) (0, 0) _ L5.out.e1 Try.underlying43 rfl (I43.out _ _ _) ?_)
                    | (refine wpList_load_rowG ?hw 43 _ rfl p1 rfl 43 (noteA n sa sc) (0, 0) _ L5.out.e1 Try.underlying43 rfl (I43.out _ _ _) ?_; case hw => rfl))

                refine (bare_any n sa sc _ (RDb.out _ L5.out.b) (n.kind)).mono ?_
                rintro e w6 ⟨ta, tc, rfl, hrd, b6⟩
                have L6 := Lib.hid (L5.out.below b6); clear b6
                have hR : wellB f n = sameB (bareR (n.kind) n) zeroN := by simp [wellB, HRS.out, HK2.out.1, HK2.out.2, HRN.out, HCL.out, HDA.out, HNM.out, HRF.out, HFX.out, HRR.out]
                obtain ⟨N, HN⟩ : ∃ N, Hid (bareR (n.kind) n = N) := ⟨_, Lib.hid rfl⟩
                rw [HN.out] at hrd hR
                have HRX := Lib.hid hR; clear hR
                have RD6 := Lib.hid hrd; clear hrd
                rw [HN.out]
                go_wp2_with fail
                refine (rsame_any N zeroN ta tc none 0 _ RD6.out (RdA.nil _ 1)).mono ?_
                rintro e w7 ⟨rfl, b7⟩
                have L7 := Lib.hid (L6.out.below b7); clear b7
                go_wp2_with fail
                go_ret
                rw [HRX.out]
                exact ⟨rfl, by first | exact L7.out.b | (rw [HP0.out]; exact L7.out.b)⟩
            · have hfx1 : (n.fix == 0) = false := by simp [hfx]
              have hfx2 : decide (n.fix = 0) = false := by simp [hfx]
              have HFX := Lib.hid hfx; clear hfx
              have k18 := note_cells L3.out.e1 18 _ rfl
              simp only [Nat.zero_add] at k18
              have hR : wellB f n = false := by simp [wellB, HRS.out, HK2.out.1, HK2.out.2, HRN.out, HCL.out, HDA.out, HNM.out, HRF.out, HFX.out]
              have HRX := Lib.hid hR; clear hR
              go_wp2_with fail
              go_ret
              rw [HRX.out]
              exact ⟨rfl, by first | exact L3.out.b | (rw [HP0.out]; exact L3.out.b)⟩
set_option maxHeartbeats 20000000 in
set_option maxRecDepth 100000 in
theorem well_5 (hv : f.valid = true) (hs : RdI w sa n.strokes.length sc n.strokes) (hk : n.kind = 5) :
    Calls Try.prog 83 #[f.val, .agg (noteA n sa sc)] w fun e w' => e = .returned (.bool (wellB f n)) ∧ Below w.heap.size w w' := by
  have I43 := Lib.hid (show ∀ (m : NoteV) (a : Option Addr) (c : Nat), (Try.prog.info? 43).map (·.size) = some (noteA m a c).size from fun m a c => by kernel_rfl)
  have g1 := heap_at (w.alloc (.cells #[.int .i64 f.rings, .int .i64 f.sectors, .int .i64 f.wide] 61)) (.cells (noteA n sa sc) 43) (w.heap.size + 1) (by simp)
  have g0 := heap_before (w.alloc (.cells #[.int .i64 f.rings, .int .i64 f.sectors, .int .i64 f.wide] 61)) (.cells (noteA n sa sc) 43) _ _ (heap_at w (.cells #[.int .i64 f.rings, .int .i64 f.sectors, .int .i64 f.wide] 61) _ rfl)
  have bb : Below w.heap.size w ((w.alloc (.cells #[.int .i64 f.rings, .int .i64 f.sectors, .int .i64 f.wide] 61)).alloc (.cells (noteA n sa sc) 43)) := ((Below.refl _ _).alloc (Nat.le_refl _) _).alloc (by simp) _
  have L0 : Hid (LocF w ((w.alloc (.cells #[.int .i64 f.rings, .int .i64 f.sectors, .int .i64 f.wide] 61)).alloc (.cells (noteA n sa sc) 43)) w.heap.size (w.heap.size + 1) f n sa sc) := Lib.hid ⟨g0, g1, bb, by omega⟩
  clear g0 g1 bb
  unfold FrV.val
  go_enter Try.func83, Try.ntmps83
  go_upto_region 1 with fail
  generalize hW0 : (w.alloc (.cells #[.int .i64 f.rings, .int .i64 f.sectors, .int .i64 f.wide] 61)).alloc (.cells (noteA n sa sc) 43) = W0 at *
  generalize hp0 : w.heap.size = p0 at *
  generalize hp1 : p0 + 1 = p1 at *
  have RDb := Lib.hid (show ∀ W', Below p0 w W' → RdI W' sa n.strokes.length sc n.strokes from fun W' h => hs.below (by rw [hp0]; exact h))
  have HP0 := Lib.hid hp0; clear hp0 hp1 hW0
  have HV := Lib.hid hv; clear hv
  have HK := Lib.hid hk; clear hk
  have q2 : (n.kind == 2) = false := by simp [HK.out]
  have q2' : decide (n.kind = 2) = false := by simp [HK.out]
  have q5 : (n.kind == 5) = true := by simp [HK.out]
  have q5' : decide (n.kind = 5) = true := by simp [HK.out]
  have q6 : (n.kind == 6) = false := by simp [HK.out]
  have q6' : decide (n.kind = 6) = false := by simp [HK.out]
  have HRS := Lib.hid (show refersB n = true by simp [refersB, HK.out])
  go_wp2_with   (first
      | (refine wpList_load_row rfl 43 _ rfl p1 rfl 43 (noteA n sa sc) (0, 0) _ L0.out.e1 Try.underlying43 rfl (I43.out _ _ _) ?_)
      | (refine wpList_load_rowG ?hw 43 _ rfl p1 rfl 43 (noteA n sa sc) (0, 0) _ L0.out.e1 Try.underlying43 rfl (I43.out _ _ _) ?_; case hw => rfl))
  refine (rNameOf_any n sa sc _).mono ?_
  rintro e w1 ⟨rfl, b1⟩
  have L1 := Lib.hid (L0.out.below b1); clear b1
  go_wp2_with fail
  refine (rrightName_any n.house n.num _).mono ?_
  rintro e w2 ⟨rfl, b2⟩
  have L2 := Lib.hid (L1.out.below b2); clear b2
  cases hrn : rightNameB n.house n.num
  · have hR : wellB f n = false := by simp [wellB, HRS.out, HK.out, hrn]
    have HRX := Lib.hid hR; clear hR
    go_wp2_with fail
    go_ret
    rw [HRX.out]
    exact ⟨rfl, by first | exact L2.out.b | (rw [HP0.out]; exact L2.out.b)⟩
  · have HRN := Lib.hid hrn; clear hrn
    have k2 := note_cells L2.out.e1 2 _ rfl
    simp only [Nat.zero_add] at k2
    have k3 := note_cells L2.out.e1 3 _ rfl
    simp only [Nat.zero_add] at k3
    have k4 := note_cells L2.out.e1 4 _ rfl
    simp only [Nat.zero_add] at k4
    have k16 := note_cells L2.out.e1 16 _ rfl
    simp only [Nat.zero_add] at k16
    have k17 := note_cells L2.out.e1 17 _ rfl
    simp only [Nat.zero_add] at k17
    go_wp2_with fail
    refine (rin_any n.clock 1 1099511627776 _).mono ?_
    rintro e w' ⟨rfl, rfl⟩
    cases hcl : inB n.clock 1 1099511627776
    · have hR : wellB f n = false := by simp [wellB, HRS.out, HK.out, HRN.out, hcl]
      have HRX := Lib.hid hR; clear hR
      go_wp2_with fail
      go_ret
      rw [HRX.out]
      exact ⟨rfl, by first | exact L2.out.b | (rw [HP0.out]; exact L2.out.b)⟩
    · have HCL := Lib.hid hcl; clear hcl
      go_wp2_with fail
      refine (rin_any n.day 0 99999 _).mono ?_
      rintro e w' ⟨rfl, rfl⟩
      cases hda : inB n.day 0 99999
      · have hR : wellB f n = false := by simp [wellB, HRS.out, HK.out, HRN.out, HCL.out, hda]
        have HRX := Lib.hid hR; clear hR
        go_wp2_with fail
        go_ret
        rw [HRX.out]
        exact ⟨rfl, by first | exact L2.out.b | (rw [HP0.out]; exact L2.out.b)⟩
      · have HDA := Lib.hid hda; clear hda
        by_cases h16 : n.refH = 0
        · by_cases h17 : n.refN = 0
          · have r16 : (n.refH == 0) = true := by simp [h16]
            have r16' : decide (n.refH = 0) = true := by simp [h16]
            have r17 : (n.refN == 0) = true := by simp [h17]
            have r17' : decide (n.refN = 0) = true := by simp [h17]
            have HNM := Lib.hid (show namedB n = false by simp [namedB, h16, h17])
            clear h16 h17
            have hR : wellB f n = false := by simp [wellB, HRS.out, HK.out, HRN.out, HCL.out, HDA.out, HNM.out]
            have HRX := Lib.hid hR; clear hR
            go_wp2_with fail
            go_ret
            rw [HRX.out]
            exact ⟨rfl, by first | exact L2.out.b | (rw [HP0.out]; exact L2.out.b)⟩
          · have r16 : (n.refH == 0) = true := by simp [h16]
            have r16' : decide (n.refH = 0) = true := by simp [h16]
            have r17 : (n.refN == 0) = false := by simp [h17]
            have r17' : decide (n.refN = 0) = false := by simp [h17]
            have HNM := Lib.hid (show namedB n = true by simp [namedB, h16, h17])
            clear h16 h17
            go_wp2_with fail
            refine (rrightName_any n.refH n.refN _).mono ?_
            rintro e w3 ⟨rfl, b3⟩
            have L3 := Lib.hid (L2.out.below b3); clear b3
            cases hrf : rightNameB n.refH n.refN
            · have hR : wellB f n = false := by simp [wellB, HRS.out, HK.out, HRN.out, HCL.out, HDA.out, HNM.out, hrf]
              have HRX := Lib.hid hR; clear hR
              go_wp2_with fail
              go_ret
              rw [HRX.out]
              exact ⟨rfl, by first | exact L3.out.b | (rw [HP0.out]; exact L3.out.b)⟩
            · have HRF := Lib.hid hrf; clear hrf
              clear k2 k3 k4 k16 k17
              have k4 := note_cells L3.out.e1 4 _ rfl
              simp only [Nat.zero_add] at k4
              have k18 := note_cells L3.out.e1 18 _ rfl
              simp only [Nat.zero_add] at k18
              have c0 := frame_cells L3.out.e0 0 _ rfl
              have c1 := frame_cells L3.out.e0 1 _ rfl
              have c2 := frame_cells L3.out.e0 2 _ rfl
              go_wp2_with   (first
                  | (refine wpList_load_row rfl 43 _ rfl p1 rfl 43 (noteA n sa sc) (0, 0) _ L3.out.e1 Try.underlying43 rfl (I43.out _ _ _) ?_)
                  | (refine wpList_load_rowG ?hw 43 _ rfl p1 rfl 43 (noteA n sa sc) (0, 0) _ L3.out.e1 Try.underlying43 rfl (I43.out _ _ _) ?_; case hw => rfl))

              refine (right_any f n sa sc _ HV.out (RDb.out _ L3.out.b) (n.fix)).mono ?_
              rintro e w5 ⟨rfl, b5⟩
              have L5 := Lib.hid (L3.out.below b5); clear b5
              cases hr : rightB f (n.fix) n
              · have hR : wellB f n = false := by simp [wellB, HRS.out, HK.out, HRN.out, HCL.out, HDA.out, HNM.out, HRF.out, hr]
                have HRX := Lib.hid hR; clear hR
                go_wp2_with fail
                go_ret
                rw [HRX.out]
                exact ⟨rfl, by first | exact L5.out.b | (rw [HP0.out]; exact L5.out.b)⟩
              · have HRR := Lib.hid hr; clear hr
                go_wp2_with   (first
                    | (refine wpList_load_row rfl 43 _ rfl p1 rfl 43 (noteA n sa sc) (0, 0) _ L5.out.e1 Try.underlying43 rfl (I43.out _ _ _) ?_)
                    | (refine wpList_load_rowG ?hw 43 _ rfl p1 rfl 43 (noteA n sa sc) (0, 0) _ L5.out.e1 Try.underlying43 rfl (I43.out _ _ _) ?_; case hw => rfl))

                refine (bare_any n sa sc _ (RDb.out _ L5.out.b) (n.fix)).mono ?_
                rintro e w6 ⟨ta, tc, rfl, hrd, b6⟩
                have L6 := Lib.hid (L5.out.below b6); clear b6
                have hR : wellB f n = sameB (bareR (n.fix) n) zeroN := by simp [wellB, HRS.out, HK.out, HRN.out, HCL.out, HDA.out, HNM.out, HRF.out, HRR.out]
                obtain ⟨N, HN⟩ : ∃ N, Hid (bareR (n.fix) n = N) := ⟨_, Lib.hid rfl⟩
                rw [HN.out] at hrd hR
                have HRX := Lib.hid hR; clear hR
                have RD6 := Lib.hid hrd; clear hrd
                rw [HN.out]
                go_wp2_with fail
                refine (rsame_any N zeroN ta tc none 0 _ RD6.out (RdA.nil _ 1)).mono ?_
                rintro e w7 ⟨rfl, b7⟩
                have L7 := Lib.hid (L6.out.below b7); clear b7
                go_wp2_with fail
                go_ret
                rw [HRX.out]
                exact ⟨rfl, by first | exact L7.out.b | (rw [HP0.out]; exact L7.out.b)⟩
        · have r16 : (n.refH == 0) = false := by simp [h16]
          have r16' : decide (n.refH = 0) = false := by simp [h16]
          have HNM := Lib.hid (show namedB n = true by simp [namedB, h16])
          clear h16
          go_wp2_with fail
          refine (rrightName_any n.refH n.refN _).mono ?_
          rintro e w3 ⟨rfl, b3⟩
          have L3 := Lib.hid (L2.out.below b3); clear b3
          cases hrf : rightNameB n.refH n.refN
          · have hR : wellB f n = false := by simp [wellB, HRS.out, HK.out, HRN.out, HCL.out, HDA.out, HNM.out, hrf]
            have HRX := Lib.hid hR; clear hR
            go_wp2_with fail
            go_ret
            rw [HRX.out]
            exact ⟨rfl, by first | exact L3.out.b | (rw [HP0.out]; exact L3.out.b)⟩
          · have HRF := Lib.hid hrf; clear hrf
            clear k2 k3 k4 k16 k17
            have k4 := note_cells L3.out.e1 4 _ rfl
            simp only [Nat.zero_add] at k4
            have k18 := note_cells L3.out.e1 18 _ rfl
            simp only [Nat.zero_add] at k18
            have c0 := frame_cells L3.out.e0 0 _ rfl
            have c1 := frame_cells L3.out.e0 1 _ rfl
            have c2 := frame_cells L3.out.e0 2 _ rfl
            go_wp2_with   (first
                | (refine wpList_load_row rfl 43 _ rfl p1 rfl 43 (noteA n sa sc) (0, 0) _ L3.out.e1 Try.underlying43 rfl (I43.out _ _ _) ?_)
                | (refine wpList_load_rowG ?hw 43 _ rfl p1 rfl 43 (noteA n sa sc) (0, 0) _ L3.out.e1 Try.underlying43 rfl (I43.out _ _ _) ?_; case hw => rfl))

            refine (right_any f n sa sc _ HV.out (RDb.out _ L3.out.b) (n.fix)).mono ?_
            rintro e w5 ⟨rfl, b5⟩
            have L5 := Lib.hid (L3.out.below b5); clear b5
            cases hr : rightB f (n.fix) n
            · have hR : wellB f n = false := by simp [wellB, HRS.out, HK.out, HRN.out, HCL.out, HDA.out, HNM.out, HRF.out, hr]
              have HRX := Lib.hid hR; clear hR
              go_wp2_with fail
              go_ret
              rw [HRX.out]
              exact ⟨rfl, by first | exact L5.out.b | (rw [HP0.out]; exact L5.out.b)⟩
            · have HRR := Lib.hid hr; clear hr
              go_wp2_with   (first
                  | (refine wpList_load_row rfl 43 _ rfl p1 rfl 43 (noteA n sa sc) (0, 0) _ L5.out.e1 Try.underlying43 rfl (I43.out _ _ _) ?_)
                  | (refine wpList_load_rowG ?hw 43 _ rfl p1 rfl 43 (noteA n sa sc) (0, 0) _ L5.out.e1 Try.underlying43 rfl (I43.out _ _ _) ?_; case hw => rfl))

              refine (bare_any n sa sc _ (RDb.out _ L5.out.b) (n.fix)).mono ?_
              rintro e w6 ⟨ta, tc, rfl, hrd, b6⟩
              have L6 := Lib.hid (L5.out.below b6); clear b6
              have hR : wellB f n = sameB (bareR (n.fix) n) zeroN := by simp [wellB, HRS.out, HK.out, HRN.out, HCL.out, HDA.out, HNM.out, HRF.out, HRR.out]
              obtain ⟨N, HN⟩ : ∃ N, Hid (bareR (n.fix) n = N) := ⟨_, Lib.hid rfl⟩
              rw [HN.out] at hrd hR
              have HRX := Lib.hid hR; clear hR
              have RD6 := Lib.hid hrd; clear hrd
              rw [HN.out]
              go_wp2_with fail
              refine (rsame_any N zeroN ta tc none 0 _ RD6.out (RdA.nil _ 1)).mono ?_
              rintro e w7 ⟨rfl, b7⟩
              have L7 := Lib.hid (L6.out.below b7); clear b7
              go_wp2_with fail
              go_ret
              rw [HRX.out]
              exact ⟨rfl, by first | exact L7.out.b | (rw [HP0.out]; exact L7.out.b)⟩
set_option maxHeartbeats 20000000 in
set_option maxRecDepth 100000 in
theorem well_6 (hv : f.valid = true) (hs : RdI w sa n.strokes.length sc n.strokes) (hk : n.kind = 6) :
    Calls Try.prog 83 #[f.val, .agg (noteA n sa sc)] w fun e w' => e = .returned (.bool (wellB f n)) ∧ Below w.heap.size w w' := by
  have I43 := Lib.hid (show ∀ (m : NoteV) (a : Option Addr) (c : Nat), (Try.prog.info? 43).map (·.size) = some (noteA m a c).size from fun m a c => by kernel_rfl)
  have g1 := heap_at (w.alloc (.cells #[.int .i64 f.rings, .int .i64 f.sectors, .int .i64 f.wide] 61)) (.cells (noteA n sa sc) 43) (w.heap.size + 1) (by simp)
  have g0 := heap_before (w.alloc (.cells #[.int .i64 f.rings, .int .i64 f.sectors, .int .i64 f.wide] 61)) (.cells (noteA n sa sc) 43) _ _ (heap_at w (.cells #[.int .i64 f.rings, .int .i64 f.sectors, .int .i64 f.wide] 61) _ rfl)
  have bb : Below w.heap.size w ((w.alloc (.cells #[.int .i64 f.rings, .int .i64 f.sectors, .int .i64 f.wide] 61)).alloc (.cells (noteA n sa sc) 43)) := ((Below.refl _ _).alloc (Nat.le_refl _) _).alloc (by simp) _
  have L0 : Hid (LocF w ((w.alloc (.cells #[.int .i64 f.rings, .int .i64 f.sectors, .int .i64 f.wide] 61)).alloc (.cells (noteA n sa sc) 43)) w.heap.size (w.heap.size + 1) f n sa sc) := Lib.hid ⟨g0, g1, bb, by omega⟩
  clear g0 g1 bb
  unfold FrV.val
  go_enter Try.func83, Try.ntmps83
  go_upto_region 1 with fail
  generalize hW0 : (w.alloc (.cells #[.int .i64 f.rings, .int .i64 f.sectors, .int .i64 f.wide] 61)).alloc (.cells (noteA n sa sc) 43) = W0 at *
  generalize hp0 : w.heap.size = p0 at *
  generalize hp1 : p0 + 1 = p1 at *
  have RDb := Lib.hid (show ∀ W', Below p0 w W' → RdI W' sa n.strokes.length sc n.strokes from fun W' h => hs.below (by rw [hp0]; exact h))
  have HP0 := Lib.hid hp0; clear hp0 hp1 hW0
  have HV := Lib.hid hv; clear hv
  have HK := Lib.hid hk; clear hk
  have q2 : (n.kind == 2) = false := by simp [HK.out]
  have q2' : decide (n.kind = 2) = false := by simp [HK.out]
  have q5 : (n.kind == 5) = false := by simp [HK.out]
  have q5' : decide (n.kind = 5) = false := by simp [HK.out]
  have q6 : (n.kind == 6) = true := by simp [HK.out]
  have q6' : decide (n.kind = 6) = true := by simp [HK.out]
  have HRS := Lib.hid (show refersB n = true by simp [refersB, HK.out])
  go_wp2_with   (first
      | (refine wpList_load_row rfl 43 _ rfl p1 rfl 43 (noteA n sa sc) (0, 0) _ L0.out.e1 Try.underlying43 rfl (I43.out _ _ _) ?_)
      | (refine wpList_load_rowG ?hw 43 _ rfl p1 rfl 43 (noteA n sa sc) (0, 0) _ L0.out.e1 Try.underlying43 rfl (I43.out _ _ _) ?_; case hw => rfl))
  refine (rNameOf_any n sa sc _).mono ?_
  rintro e w1 ⟨rfl, b1⟩
  have L1 := Lib.hid (L0.out.below b1); clear b1
  go_wp2_with fail
  refine (rrightName_any n.house n.num _).mono ?_
  rintro e w2 ⟨rfl, b2⟩
  have L2 := Lib.hid (L1.out.below b2); clear b2
  cases hrn : rightNameB n.house n.num
  · have hR : wellB f n = false := by simp [wellB, HRS.out, HK.out, hrn]
    have HRX := Lib.hid hR; clear hR
    go_wp2_with fail
    go_ret
    rw [HRX.out]
    exact ⟨rfl, by first | exact L2.out.b | (rw [HP0.out]; exact L2.out.b)⟩
  · have HRN := Lib.hid hrn; clear hrn
    have k2 := note_cells L2.out.e1 2 _ rfl
    simp only [Nat.zero_add] at k2
    have k3 := note_cells L2.out.e1 3 _ rfl
    simp only [Nat.zero_add] at k3
    have k4 := note_cells L2.out.e1 4 _ rfl
    simp only [Nat.zero_add] at k4
    have k16 := note_cells L2.out.e1 16 _ rfl
    simp only [Nat.zero_add] at k16
    have k17 := note_cells L2.out.e1 17 _ rfl
    simp only [Nat.zero_add] at k17
    go_wp2_with fail
    refine (rin_any n.clock 1 1099511627776 _).mono ?_
    rintro e w' ⟨rfl, rfl⟩
    cases hcl : inB n.clock 1 1099511627776
    · have hR : wellB f n = false := by simp [wellB, HRS.out, HK.out, HRN.out, hcl]
      have HRX := Lib.hid hR; clear hR
      go_wp2_with fail
      go_ret
      rw [HRX.out]
      exact ⟨rfl, by first | exact L2.out.b | (rw [HP0.out]; exact L2.out.b)⟩
    · have HCL := Lib.hid hcl; clear hcl
      go_wp2_with fail
      refine (rin_any n.day 0 99999 _).mono ?_
      rintro e w' ⟨rfl, rfl⟩
      cases hda : inB n.day 0 99999
      · have hR : wellB f n = false := by simp [wellB, HRS.out, HK.out, HRN.out, HCL.out, hda]
        have HRX := Lib.hid hR; clear hR
        go_wp2_with fail
        go_ret
        rw [HRX.out]
        exact ⟨rfl, by first | exact L2.out.b | (rw [HP0.out]; exact L2.out.b)⟩
      · have HDA := Lib.hid hda; clear hda
        by_cases h16 : n.refH = 0
        · by_cases h17 : n.refN = 0
          · have r16 : (n.refH == 0) = true := by simp [h16]
            have r16' : decide (n.refH = 0) = true := by simp [h16]
            have r17 : (n.refN == 0) = true := by simp [h17]
            have r17' : decide (n.refN = 0) = true := by simp [h17]
            have HNM := Lib.hid (show namedB n = false by simp [namedB, h16, h17])
            clear h16 h17
            have hR : wellB f n = false := by simp [wellB, HRS.out, HK.out, HRN.out, HCL.out, HDA.out, HNM.out]
            have HRX := Lib.hid hR; clear hR
            go_wp2_with fail
            go_ret
            rw [HRX.out]
            exact ⟨rfl, by first | exact L2.out.b | (rw [HP0.out]; exact L2.out.b)⟩
          · have r16 : (n.refH == 0) = true := by simp [h16]
            have r16' : decide (n.refH = 0) = true := by simp [h16]
            have r17 : (n.refN == 0) = false := by simp [h17]
            have r17' : decide (n.refN = 0) = false := by simp [h17]
            have HNM := Lib.hid (show namedB n = true by simp [namedB, h16, h17])
            clear h16 h17
            go_wp2_with fail
            refine (rrightName_any n.refH n.refN _).mono ?_
            rintro e w3 ⟨rfl, b3⟩
            have L3 := Lib.hid (L2.out.below b3); clear b3
            cases hrf : rightNameB n.refH n.refN
            · have hR : wellB f n = false := by simp [wellB, HRS.out, HK.out, HRN.out, HCL.out, HDA.out, HNM.out, hrf]
              have HRX := Lib.hid hR; clear hR
              go_wp2_with fail
              go_ret
              rw [HRX.out]
              exact ⟨rfl, by first | exact L3.out.b | (rw [HP0.out]; exact L3.out.b)⟩
            · have HRF := Lib.hid hrf; clear hrf
              clear k2 k3 k4 k16 k17
              have k4 := note_cells L3.out.e1 4 _ rfl
              simp only [Nat.zero_add] at k4
              by_cases hfx : n.fix = 0
              · have hfx1 : (n.fix == 0) = true := by simp [hfx]
                have hfx2 : decide (n.fix = 0) = true := by simp [hfx]
                have HFX := Lib.hid hfx; clear hfx
                have k18 := note_cells L3.out.e1 18 _ rfl
                simp only [Nat.zero_add] at k18
                go_wp2_with   (first
                    | (refine wpList_load_row rfl 43 _ rfl p1 rfl 43 (noteA n sa sc) (0, 0) _ L3.out.e1 Try.underlying43 rfl (I43.out _ _ _) ?_)
                    | (refine wpList_load_rowG ?hw 43 _ rfl p1 rfl 43 (noteA n sa sc) (0, 0) _ L3.out.e1 Try.underlying43 rfl (I43.out _ _ _) ?_; case hw => rfl))

                refine (bare_any n sa sc _ (RDb.out _ L3.out.b) (0)).mono ?_
                rintro e w6 ⟨ta, tc, rfl, hrd, b6⟩
                have L6 := Lib.hid (L3.out.below b6); clear b6
                have hR : wellB f n = sameB (bareR (0) n) zeroN := by simp [wellB, HRS.out, HK.out, HRN.out, HCL.out, HDA.out, HNM.out, HRF.out, HFX.out]
                obtain ⟨N, HN⟩ : ∃ N, Hid (bareR (0) n = N) := ⟨_, Lib.hid rfl⟩
                rw [HN.out] at hrd hR
                have HRX := Lib.hid hR; clear hR
                have RD6 := Lib.hid hrd; clear hrd
                rw [HN.out]
                go_wp2_with fail
                refine (rsame_any N zeroN ta tc none 0 _ RD6.out (RdA.nil _ 1)).mono ?_
                rintro e w7 ⟨rfl, b7⟩
                have L7 := Lib.hid (L6.out.below b7); clear b7
                go_wp2_with fail
                go_ret
                rw [HRX.out]
                exact ⟨rfl, by first | exact L7.out.b | (rw [HP0.out]; exact L7.out.b)⟩
              · have hfx1 : (n.fix == 0) = false := by simp [hfx]
                have hfx2 : decide (n.fix = 0) = false := by simp [hfx]
                have HFX := Lib.hid hfx; clear hfx
                have k18 := note_cells L3.out.e1 18 _ rfl
                simp only [Nat.zero_add] at k18
                have hR : wellB f n = false := by simp [wellB, HRS.out, HK.out, HRN.out, HCL.out, HDA.out, HNM.out, HRF.out, HFX.out]
                have HRX := Lib.hid hR; clear hR
                go_wp2_with fail
                go_ret
                rw [HRX.out]
                exact ⟨rfl, by first | exact L3.out.b | (rw [HP0.out]; exact L3.out.b)⟩
        · have r16 : (n.refH == 0) = false := by simp [h16]
          have r16' : decide (n.refH = 0) = false := by simp [h16]
          have HNM := Lib.hid (show namedB n = true by simp [namedB, h16])
          clear h16
          go_wp2_with fail
          refine (rrightName_any n.refH n.refN _).mono ?_
          rintro e w3 ⟨rfl, b3⟩
          have L3 := Lib.hid (L2.out.below b3); clear b3
          cases hrf : rightNameB n.refH n.refN
          · have hR : wellB f n = false := by simp [wellB, HRS.out, HK.out, HRN.out, HCL.out, HDA.out, HNM.out, hrf]
            have HRX := Lib.hid hR; clear hR
            go_wp2_with fail
            go_ret
            rw [HRX.out]
            exact ⟨rfl, by first | exact L3.out.b | (rw [HP0.out]; exact L3.out.b)⟩
          · have HRF := Lib.hid hrf; clear hrf
            clear k2 k3 k4 k16 k17
            have k4 := note_cells L3.out.e1 4 _ rfl
            simp only [Nat.zero_add] at k4
            by_cases hfx : n.fix = 0
            · have hfx1 : (n.fix == 0) = true := by simp [hfx]
              have hfx2 : decide (n.fix = 0) = true := by simp [hfx]
              have HFX := Lib.hid hfx; clear hfx
              have k18 := note_cells L3.out.e1 18 _ rfl
              simp only [Nat.zero_add] at k18
              go_wp2_with   (first
                  | (refine wpList_load_row rfl 43 _ rfl p1 rfl 43 (noteA n sa sc) (0, 0) _ L3.out.e1 Try.underlying43 rfl (I43.out _ _ _) ?_)
                  | (refine wpList_load_rowG ?hw 43 _ rfl p1 rfl 43 (noteA n sa sc) (0, 0) _ L3.out.e1 Try.underlying43 rfl (I43.out _ _ _) ?_; case hw => rfl))

              refine (bare_any n sa sc _ (RDb.out _ L3.out.b) (0)).mono ?_
              rintro e w6 ⟨ta, tc, rfl, hrd, b6⟩
              have L6 := Lib.hid (L3.out.below b6); clear b6
              have hR : wellB f n = sameB (bareR (0) n) zeroN := by simp [wellB, HRS.out, HK.out, HRN.out, HCL.out, HDA.out, HNM.out, HRF.out, HFX.out]
              obtain ⟨N, HN⟩ : ∃ N, Hid (bareR (0) n = N) := ⟨_, Lib.hid rfl⟩
              rw [HN.out] at hrd hR
              have HRX := Lib.hid hR; clear hR
              have RD6 := Lib.hid hrd; clear hrd
              rw [HN.out]
              go_wp2_with fail
              refine (rsame_any N zeroN ta tc none 0 _ RD6.out (RdA.nil _ 1)).mono ?_
              rintro e w7 ⟨rfl, b7⟩
              have L7 := Lib.hid (L6.out.below b7); clear b7
              go_wp2_with fail
              go_ret
              rw [HRX.out]
              exact ⟨rfl, by first | exact L7.out.b | (rw [HP0.out]; exact L7.out.b)⟩
            · have hfx1 : (n.fix == 0) = false := by simp [hfx]
              have hfx2 : decide (n.fix = 0) = false := by simp [hfx]
              have HFX := Lib.hid hfx; clear hfx
              have k18 := note_cells L3.out.e1 18 _ rfl
              simp only [Nat.zero_add] at k18
              have hR : wellB f n = false := by simp [wellB, HRS.out, HK.out, HRN.out, HCL.out, HDA.out, HNM.out, HRF.out, HFX.out]
              have HRX := Lib.hid hR; clear hR
              go_wp2_with fail
              go_ret
              rw [HRX.out]
              exact ⟨rfl, by first | exact L3.out.b | (rw [HP0.out]; exact L3.out.b)⟩
set_option maxHeartbeats 20000000 in
set_option maxRecDepth 100000 in
theorem well_o (hv : f.valid = true) (hs : RdI w sa n.strokes.length sc n.strokes) (k2 : n.kind ≠ 2) (k5 : n.kind ≠ 5) (k6 : n.kind ≠ 6) :
    Calls Try.prog 83 #[f.val, .agg (noteA n sa sc)] w fun e w' => e = .returned (.bool (wellB f n)) ∧ Below w.heap.size w w' := by
  have I43 := Lib.hid (show ∀ (m : NoteV) (a : Option Addr) (c : Nat), (Try.prog.info? 43).map (·.size) = some (noteA m a c).size from fun m a c => by kernel_rfl)
  have g1 := heap_at (w.alloc (.cells #[.int .i64 f.rings, .int .i64 f.sectors, .int .i64 f.wide] 61)) (.cells (noteA n sa sc) 43) (w.heap.size + 1) (by simp)
  have g0 := heap_before (w.alloc (.cells #[.int .i64 f.rings, .int .i64 f.sectors, .int .i64 f.wide] 61)) (.cells (noteA n sa sc) 43) _ _ (heap_at w (.cells #[.int .i64 f.rings, .int .i64 f.sectors, .int .i64 f.wide] 61) _ rfl)
  have bb : Below w.heap.size w ((w.alloc (.cells #[.int .i64 f.rings, .int .i64 f.sectors, .int .i64 f.wide] 61)).alloc (.cells (noteA n sa sc) 43)) := ((Below.refl _ _).alloc (Nat.le_refl _) _).alloc (by simp) _
  have L0 : Hid (LocF w ((w.alloc (.cells #[.int .i64 f.rings, .int .i64 f.sectors, .int .i64 f.wide] 61)).alloc (.cells (noteA n sa sc) 43)) w.heap.size (w.heap.size + 1) f n sa sc) := Lib.hid ⟨g0, g1, bb, by omega⟩
  clear g0 g1 bb
  unfold FrV.val
  go_enter Try.func83, Try.ntmps83
  go_upto_region 1 with fail
  generalize hW0 : (w.alloc (.cells #[.int .i64 f.rings, .int .i64 f.sectors, .int .i64 f.wide] 61)).alloc (.cells (noteA n sa sc) 43) = W0 at *
  generalize hp0 : w.heap.size = p0 at *
  generalize hp1 : p0 + 1 = p1 at *
  have RDb := Lib.hid (show ∀ W', Below p0 w W' → RdI W' sa n.strokes.length sc n.strokes from fun W' h => hs.below (by rw [hp0]; exact h))
  have HP0 := Lib.hid hp0; clear hp0 hp1 hW0
  have HV := Lib.hid hv; clear hv
  have HK := Lib.hid (And.intro k2 (And.intro k5 k6)); clear k2 k5 k6
  have q2 : (n.kind == 2) = false := by simp [HK.out.1]
  have q2' : decide (n.kind = 2) = false := by simp [HK.out.1]
  have q5 : (n.kind == 5) = false := by simp [HK.out.2.1]
  have q5' : decide (n.kind = 5) = false := by simp [HK.out.2.1]
  have q6 : (n.kind == 6) = false := by simp [HK.out.2.2]
  have q6' : decide (n.kind = 6) = false := by simp [HK.out.2.2]
  have HRS := Lib.hid (show refersB n = false by simp [refersB, HK.out.1, HK.out.2.1, HK.out.2.2])
  go_wp2_with   (first
      | (refine wpList_load_row rfl 43 _ rfl p1 rfl 43 (noteA n sa sc) (0, 0) _ L0.out.e1 Try.underlying43 rfl (I43.out _ _ _) ?_)
      | (refine wpList_load_rowG ?hw 43 _ rfl p1 rfl 43 (noteA n sa sc) (0, 0) _ L0.out.e1 Try.underlying43 rfl (I43.out _ _ _) ?_; case hw => rfl))
  refine (rNameOf_any n sa sc _).mono ?_
  rintro e w1 ⟨rfl, b1⟩
  have L1 := Lib.hid (L0.out.below b1); clear b1
  go_wp2_with fail
  refine (rrightName_any n.house n.num _).mono ?_
  rintro e w2 ⟨rfl, b2⟩
  have L2 := Lib.hid (L1.out.below b2); clear b2
  cases hrn : rightNameB n.house n.num
  · have hR : wellB f n = false := by simp [wellB, HRS.out, HK.out.2.1, HK.out.2.2, hrn]
    have HRX := Lib.hid hR; clear hR
    go_wp2_with fail
    go_ret
    rw [HRX.out]
    exact ⟨rfl, by first | exact L2.out.b | (rw [HP0.out]; exact L2.out.b)⟩
  · have HRN := Lib.hid hrn; clear hrn
    have k2 := note_cells L2.out.e1 2 _ rfl
    simp only [Nat.zero_add] at k2
    have k3 := note_cells L2.out.e1 3 _ rfl
    simp only [Nat.zero_add] at k3
    have k4 := note_cells L2.out.e1 4 _ rfl
    simp only [Nat.zero_add] at k4
    have k16 := note_cells L2.out.e1 16 _ rfl
    simp only [Nat.zero_add] at k16
    have k17 := note_cells L2.out.e1 17 _ rfl
    simp only [Nat.zero_add] at k17
    go_wp2_with fail
    refine (rin_any n.clock 1 1099511627776 _).mono ?_
    rintro e w' ⟨rfl, rfl⟩
    cases hcl : inB n.clock 1 1099511627776
    · have hR : wellB f n = false := by simp [wellB, HRS.out, HK.out.2.1, HK.out.2.2, HRN.out, hcl]
      have HRX := Lib.hid hR; clear hR
      go_wp2_with fail
      go_ret
      rw [HRX.out]
      exact ⟨rfl, by first | exact L2.out.b | (rw [HP0.out]; exact L2.out.b)⟩
    · have HCL := Lib.hid hcl; clear hcl
      go_wp2_with fail
      refine (rin_any n.day 0 99999 _).mono ?_
      rintro e w' ⟨rfl, rfl⟩
      cases hda : inB n.day 0 99999
      · have hR : wellB f n = false := by simp [wellB, HRS.out, HK.out.2.1, HK.out.2.2, HRN.out, HCL.out, hda]
        have HRX := Lib.hid hR; clear hR
        go_wp2_with fail
        go_ret
        rw [HRX.out]
        exact ⟨rfl, by first | exact L2.out.b | (rw [HP0.out]; exact L2.out.b)⟩
      · have HDA := Lib.hid hda; clear hda
        by_cases h16 : n.refH = 0
        · by_cases h17 : n.refN = 0
          · have r16 : (n.refH == 0) = true := by simp [h16]
            have r16' : decide (n.refH = 0) = true := by simp [h16]
            have r17 : (n.refN == 0) = true := by simp [h17]
            have r17' : decide (n.refN = 0) = true := by simp [h17]
            have HNM := Lib.hid (show namedB n = false by simp [namedB, h16, h17])
            clear h16 h17
            by_cases hfx : n.fix = 0
            · have hfx1 : (n.fix == 0) = true := by simp [hfx]
              have hfx2 : decide (n.fix = 0) = true := by simp [hfx]
              have HFX := Lib.hid hfx; clear hfx
              have k18 := note_cells L2.out.e1 18 _ rfl
              simp only [Nat.zero_add] at k18
              have c0 := frame_cells L2.out.e0 0 _ rfl
              have c1 := frame_cells L2.out.e0 1 _ rfl
              have c2 := frame_cells L2.out.e0 2 _ rfl
              go_wp2_with   (first
                  | (refine wpList_load_row rfl 43 _ rfl p1 rfl 43 (noteA n sa sc) (0, 0) _ L2.out.e1 Try.underlying43 rfl (I43.out _ _ _) ?_)
                  | (refine wpList_load_rowG ?hw 43 _ rfl p1 rfl 43 (noteA n sa sc) (0, 0) _ L2.out.e1 Try.underlying43 rfl (I43.out _ _ _) ?_; case hw => rfl))

              refine (right_any f n sa sc _ HV.out (RDb.out _ L2.out.b) (n.kind)).mono ?_
              rintro e w5 ⟨rfl, b5⟩
              have L5 := Lib.hid (L2.out.below b5); clear b5
              cases hr : rightB f (n.kind) n
              · have hR : wellB f n = false := by simp [wellB, HRS.out, HK.out.2.1, HK.out.2.2, HRN.out, HCL.out, HDA.out, HNM.out, HFX.out, hr]
                have HRX := Lib.hid hR; clear hR
                go_wp2_with fail
                go_ret
                rw [HRX.out]
                exact ⟨rfl, by first | exact L5.out.b | (rw [HP0.out]; exact L5.out.b)⟩
              · have HRR := Lib.hid hr; clear hr
                go_wp2_with   (first
                    | (refine wpList_load_row rfl 43 _ rfl p1 rfl 43 (noteA n sa sc) (0, 0) _ L5.out.e1 Try.underlying43 rfl (I43.out _ _ _) ?_)
                    | (refine wpList_load_rowG ?hw 43 _ rfl p1 rfl 43 (noteA n sa sc) (0, 0) _ L5.out.e1 Try.underlying43 rfl (I43.out _ _ _) ?_; case hw => rfl))

                refine (bare_any n sa sc _ (RDb.out _ L5.out.b) (n.kind)).mono ?_
                rintro e w6 ⟨ta, tc, rfl, hrd, b6⟩
                have L6 := Lib.hid (L5.out.below b6); clear b6
                have hR : wellB f n = sameB (bareR (n.kind) n) zeroN := by simp [wellB, HRS.out, HK.out.2.1, HK.out.2.2, HRN.out, HCL.out, HDA.out, HNM.out, HFX.out, HRR.out]
                obtain ⟨N, HN⟩ : ∃ N, Hid (bareR (n.kind) n = N) := ⟨_, Lib.hid rfl⟩
                rw [HN.out] at hrd hR
                have HRX := Lib.hid hR; clear hR
                have RD6 := Lib.hid hrd; clear hrd
                rw [HN.out]
                go_wp2_with fail
                refine (rsame_any N zeroN ta tc none 0 _ RD6.out (RdA.nil _ 1)).mono ?_
                rintro e w7 ⟨rfl, b7⟩
                have L7 := Lib.hid (L6.out.below b7); clear b7
                go_wp2_with fail
                go_ret
                rw [HRX.out]
                exact ⟨rfl, by first | exact L7.out.b | (rw [HP0.out]; exact L7.out.b)⟩
            · have hfx1 : (n.fix == 0) = false := by simp [hfx]
              have hfx2 : decide (n.fix = 0) = false := by simp [hfx]
              have HFX := Lib.hid hfx; clear hfx
              have k18 := note_cells L2.out.e1 18 _ rfl
              simp only [Nat.zero_add] at k18
              have hR : wellB f n = false := by simp [wellB, HRS.out, HK.out.2.1, HK.out.2.2, HRN.out, HCL.out, HDA.out, HNM.out, HFX.out]
              have HRX := Lib.hid hR; clear hR
              go_wp2_with fail
              go_ret
              rw [HRX.out]
              exact ⟨rfl, by first | exact L2.out.b | (rw [HP0.out]; exact L2.out.b)⟩
          · have r16 : (n.refH == 0) = true := by simp [h16]
            have r16' : decide (n.refH = 0) = true := by simp [h16]
            have r17 : (n.refN == 0) = false := by simp [h17]
            have r17' : decide (n.refN = 0) = false := by simp [h17]
            have HNM := Lib.hid (show namedB n = true by simp [namedB, h16, h17])
            clear h16 h17
            have hR : wellB f n = false := by simp [wellB, HRS.out, HK.out.2.1, HK.out.2.2, HRN.out, HCL.out, HDA.out, HNM.out]
            have HRX := Lib.hid hR; clear hR
            go_wp2_with fail
            go_ret
            rw [HRX.out]
            exact ⟨rfl, by first | exact L2.out.b | (rw [HP0.out]; exact L2.out.b)⟩
        · have r16 : (n.refH == 0) = false := by simp [h16]
          have r16' : decide (n.refH = 0) = false := by simp [h16]
          have HNM := Lib.hid (show namedB n = true by simp [namedB, h16])
          clear h16
          have hR : wellB f n = false := by simp [wellB, HRS.out, HK.out.2.1, HK.out.2.2, HRN.out, HCL.out, HDA.out, HNM.out]
          have HRX := Lib.hid hR; clear hR
          go_wp2_with fail
          go_ret
          rw [HRX.out]
          exact ⟨rfl, by first | exact L2.out.b | (rw [HP0.out]; exact L2.out.b)⟩
theorem well_any (hv : f.valid = true) (hs : RdI w sa n.strokes.length sc n.strokes) :
    Calls Try.prog 83 #[f.val, .agg (noteA n sa sc)] w fun e w' => e = .returned (.bool (wellB f n)) ∧ Below w.heap.size w w' := by
  by_cases k2 : n.kind = 2
  · exact well_2 f n sa sc w hv hs k2
  by_cases k5 : n.kind = 5
  · exact well_5 f n sa sc w hv hs k5
  by_cases k6 : n.kind = 6
  · exact well_6 f n sa sc w hv hs k6
  exact well_o f n sa sc w hv hs k2 k5 k6
end
end Go.Proofs.Ytpjiakgfegnmcaa
