/- Parts of the proof, in this order: The reference's Copy; The reference's wellFormed and CheckNote; The order of names and notes in the reference: order, compareNames, known, Before; The plain law of Chain: the corrections and withdrawals of a note, as they became known; The reference's find; The reference's counted; The reference's events; The reference's CheckSet; The reference's has, idle, isSet and Effective; The reference's folded, Fold and AsOf; The reference's Fork. -/
import Derived.Test.YtpjiakgfegnmcaaGreatKPhu11
set_option linter.unusedSimpArgs false
set_option linter.unusedVariables false
open List renaming getElem_toArray → lq0, getElem_cons_succ → lq1, getElem_cons_zero → lq2, setIfInBounds_toArray → lq3, set_cons_zero → lq4, set_cons_succ → lq5
namespace Go.Proofs.YtpjiakgfegnmcaaGreat
set_option linter.unusedSimpArgs false
open Go.RowKit

theorem run_app_int (w : World) (base : Nat) (sa : Option Addr) (sn sc : Nat) (xs : List Value) (hown : w.ownsRow base 3 1 (.slice sa sn sc) sn xs) (xa : Option Addr) (m xc : Nat) (ys : List Value) (hrd : RdA w 1 xa m xc ys) (h1 : ∀ u ∈ ys, u.oneCell' = true)
    (hbytes : (sn + m) * 8 ≤ 140737488355328) (hbase : base ≤ w.heap.size) :
    ∃ a' c' w', (Builtin.append_ #[38, 38] 38 #[.slice sa sn sc, .slice xa m xc]).run Tryz.prog w = .ok (.slice a' (sn + m) c') w' ∧ w'.ownsRow base 3 1 (.slice a' (sn + m) c') (sn + m) (xs ++ ys) ∧ w.grownBy w' (Value.ownBlock (.slice sa sn sc)) := by
  obtain ⟨i, hi, hz0, hz1, hz2⟩ := info_parts infoInt
  exact run_append_rd w base 38 38 3 i _ 1 8 Tryz.underlying38 hi hz0 hz1 hz2 rfl (by decide) sa sn sc xs hown xa m xc ys hrd h1 (by unfold maxLen; omega) hbytes hbase
section
attribute [local go_sem] noteA_15
set_option maxHeartbeats 4000000 in
set_option maxRecDepth 100000 in
theorem rcopy_any (n : NoteV) (sa : Option Addr) (sc : Nat) (w : World) (hs : RdI w sa n.strokes.length sc n.strokes) (hl : n.strokes.length ≤ 1000000000) :
    Calls Tryz.prog 86 #[.agg (noteA n sa sc)] w fun e w' => ∃ ta tc, e = .returned (.agg (noteA n ta tc)) ∧ w'.ownsRow w.heap.size 3 1 (.slice ta n.strokes.length tc) n.strokes.length (n.strokes.map intV) ∧ Below w.heap.size w w' := by
  have I43 := Lib.hid (show ∀ (m : NoteV) (a : Option Addr) (c : Nat), (Tryz.prog.info? 51).map (·.size) = some (noteA m a c).size from fun m a c => by kernel_rfl)
  go_enter Tryz.func86, Tryz.ntmps86
  go_upto_region 1 with fail
  rw [← noteA_zero]
  have g0 := heap_before _ (.cells (noteA zeroN none 0) 51) _ _ (heap_last w (.cells (noteA n sa sc) 51))
  have g1 := heap_at (w.alloc (.cells (noteA n sa sc) 51)) (.cells (noteA zeroN none 0) 51) (w.heap.size + 1) (by simp)
  have bb : Below w.heap.size w ((w.alloc (.cells (noteA n sa sc) 51)).alloc (.cells (noteA zeroN none 0) 51)) := ((Below.refl _ _).alloc (Nat.le_refl _) _).alloc (by simp) _
  have E0 := Lib.hid g0
  have E1 := Lib.hid g1
  have B0 := Lib.hid bb
  have RI := Lib.hid (hs.below bb)
  clear g0 g1 bb hs
  generalize (w.alloc (.cells (noteA n sa sc) 51)).alloc (.cells (noteA zeroN none 0) 51) = W2 at *
  generalize hp0 : w.heap.size = p0 at *
  generalize hp1 : p0 + 1 = p1 at *
  have HP0 := Lib.hid hp0
  have HP1 := Lib.hid hp1
  clear hp0 hp1
  go_upto_region 2 with (first
    | (refine wpList_load_row rfl 51 _ rfl p0 rfl 51 (noteA n sa sc) (0, 0) _ E0.out Tryz.underlying51 rfl (I43.out _ _ _) ?_)
    | (refine wpList_store_newp W2 rfl 51 _ _ rfl W2.heap.size rfl _ (noteA n sa sc) rfl rfl (I43.out _ _ _) rfl (noteA_one n sa sc) ?_))
  have b2 : Below W2.heap.size W2 (W2.alloc (.cells (noteA n sa sc) 51)) := (Below.refl _ _).alloc (Nat.le_refl _) _
  have E2 := Lib.hid (heap_last W2 (.cells (noteA n sa sc) 51))
  have F1 := Lib.hid (below_blk b2 E1.out)
  have D0 := Lib.hid (below_blk b2 E0.out)
  have B2 := Lib.hid (B0.out.trans (b2.mono (by have := B0.out.size; have := HP0.out; omega)))
  have R2 := Lib.hid (RI.out.below b2)
  have N12 : Hid (p1 < W2.heap.size) := Lib.hid (blk_lt E1.out)
  clear b2 E0 E1 B0 RI
  obtain ⟨p2, hp2⟩ : ∃ p, Hid (W2.heap.size = p) := ⟨_, Lib.hid rfl⟩
  rw [hp2.out] at E2 N12 ⊢
  generalize W2.alloc (.cells (noteA n sa sc) 51) = W3 at *
  obtain ⟨m, hm⟩ : ∃ m, Hid (n.strokes.length = m) := ⟨_, Lib.hid rfl⟩
  rw [hm.out] at R2 hl
  have hb3 : Below W3.heap.size W3 (W3.alloc (.cells #[] 3)) := (Below.refl _ _).alloc (Nat.le_refl _) _
  have c15 : (W3.alloc (.cells #[] 3)).cell? ⟨p0, 15, none⟩ = some (.slice sa m sc) := by rw [← hm.out]; exact cell_of (below_blk hb3 D0.out) 15 _ rfl
  have o0 := World.ownsRow_lit (base := W3.heap.size) (e := 3) (size := 1) W3 #[] 0 (Nat.le_refl _) (by unfold maxLen; omega) rfl
  obtain ⟨a', c', v5, hrun, ho, hg⟩ := run_app_int (W3.alloc (.cells #[] 3)) W3.heap.size _ 0 0 _ o0 sa m sc _ (R2.out.below hb3) (intV_one _) (by omega) hb3.size
  have hb5 : Below W3.heap.size W3 v5 := hb3.grown hg hb3.size (fun k hk => (o0.lt k hk).1)
  rw [Nat.zero_add] at hrun ho
  have O5 : Hid (v5.ownsRow W3.heap.size 3 1 (.slice a' m c') m (n.strokes.map intV)) := Lib.hid (by simpa using ho)
  have G2 := Lib.hid (below_blk hb5 E2.out)
  have G1 := Lib.hid (below_blk hb5 F1.out)
  have B5 := Lib.hid (B2.out.trans (hb5.mono (by have := B2.out.size; have := HP0.out; omega)))
  have NX : Hid (p2 < W3.heap.size) := Lib.hid (blk_lt E2.out)
  have B02 : Hid (p0 ≤ W3.heap.size) := Lib.hid (by have := B2.out.size; have := HP0.out; omega)
  clear hb3 o0 ho hg hb5 E2 F1 B2 R2
  have z15 := cell_of G2.out 15 (.slice sa n.strokes.length sc) rfl
  have f15 := frozen_of G2.out 15
  go_upto_region 3 with (first
    | (refine wpList_append_eq rfl _ _ _ rfl _ _ _ rfl rfl hrun ?_)
    | fail)
  clear c15 z15 f15 hrun
  have g5 := setCell_grown v5 p2 15 (.slice a' m c')
  have E3 : Hid ((v5.setCell ⟨p2, 15, none⟩ (.slice a' m c')).heap[p2]? = some (.cells (noteA n a' c') 51 (0, 0))) := Lib.hid (by
    have := setCell_at G2.out 15 (.slice a' m c')
    rw [← hm.out, noteA_15s] at this
    rw [← hm.out]; exact this)
  have E4 : Hid ((v5.setCell ⟨p2, 15, none⟩ (.slice a' m c')).heap[p1]? = some (.cells (noteA zeroN none 0) 51 (0, 0))) := Lib.hid (grown_blk g5 G1.out (fun e => by have := N12.out; have e2 := Option.some.inj e; omega))
  have O6 := Lib.hid (O5.out.kept g5 (.inr (own_no O5.out G2.out (fun cur h => by simp at h)).symm))
  have B6 := Lib.hid (B5.out.grown g5 (by have := B5.out.size; have := HP0.out; omega) (fun q hq => by cases hq; have := N12.out; have := HP1.out; omega))
  clear g5 O5 G1 G2 B5
  generalize v5.setCell ⟨p2, 15, none⟩ (.slice a' m c') = W4 at *
  have oneN := noteA_one n a' c'
  go_wp2_with (first
    | (refine wpList_load_row rfl 51 _ rfl p2 rfl 51 (noteA n a' c') (0, 0) _ E3.out Tryz.underlying51 rfl (I43.out _ _ _) ?_)
    | (refine wpList_store_rowN rfl 51 _ _ rfl p1 (noteA zeroN none 0) (noteA n a' c') 51 rfl rfl E4.out (I43.out _ _ _) rfl oneN ?_))
  go_wp2_with fail
  have hr := setRow_at W4 p1 _ (noteA n a' c') _ _ E4.out
  refine bodyPost_ret (results_cell_row rfl _ _ p1 51 (noteA n a' c') (0, 0) _ rfl hr Tryz.underlying51 rfl (I43.out _ _ _)) rfl ?_
  have G4 := setRow_grown W4 p1 (noteA n a' c')
  refine ⟨a', c', rfl, ?_, ?_⟩
  · rw [hm.out]
    exact own_mono (O6.out.kept G4 (.inr (own_no O6.out E4.out (fun cur h => by simp at h)).symm)) (by have := B02.out; have := HP0.out; omega)
  · rw [HP0.out]
    exact B6.out.grown G4 (by have := B6.out.size; have := HP0.out; omega) (fun q hq => by cases hq; have := HP1.out; omega)
end
end Go.Proofs.YtpjiakgfegnmcaaGreat
namespace Go.Proofs.YtpjiakgfegnmcaaGreat
open Go.RowKit

structure LocF (w W : World) (p0 p1 : Nat) (f : FrV) (n : NoteV) (sa : Option Addr) (sc : Nat) : Prop where
  e0 : W.heap[p0]? = some (.cells #[.int .i64 f.rings, .int .i64 f.sectors, .int .i64 f.wide] 23 (0, 0))
  e1 : W.heap[p1]? = some (.cells (noteA n sa sc) 51 (0, 0))
  b : Below p0 w W
  lt : p0 < p1
theorem LocF.below {w W W' : World} {p0 p1 : Nat} {f : FrV} {n : NoteV} {sa : Option Addr} {sc : Nat} (h : LocF w W p0 p1 f n sa sc) (hb : Below W.heap.size W W') : LocF w W' p0 p1 f n sa sc := by
  have g : ∀ {k : Nat} {o : Obj}, W.heap[k]? = some o → W'.heap[k]? = some o := fun {k o} hk => (hb.block k (Array.getElem?_eq_some_iff.1 hk).1).trans hk
  have h0 := (Array.getElem?_eq_some_iff.1 h.e0).1
  exact ⟨g h.e0, g h.e1, h.b.trans (hb.mono (by omega)), h.lt⟩
theorem frame_cells {W : World} {p : Nat} {A : Array Value} {t : TypeId} {sp : Nat × Nat} (h : W.heap[p]? = some (.cells A t sp)) (j : Nat) (v : Value) (hv : A[j]? = some v) : W.cell? ⟨p, j, none⟩ = some v := by
  simp [World.cell?, h, hv]
section
attribute [local go_sem] noteA_0 noteA_1 noteA_2 noteA_3 noteA_4 noteA_5 noteA_6 noteA_7 noteA_8 noteA_9 noteA_10 noteA_11 noteA_12 noteA_13 noteA_14 noteA_15 noteA_16 noteA_17 noteA_18
variable (f : FrV) (n : NoteV) (sa : Option Addr) (sc : Nat) (w : World)
set_option maxHeartbeats 20000000 in
set_option maxRecDepth 100000 in
theorem well_2 (hv : f.valid = true) (hs : RdI w sa n.strokes.length sc n.strokes) (hk : n.kind = 2) :
    Calls Tryz.prog 65 #[f.val, .agg (noteA n sa sc)] w fun e w' => e = .returned (.bool (wellB f n)) ∧ Below w.heap.size w w' := by
  have I43 := Lib.hid (show ∀ (m : NoteV) (a : Option Addr) (c : Nat), (Tryz.prog.info? 51).map (·.size) = some (noteA m a c).size from fun m a c => by kernel_rfl)
  have g1 := heap_at (w.alloc (.cells #[.int .i64 f.rings, .int .i64 f.sectors, .int .i64 f.wide] 23)) (.cells (noteA n sa sc) 51) (w.heap.size + 1) (by simp)
  have g0 := heap_before (w.alloc (.cells #[.int .i64 f.rings, .int .i64 f.sectors, .int .i64 f.wide] 23)) (.cells (noteA n sa sc) 51) _ _ (heap_at w (.cells #[.int .i64 f.rings, .int .i64 f.sectors, .int .i64 f.wide] 23) _ rfl)
  have bb : Below w.heap.size w ((w.alloc (.cells #[.int .i64 f.rings, .int .i64 f.sectors, .int .i64 f.wide] 23)).alloc (.cells (noteA n sa sc) 51)) := ((Below.refl _ _).alloc (Nat.le_refl _) _).alloc (by simp) _
  have L0 : Hid (LocF w ((w.alloc (.cells #[.int .i64 f.rings, .int .i64 f.sectors, .int .i64 f.wide] 23)).alloc (.cells (noteA n sa sc) 51)) w.heap.size (w.heap.size + 1) f n sa sc) := Lib.hid ⟨g0, g1, bb, by omega⟩
  clear g0 g1 bb
  unfold FrV.val
  go_enter Tryz.func65, Tryz.ntmps65
  go_upto_region 1 with fail
  generalize hW0 : (w.alloc (.cells #[.int .i64 f.rings, .int .i64 f.sectors, .int .i64 f.wide] 23)).alloc (.cells (noteA n sa sc) 51) = W0 at *
  generalize hp0 : w.heap.size = p0 at *
  generalize hp1 : p0 + 1 = p1 at *
  have RDb := Lib.hid (show ∀ W', Below p0 w W' → RdI W' sa n.strokes.length sc n.strokes from fun W' h => hs.below (by rw [hp0]; exact h))
  have HP0 := Lib.hid hp0; clear hp0 hp1 hW0
  have HV := Lib.hid hv; clear hv
  have HK := Lib.hid hk; clear hk
  have q2 : (n.kind == 2) = true := by simp [HK.out]
  have q2' : decide (n.kind = 2) = true := by simp [HK.out]
  have q5 : (n.kind == 5) = false := by simp [HK.out]
  have q5' : decide (n.kind = 5) = false := by simp [HK.out]
  have q6 : (n.kind == 6) = false := by simp [HK.out]
  have q6' : decide (n.kind = 6) = false := by simp [HK.out]
  have HRS := Lib.hid (show refersB n = true by simp [refersB, HK.out])
  have HK2 := Lib.hid (show ¬ n.kind = 6 ∧ ¬ n.kind = 5 by rw [HK.out]; decide)
  go_wp2_with   (first
      | (refine wpList_load_row rfl 51 _ rfl p1 rfl 51 (noteA n sa sc) (0, 0) _ L0.out.e1 Tryz.underlying51 rfl (I43.out _ _ _) ?_)
      | (refine wpList_load_rowG ?hw 51 _ rfl p1 rfl 51 (noteA n sa sc) (0, 0) _ L0.out.e1 Tryz.underlying51 rfl (I43.out _ _ _) ?_; case hw => rfl))
  refine (rNameOf_any n sa sc _).mono ?_
  rintro e w1 ⟨rfl, b1⟩
  have L1 := Lib.hid (L0.out.below b1); clear b1
  go_wp2_with fail
  refine (rrightName_any n.house n.num _).mono ?_
  rintro e w2 ⟨rfl, b2⟩
  have L2 := Lib.hid (L1.out.below b2); clear b2
  cases hrn : rightNameB n.house n.num
  · have hR : wellB f n = false := by simp [wellB, HRS.out, HK2.out.1, HK2.out.2, hrn]
    have HRX := Lib.hid hR; clear hR
    go_wp2_with fail
    go_ret
    rw [HRX.out]
    exact ⟨rfl, by first | exact L2.out.b | (rw [HP0.out]; exact L2.out.b)⟩
  · have HRN := Lib.hid hrn; clear hrn
    have k2 := note_cells L2.out.e1 2 _ rfl
    simp only [Nat.zero_add] at k2
    have k3 := note_cells L2.out.e1 3 _ rfl
    simp only [Nat.zero_add] at k3
    have k4 := note_cells L2.out.e1 4 _ rfl
    simp only [Nat.zero_add] at k4
    have k16 := note_cells L2.out.e1 16 _ rfl
    simp only [Nat.zero_add] at k16
    have k17 := note_cells L2.out.e1 17 _ rfl
    simp only [Nat.zero_add] at k17
    go_wp2_with fail
    refine (rin_any n.clock 1 1099511627776 _).mono ?_
    rintro e w' ⟨rfl, rfl⟩
    cases hcl : inB n.clock 1 1099511627776
    · have hR : wellB f n = false := by simp [wellB, HRS.out, HK2.out.1, HK2.out.2, HRN.out, hcl]
      have HRX := Lib.hid hR; clear hR
      go_wp2_with fail
      go_ret
      rw [HRX.out]
      exact ⟨rfl, by first | exact L2.out.b | (rw [HP0.out]; exact L2.out.b)⟩
    · have HCL := Lib.hid hcl; clear hcl
      go_wp2_with fail
      refine (rin_any n.day 0 99999 _).mono ?_
      rintro e w' ⟨rfl, rfl⟩
      cases hda : inB n.day 0 99999
      · have hR : wellB f n = false := by simp [wellB, HRS.out, HK2.out.1, HK2.out.2, HRN.out, HCL.out, hda]
        have HRX := Lib.hid hR; clear hR
        go_wp2_with fail
        go_ret
        rw [HRX.out]
        exact ⟨rfl, by first | exact L2.out.b | (rw [HP0.out]; exact L2.out.b)⟩
      · have HDA := Lib.hid hda; clear hda
        by_cases h16 : n.refH = 0
        · by_cases h17 : n.refN = 0
          · have r16 : (n.refH == 0) = true := by simp [h16]
            have r16' : decide (n.refH = 0) = true := by simp [h16]
            have r17 : (n.refN == 0) = true := by simp [h17]
            have r17' : decide (n.refN = 0) = true := by simp [h17]
            have HNM := Lib.hid (show namedB n = false by simp [namedB, h16, h17])
            clear h16 h17
            have hR : wellB f n = false := by simp [wellB, HRS.out, HK2.out.1, HK2.out.2, HRN.out, HCL.out, HDA.out, HNM.out]
            have HRX := Lib.hid hR; clear hR
            go_wp2_with fail
            go_ret
            rw [HRX.out]
            exact ⟨rfl, by first | exact L2.out.b | (rw [HP0.out]; exact L2.out.b)⟩
          · have r16 : (n.refH == 0) = true := by simp [h16]
            have r16' : decide (n.refH = 0) = true := by simp [h16]
            have r17 : (n.refN == 0) = false := by simp [h17]
            have r17' : decide (n.refN = 0) = false := by simp [h17]
            have HNM := Lib.hid (show namedB n = true by simp [namedB, h16, h17])
            clear h16 h17
            go_wp2_with fail
            refine (rrightName_any n.refH n.refN _).mono ?_
            rintro e w3 ⟨rfl, b3⟩
            have L3 := Lib.hid (L2.out.below b3); clear b3
            cases hrf : rightNameB n.refH n.refN
            · have hR : wellB f n = false := by simp [wellB, HRS.out, HK2.out.1, HK2.out.2, HRN.out, HCL.out, HDA.out, HNM.out, hrf]
              have HRX := Lib.hid hR; clear hR
              go_wp2_with fail
              go_ret
              rw [HRX.out]
              exact ⟨rfl, by first | exact L3.out.b | (rw [HP0.out]; exact L3.out.b)⟩
            · have HRF := Lib.hid hrf; clear hrf
              clear k2 k3 k4 k16 k17
              have k4 := note_cells L3.out.e1 4 _ rfl
              simp only [Nat.zero_add] at k4
              by_cases hfx : n.fix = 0
              · have hfx1 : (n.fix == 0) = true := by simp [hfx]
                have hfx2 : decide (n.fix = 0) = true := by simp [hfx]
                have HFX := Lib.hid hfx; clear hfx
                have k18 := note_cells L3.out.e1 18 _ rfl
                simp only [Nat.zero_add] at k18
                have c0 := frame_cells L3.out.e0 0 _ rfl
                have c1 := frame_cells L3.out.e0 1 _ rfl
                have c2 := frame_cells L3.out.e0 2 _ rfl
                go_wp2_with   (first
                    | (refine wpList_load_row rfl 51 _ rfl p1 rfl 51 (noteA n sa sc) (0, 0) _ L3.out.e1 Tryz.underlying51 rfl (I43.out _ _ _) ?_)
                    | (refine wpList_load_rowG ?hw 51 _ rfl p1 rfl 51 (noteA n sa sc) (0, 0) _ L3.out.e1 Tryz.underlying51 rfl (I43.out _ _ _) ?_; case hw => rfl))

                refine (right_any f n sa sc _ HV.out (RDb.out _ L3.out.b) (n.kind)).mono ?_
                rintro e w5 ⟨rfl, b5⟩
                have L5 := Lib.hid (L3.out.below b5); clear b5
                cases hr : rightB f (n.kind) n
                · have hR : wellB f n = false := by simp [wellB, HRS.out, HK2.out.1, HK2.out.2, HRN.out, HCL.out, HDA.out, HNM.out, HRF.out, HFX.out, hr]
                  have HRX := Lib.hid hR; clear hR
                  go_wp2_with fail
                  go_ret
                  rw [HRX.out]
                  exact ⟨rfl, by first | exact L5.out.b | (rw [HP0.out]; exact L5.out.b)⟩
                · have HRR := Lib.hid hr; clear hr
                  go_wp2_with   (first
                      | (refine wpList_load_row rfl 51 _ rfl p1 rfl 51 (noteA n sa sc) (0, 0) _ L5.out.e1 Tryz.underlying51 rfl (I43.out _ _ _) ?_)
                      | (refine wpList_load_rowG ?hw 51 _ rfl p1 rfl 51 (noteA n sa sc) (0, 0) _ L5.out.e1 Tryz.underlying51 rfl (I43.out _ _ _) ?_; case hw => rfl))

                  refine (bare_any n sa sc _ (RDb.out _ L5.out.b) (n.kind)).mono ?_
                  rintro e w6 ⟨ta, tc, rfl, hrd, b6⟩
                  have L6 := Lib.hid (L5.out.below b6); clear b6
                  have hR : wellB f n = sameB (bareR (n.kind) n) zeroN := by simp [wellB, HRS.out, HK2.out.1, HK2.out.2, HRN.out, HCL.out, HDA.out, HNM.out, HRF.out, HFX.out, HRR.out]
                  obtain ⟨N, HN⟩ : ∃ N, Hid (bareR (n.kind) n = N) := ⟨_, Lib.hid rfl⟩
                  rw [HN.out] at hrd hR
                  have HRX := Lib.hid hR; clear hR
                  have RD6 := Lib.hid hrd; clear hrd
                  rw [HN.out]
                  go_wp2_with fail
                  refine (rsame_any N zeroN ta tc none 0 _ RD6.out (RdA.nil _ 1)).mono ?_
                  rintro e w7 ⟨rfl, b7⟩
                  have L7 := Lib.hid (L6.out.below b7); clear b7
                  go_wp2_with fail
                  go_ret
                  rw [HRX.out]
                  exact ⟨rfl, by first | exact L7.out.b | (rw [HP0.out]; exact L7.out.b)⟩
              · have hfx1 : (n.fix == 0) = false := by simp [hfx]
                have hfx2 : decide (n.fix = 0) = false := by simp [hfx]
                have HFX := Lib.hid hfx; clear hfx
                have k18 := note_cells L3.out.e1 18 _ rfl
                simp only [Nat.zero_add] at k18
                have hR : wellB f n = false := by simp [wellB, HRS.out, HK2.out.1, HK2.out.2, HRN.out, HCL.out, HDA.out, HNM.out, HRF.out, HFX.out]
                have HRX := Lib.hid hR; clear hR
                go_wp2_with fail
                go_ret
                rw [HRX.out]
                exact ⟨rfl, by first | exact L3.out.b | (rw [HP0.out]; exact L3.out.b)⟩
        · have r16 : (n.refH == 0) = false := by simp [h16]
          have r16' : decide (n.refH = 0) = false := by simp [h16]
          have HNM := Lib.hid (show namedB n = true by simp [namedB, h16])
          clear h16
          go_wp2_with fail
          refine (rrightName_any n.refH n.refN _).mono ?_
          rintro e w3 ⟨rfl, b3⟩
          have L3 := Lib.hid (L2.out.below b3); clear b3
          cases hrf : rightNameB n.refH n.refN
          · have hR : wellB f n = false := by simp [wellB, HRS.out, HK2.out.1, HK2.out.2, HRN.out, HCL.out, HDA.out, HNM.out, hrf]
            have HRX := Lib.hid hR; clear hR
            go_wp2_with fail
            go_ret
            rw [HRX.out]
            exact ⟨rfl, by first | exact L3.out.b | (rw [HP0.out]; exact L3.out.b)⟩
          · have HRF := Lib.hid hrf; clear hrf
            clear k2 k3 k4 k16 k17
            have k4 := note_cells L3.out.e1 4 _ rfl
            simp only [Nat.zero_add] at k4
            by_cases hfx : n.fix = 0
            · have hfx1 : (n.fix == 0) = true := by simp [hfx]
              have hfx2 : decide (n.fix = 0) = true := by simp [hfx]
              have HFX := Lib.hid hfx; clear hfx
              have k18 := note_cells L3.out.e1 18 _ rfl
              simp only [Nat.zero_add] at k18
              have c0 := frame_cells L3.out.e0 0 _ rfl
              have c1 := frame_cells L3.out.e0 1 _ rfl
              have c2 := frame_cells L3.out.e0 2 _ rfl
              go_wp2_with   (first
                  | (refine wpList_load_row rfl 51 _ rfl p1 rfl 51 (noteA n sa sc) (0, 0) _ L3.out.e1 Tryz.underlying51 rfl (I43.out _ _ _) ?_)
                  | (refine wpList_load_rowG ?hw 51 _ rfl p1 rfl 51 (noteA n sa sc) (0, 0) _ L3.out.e1 Tryz.underlying51 rfl (I43.out _ _ _) ?_; case hw => rfl))

              refine (right_any f n sa sc _ HV.out (RDb.out _ L3.out.b) (n.kind)).mono ?_
              rintro e w5 ⟨rfl, b5⟩
              have L5 := Lib.hid (L3.out.below b5); clear b5
              cases hr : rightB f (n.kind) n
              · have hR : wellB f n = false := by simp [wellB, HRS.out, HK2.out.1, HK2.out.2, HRN.out, HCL.out, HDA.out, HNM.out, HRF.out, HFX.out, hr]
                have HRX := Lib.hid hR; clear hR
                go_wp2_with fail
                go_ret
                rw [HRX.out]
                exact ⟨rfl, by first | exact L5.out.b | (rw [HP0.out]; exact L5.out.b)⟩
              · have HRR := Lib.hid hr; clear hr
                go_wp2_with   (first
                    | (refine wpList_load_row rfl 51 _ rfl p1 rfl 51 (noteA n sa sc) (0, 0) _ L5.out.e1 Tryz.underlying51 rfl (I43.out _ _ _) ?_)
                    | (refine wpList_load_rowG ?hw 51 _ rfl p1 rfl 51 (noteA n sa sc) (0, 0) _ L5.out.e1 Tryz.underlying51 rfl (I43.out _ _ _) ?_; case hw => rfl))

                refine (bare_any n sa sc _ (RDb.out _ L5.out.b) (n.kind)).mono ?_
                rintro e w6 ⟨ta, tc, rfl, hrd, b6⟩
                have L6 := Lib.hid (L5.out.below b6); clear b6
                have hR : wellB f n = sameB (bareR (n.kind) n) zeroN := by simp [wellB, HRS.out, HK2.out.1, HK2.out.2, HRN.out, HCL.out, HDA.out, HNM.out, HRF.out, HFX.out, HRR.out]
                obtain ⟨N, HN⟩ : ∃ N, Hid (bareR (n.kind) n = N) := ⟨_, Lib.hid rfl⟩
                rw [HN.out] at hrd hR
                have HRX := Lib.hid hR; clear hR
                have RD6 := Lib.hid hrd; clear hrd
                rw [HN.out]
                go_wp2_with fail
                refine (rsame_any N zeroN ta tc none 0 _ RD6.out (RdA.nil _ 1)).mono ?_
                rintro e w7 ⟨rfl, b7⟩
                have L7 := Lib.hid (L6.out.below b7); clear b7
                go_wp2_with fail
                go_ret
                rw [HRX.out]
                exact ⟨rfl, by first | exact L7.out.b | (rw [HP0.out]; exact L7.out.b)⟩
            · have hfx1 : (n.fix == 0) = false := by simp [hfx]
              have hfx2 : decide (n.fix = 0) = false := by simp [hfx]
              have HFX := Lib.hid hfx; clear hfx
              have k18 := note_cells L3.out.e1 18 _ rfl
              simp only [Nat.zero_add] at k18
              have hR : wellB f n = false := by simp [wellB, HRS.out, HK2.out.1, HK2.out.2, HRN.out, HCL.out, HDA.out, HNM.out, HRF.out, HFX.out]
              have HRX := Lib.hid hR; clear hR
              go_wp2_with fail
              go_ret
              rw [HRX.out]
              exact ⟨rfl, by first | exact L3.out.b | (rw [HP0.out]; exact L3.out.b)⟩
set_option maxHeartbeats 20000000 in
set_option maxRecDepth 100000 in
theorem well_5 (hv : f.valid = true) (hs : RdI w sa n.strokes.length sc n.strokes) (hk : n.kind = 5) :
    Calls Tryz.prog 65 #[f.val, .agg (noteA n sa sc)] w fun e w' => e = .returned (.bool (wellB f n)) ∧ Below w.heap.size w w' := by
  have I43 := Lib.hid (show ∀ (m : NoteV) (a : Option Addr) (c : Nat), (Tryz.prog.info? 51).map (·.size) = some (noteA m a c).size from fun m a c => by kernel_rfl)
  have g1 := heap_at (w.alloc (.cells #[.int .i64 f.rings, .int .i64 f.sectors, .int .i64 f.wide] 23)) (.cells (noteA n sa sc) 51) (w.heap.size + 1) (by simp)
  have g0 := heap_before (w.alloc (.cells #[.int .i64 f.rings, .int .i64 f.sectors, .int .i64 f.wide] 23)) (.cells (noteA n sa sc) 51) _ _ (heap_at w (.cells #[.int .i64 f.rings, .int .i64 f.sectors, .int .i64 f.wide] 23) _ rfl)
  have bb : Below w.heap.size w ((w.alloc (.cells #[.int .i64 f.rings, .int .i64 f.sectors, .int .i64 f.wide] 23)).alloc (.cells (noteA n sa sc) 51)) := ((Below.refl _ _).alloc (Nat.le_refl _) _).alloc (by simp) _
  have L0 : Hid (LocF w ((w.alloc (.cells #[.int .i64 f.rings, .int .i64 f.sectors, .int .i64 f.wide] 23)).alloc (.cells (noteA n sa sc) 51)) w.heap.size (w.heap.size + 1) f n sa sc) := Lib.hid ⟨g0, g1, bb, by omega⟩
  clear g0 g1 bb
  unfold FrV.val
  go_enter Tryz.func65, Tryz.ntmps65
  go_upto_region 1 with fail
  generalize hW0 : (w.alloc (.cells #[.int .i64 f.rings, .int .i64 f.sectors, .int .i64 f.wide] 23)).alloc (.cells (noteA n sa sc) 51) = W0 at *
  generalize hp0 : w.heap.size = p0 at *
  generalize hp1 : p0 + 1 = p1 at *
  have RDb := Lib.hid (show ∀ W', Below p0 w W' → RdI W' sa n.strokes.length sc n.strokes from fun W' h => hs.below (by rw [hp0]; exact h))
  have HP0 := Lib.hid hp0; clear hp0 hp1 hW0
  have HV := Lib.hid hv; clear hv
  have HK := Lib.hid hk; clear hk
  have q2 : (n.kind == 2) = false := by simp [HK.out]
  have q2' : decide (n.kind = 2) = false := by simp [HK.out]
  have q5 : (n.kind == 5) = true := by simp [HK.out]
  have q5' : decide (n.kind = 5) = true := by simp [HK.out]
  have q6 : (n.kind == 6) = false := by simp [HK.out]
  have q6' : decide (n.kind = 6) = false := by simp [HK.out]
  have HRS := Lib.hid (show refersB n = true by simp [refersB, HK.out])
  go_wp2_with   (first
      | (refine wpList_load_row rfl 51 _ rfl p1 rfl 51 (noteA n sa sc) (0, 0) _ L0.out.e1 Tryz.underlying51 rfl (I43.out _ _ _) ?_)
      | (refine wpList_load_rowG ?hw 51 _ rfl p1 rfl 51 (noteA n sa sc) (0, 0) _ L0.out.e1 Tryz.underlying51 rfl (I43.out _ _ _) ?_; case hw => rfl))
  refine (rNameOf_any n sa sc _).mono ?_
  rintro e w1 ⟨rfl, b1⟩
  have L1 := Lib.hid (L0.out.below b1); clear b1
  go_wp2_with fail
  refine (rrightName_any n.house n.num _).mono ?_
  rintro e w2 ⟨rfl, b2⟩
  have L2 := Lib.hid (L1.out.below b2); clear b2
  cases hrn : rightNameB n.house n.num
  · have hR : wellB f n = false := by simp [wellB, HRS.out, HK.out, hrn]
    have HRX := Lib.hid hR; clear hR
    go_wp2_with fail
    go_ret
    rw [HRX.out]
    exact ⟨rfl, by first | exact L2.out.b | (rw [HP0.out]; exact L2.out.b)⟩
  · have HRN := Lib.hid hrn; clear hrn
    have k2 := note_cells L2.out.e1 2 _ rfl
    simp only [Nat.zero_add] at k2
    have k3 := note_cells L2.out.e1 3 _ rfl
    simp only [Nat.zero_add] at k3
    have k4 := note_cells L2.out.e1 4 _ rfl
    simp only [Nat.zero_add] at k4
    have k16 := note_cells L2.out.e1 16 _ rfl
    simp only [Nat.zero_add] at k16
    have k17 := note_cells L2.out.e1 17 _ rfl
    simp only [Nat.zero_add] at k17
    go_wp2_with fail
    refine (rin_any n.clock 1 1099511627776 _).mono ?_
    rintro e w' ⟨rfl, rfl⟩
    cases hcl : inB n.clock 1 1099511627776
    · have hR : wellB f n = false := by simp [wellB, HRS.out, HK.out, HRN.out, hcl]
      have HRX := Lib.hid hR; clear hR
      go_wp2_with fail
      go_ret
      rw [HRX.out]
      exact ⟨rfl, by first | exact L2.out.b | (rw [HP0.out]; exact L2.out.b)⟩
    · have HCL := Lib.hid hcl; clear hcl
      go_wp2_with fail
      refine (rin_any n.day 0 99999 _).mono ?_
      rintro e w' ⟨rfl, rfl⟩
      cases hda : inB n.day 0 99999
      · have hR : wellB f n = false := by simp [wellB, HRS.out, HK.out, HRN.out, HCL.out, hda]
        have HRX := Lib.hid hR; clear hR
        go_wp2_with fail
        go_ret
        rw [HRX.out]
        exact ⟨rfl, by first | exact L2.out.b | (rw [HP0.out]; exact L2.out.b)⟩
      · have HDA := Lib.hid hda; clear hda
        by_cases h16 : n.refH = 0
        · by_cases h17 : n.refN = 0
          · have r16 : (n.refH == 0) = true := by simp [h16]
            have r16' : decide (n.refH = 0) = true := by simp [h16]
            have r17 : (n.refN == 0) = true := by simp [h17]
            have r17' : decide (n.refN = 0) = true := by simp [h17]
            have HNM := Lib.hid (show namedB n = false by simp [namedB, h16, h17])
            clear h16 h17
            have hR : wellB f n = false := by simp [wellB, HRS.out, HK.out, HRN.out, HCL.out, HDA.out, HNM.out]
            have HRX := Lib.hid hR; clear hR
            go_wp2_with fail
            go_ret
            rw [HRX.out]
            exact ⟨rfl, by first | exact L2.out.b | (rw [HP0.out]; exact L2.out.b)⟩
          · have r16 : (n.refH == 0) = true := by simp [h16]
            have r16' : decide (n.refH = 0) = true := by simp [h16]
            have r17 : (n.refN == 0) = false := by simp [h17]
            have r17' : decide (n.refN = 0) = false := by simp [h17]
            have HNM := Lib.hid (show namedB n = true by simp [namedB, h16, h17])
            clear h16 h17
            go_wp2_with fail
            refine (rrightName_any n.refH n.refN _).mono ?_
            rintro e w3 ⟨rfl, b3⟩
            have L3 := Lib.hid (L2.out.below b3); clear b3
            cases hrf : rightNameB n.refH n.refN
            · have hR : wellB f n = false := by simp [wellB, HRS.out, HK.out, HRN.out, HCL.out, HDA.out, HNM.out, hrf]
              have HRX := Lib.hid hR; clear hR
              go_wp2_with fail
              go_ret
              rw [HRX.out]
              exact ⟨rfl, by first | exact L3.out.b | (rw [HP0.out]; exact L3.out.b)⟩
            · have HRF := Lib.hid hrf; clear hrf
              clear k2 k3 k4 k16 k17
              have k4 := note_cells L3.out.e1 4 _ rfl
              simp only [Nat.zero_add] at k4
              have k18 := note_cells L3.out.e1 18 _ rfl
              simp only [Nat.zero_add] at k18
              have c0 := frame_cells L3.out.e0 0 _ rfl
              have c1 := frame_cells L3.out.e0 1 _ rfl
              have c2 := frame_cells L3.out.e0 2 _ rfl
              go_wp2_with   (first
                  | (refine wpList_load_row rfl 51 _ rfl p1 rfl 51 (noteA n sa sc) (0, 0) _ L3.out.e1 Tryz.underlying51 rfl (I43.out _ _ _) ?_)
                  | (refine wpList_load_rowG ?hw 51 _ rfl p1 rfl 51 (noteA n sa sc) (0, 0) _ L3.out.e1 Tryz.underlying51 rfl (I43.out _ _ _) ?_; case hw => rfl))

              refine (right_any f n sa sc _ HV.out (RDb.out _ L3.out.b) (n.fix)).mono ?_
              rintro e w5 ⟨rfl, b5⟩
              have L5 := Lib.hid (L3.out.below b5); clear b5
              cases hr : rightB f (n.fix) n
              · have hR : wellB f n = false := by simp [wellB, HRS.out, HK.out, HRN.out, HCL.out, HDA.out, HNM.out, HRF.out, hr]
                have HRX := Lib.hid hR; clear hR
                go_wp2_with fail
                go_ret
                rw [HRX.out]
                exact ⟨rfl, by first | exact L5.out.b | (rw [HP0.out]; exact L5.out.b)⟩
              · have HRR := Lib.hid hr; clear hr
                go_wp2_with   (first
                    | (refine wpList_load_row rfl 51 _ rfl p1 rfl 51 (noteA n sa sc) (0, 0) _ L5.out.e1 Tryz.underlying51 rfl (I43.out _ _ _) ?_)
                    | (refine wpList_load_rowG ?hw 51 _ rfl p1 rfl 51 (noteA n sa sc) (0, 0) _ L5.out.e1 Tryz.underlying51 rfl (I43.out _ _ _) ?_; case hw => rfl))

                refine (bare_any n sa sc _ (RDb.out _ L5.out.b) (n.fix)).mono ?_
                rintro e w6 ⟨ta, tc, rfl, hrd, b6⟩
                have L6 := Lib.hid (L5.out.below b6); clear b6
                have hR : wellB f n = sameB (bareR (n.fix) n) zeroN := by simp [wellB, HRS.out, HK.out, HRN.out, HCL.out, HDA.out, HNM.out, HRF.out, HRR.out]
                obtain ⟨N, HN⟩ : ∃ N, Hid (bareR (n.fix) n = N) := ⟨_, Lib.hid rfl⟩
                rw [HN.out] at hrd hR
                have HRX := Lib.hid hR; clear hR
                have RD6 := Lib.hid hrd; clear hrd
                rw [HN.out]
                go_wp2_with fail
                refine (rsame_any N zeroN ta tc none 0 _ RD6.out (RdA.nil _ 1)).mono ?_
                rintro e w7 ⟨rfl, b7⟩
                have L7 := Lib.hid (L6.out.below b7); clear b7
                go_wp2_with fail
                go_ret
                rw [HRX.out]
                exact ⟨rfl, by first | exact L7.out.b | (rw [HP0.out]; exact L7.out.b)⟩
        · have r16 : (n.refH == 0) = false := by simp [h16]
          have r16' : decide (n.refH = 0) = false := by simp [h16]
          have HNM := Lib.hid (show namedB n = true by simp [namedB, h16])
          clear h16
          go_wp2_with fail
          refine (rrightName_any n.refH n.refN _).mono ?_
          rintro e w3 ⟨rfl, b3⟩
          have L3 := Lib.hid (L2.out.below b3); clear b3
          cases hrf : rightNameB n.refH n.refN
          · have hR : wellB f n = false := by simp [wellB, HRS.out, HK.out, HRN.out, HCL.out, HDA.out, HNM.out, hrf]
            have HRX := Lib.hid hR; clear hR
            go_wp2_with fail
            go_ret
            rw [HRX.out]
            exact ⟨rfl, by first | exact L3.out.b | (rw [HP0.out]; exact L3.out.b)⟩
          · have HRF := Lib.hid hrf; clear hrf
            clear k2 k3 k4 k16 k17
            have k4 := note_cells L3.out.e1 4 _ rfl
            simp only [Nat.zero_add] at k4
            have k18 := note_cells L3.out.e1 18 _ rfl
            simp only [Nat.zero_add] at k18
            have c0 := frame_cells L3.out.e0 0 _ rfl
            have c1 := frame_cells L3.out.e0 1 _ rfl
            have c2 := frame_cells L3.out.e0 2 _ rfl
            go_wp2_with   (first
                | (refine wpList_load_row rfl 51 _ rfl p1 rfl 51 (noteA n sa sc) (0, 0) _ L3.out.e1 Tryz.underlying51 rfl (I43.out _ _ _) ?_)
                | (refine wpList_load_rowG ?hw 51 _ rfl p1 rfl 51 (noteA n sa sc) (0, 0) _ L3.out.e1 Tryz.underlying51 rfl (I43.out _ _ _) ?_; case hw => rfl))

            refine (right_any f n sa sc _ HV.out (RDb.out _ L3.out.b) (n.fix)).mono ?_
            rintro e w5 ⟨rfl, b5⟩
            have L5 := Lib.hid (L3.out.below b5); clear b5
            cases hr : rightB f (n.fix) n
            · have hR : wellB f n = false := by simp [wellB, HRS.out, HK.out, HRN.out, HCL.out, HDA.out, HNM.out, HRF.out, hr]
              have HRX := Lib.hid hR; clear hR
              go_wp2_with fail
              go_ret
              rw [HRX.out]
              exact ⟨rfl, by first | exact L5.out.b | (rw [HP0.out]; exact L5.out.b)⟩
            · have HRR := Lib.hid hr; clear hr
              go_wp2_with   (first
                  | (refine wpList_load_row rfl 51 _ rfl p1 rfl 51 (noteA n sa sc) (0, 0) _ L5.out.e1 Tryz.underlying51 rfl (I43.out _ _ _) ?_)
                  | (refine wpList_load_rowG ?hw 51 _ rfl p1 rfl 51 (noteA n sa sc) (0, 0) _ L5.out.e1 Tryz.underlying51 rfl (I43.out _ _ _) ?_; case hw => rfl))

              refine (bare_any n sa sc _ (RDb.out _ L5.out.b) (n.fix)).mono ?_
              rintro e w6 ⟨ta, tc, rfl, hrd, b6⟩
              have L6 := Lib.hid (L5.out.below b6); clear b6
              have hR : wellB f n = sameB (bareR (n.fix) n) zeroN := by simp [wellB, HRS.out, HK.out, HRN.out, HCL.out, HDA.out, HNM.out, HRF.out, HRR.out]
              obtain ⟨N, HN⟩ : ∃ N, Hid (bareR (n.fix) n = N) := ⟨_, Lib.hid rfl⟩
              rw [HN.out] at hrd hR
              have HRX := Lib.hid hR; clear hR
              have RD6 := Lib.hid hrd; clear hrd
              rw [HN.out]
              go_wp2_with fail
              refine (rsame_any N zeroN ta tc none 0 _ RD6.out (RdA.nil _ 1)).mono ?_
              rintro e w7 ⟨rfl, b7⟩
              have L7 := Lib.hid (L6.out.below b7); clear b7
              go_wp2_with fail
              go_ret
              rw [HRX.out]
              exact ⟨rfl, by first | exact L7.out.b | (rw [HP0.out]; exact L7.out.b)⟩
set_option maxHeartbeats 20000000 in
set_option maxRecDepth 100000 in
theorem well_6 (hv : f.valid = true) (hs : RdI w sa n.strokes.length sc n.strokes) (hk : n.kind = 6) :
    Calls Tryz.prog 65 #[f.val, .agg (noteA n sa sc)] w fun e w' => e = .returned (.bool (wellB f n)) ∧ Below w.heap.size w w' := by
  have I43 := Lib.hid (show ∀ (m : NoteV) (a : Option Addr) (c : Nat), (Tryz.prog.info? 51).map (·.size) = some (noteA m a c).size from fun m a c => by kernel_rfl)
  have g1 := heap_at (w.alloc (.cells #[.int .i64 f.rings, .int .i64 f.sectors, .int .i64 f.wide] 23)) (.cells (noteA n sa sc) 51) (w.heap.size + 1) (by simp)
  have g0 := heap_before (w.alloc (.cells #[.int .i64 f.rings, .int .i64 f.sectors, .int .i64 f.wide] 23)) (.cells (noteA n sa sc) 51) _ _ (heap_at w (.cells #[.int .i64 f.rings, .int .i64 f.sectors, .int .i64 f.wide] 23) _ rfl)
  have bb : Below w.heap.size w ((w.alloc (.cells #[.int .i64 f.rings, .int .i64 f.sectors, .int .i64 f.wide] 23)).alloc (.cells (noteA n sa sc) 51)) := ((Below.refl _ _).alloc (Nat.le_refl _) _).alloc (by simp) _
  have L0 : Hid (LocF w ((w.alloc (.cells #[.int .i64 f.rings, .int .i64 f.sectors, .int .i64 f.wide] 23)).alloc (.cells (noteA n sa sc) 51)) w.heap.size (w.heap.size + 1) f n sa sc) := Lib.hid ⟨g0, g1, bb, by omega⟩
  clear g0 g1 bb
  unfold FrV.val
  go_enter Tryz.func65, Tryz.ntmps65
  go_upto_region 1 with fail
  generalize hW0 : (w.alloc (.cells #[.int .i64 f.rings, .int .i64 f.sectors, .int .i64 f.wide] 23)).alloc (.cells (noteA n sa sc) 51) = W0 at *
  generalize hp0 : w.heap.size = p0 at *
  generalize hp1 : p0 + 1 = p1 at *
  have RDb := Lib.hid (show ∀ W', Below p0 w W' → RdI W' sa n.strokes.length sc n.strokes from fun W' h => hs.below (by rw [hp0]; exact h))
  have HP0 := Lib.hid hp0; clear hp0 hp1 hW0
  have HV := Lib.hid hv; clear hv
  have HK := Lib.hid hk; clear hk
  have q2 : (n.kind == 2) = false := by simp [HK.out]
  have q2' : decide (n.kind = 2) = false := by simp [HK.out]
  have q5 : (n.kind == 5) = false := by simp [HK.out]
  have q5' : decide (n.kind = 5) = false := by simp [HK.out]
  have q6 : (n.kind == 6) = true := by simp [HK.out]
  have q6' : decide (n.kind = 6) = true := by simp [HK.out]
  have HRS := Lib.hid (show refersB n = true by simp [refersB, HK.out])
  go_wp2_with   (first
      | (refine wpList_load_row rfl 51 _ rfl p1 rfl 51 (noteA n sa sc) (0, 0) _ L0.out.e1 Tryz.underlying51 rfl (I43.out _ _ _) ?_)
      | (refine wpList_load_rowG ?hw 51 _ rfl p1 rfl 51 (noteA n sa sc) (0, 0) _ L0.out.e1 Tryz.underlying51 rfl (I43.out _ _ _) ?_; case hw => rfl))
  refine (rNameOf_any n sa sc _).mono ?_
  rintro e w1 ⟨rfl, b1⟩
  have L1 := Lib.hid (L0.out.below b1); clear b1
  go_wp2_with fail
  refine (rrightName_any n.house n.num _).mono ?_
  rintro e w2 ⟨rfl, b2⟩
  have L2 := Lib.hid (L1.out.below b2); clear b2
  cases hrn : rightNameB n.house n.num
  · have hR : wellB f n = false := by simp [wellB, HRS.out, HK.out, hrn]
    have HRX := Lib.hid hR; clear hR
    go_wp2_with fail
    go_ret
    rw [HRX.out]
    exact ⟨rfl, by first | exact L2.out.b | (rw [HP0.out]; exact L2.out.b)⟩
  · have HRN := Lib.hid hrn; clear hrn
    have k2 := note_cells L2.out.e1 2 _ rfl
    simp only [Nat.zero_add] at k2
    have k3 := note_cells L2.out.e1 3 _ rfl
    simp only [Nat.zero_add] at k3
    have k4 := note_cells L2.out.e1 4 _ rfl
    simp only [Nat.zero_add] at k4
    have k16 := note_cells L2.out.e1 16 _ rfl
    simp only [Nat.zero_add] at k16
    have k17 := note_cells L2.out.e1 17 _ rfl
    simp only [Nat.zero_add] at k17
    go_wp2_with fail
    refine (rin_any n.clock 1 1099511627776 _).mono ?_
    rintro e w' ⟨rfl, rfl⟩
    cases hcl : inB n.clock 1 1099511627776
    · have hR : wellB f n = false := by simp [wellB, HRS.out, HK.out, HRN.out, hcl]
      have HRX := Lib.hid hR; clear hR
      go_wp2_with fail
      go_ret
      rw [HRX.out]
      exact ⟨rfl, by first | exact L2.out.b | (rw [HP0.out]; exact L2.out.b)⟩
    · have HCL := Lib.hid hcl; clear hcl
      go_wp2_with fail
      refine (rin_any n.day 0 99999 _).mono ?_
      rintro e w' ⟨rfl, rfl⟩
      cases hda : inB n.day 0 99999
      · have hR : wellB f n = false := by simp [wellB, HRS.out, HK.out, HRN.out, HCL.out, hda]
        have HRX := Lib.hid hR; clear hR
        go_wp2_with fail
        go_ret
        rw [HRX.out]
        exact ⟨rfl, by first | exact L2.out.b | (rw [HP0.out]; exact L2.out.b)⟩
      · have HDA := Lib.hid hda; clear hda
        by_cases h16 : n.refH = 0
        · by_cases h17 : n.refN = 0
          · have r16 : (n.refH == 0) = true := by simp [h16]
            have r16' : decide (n.refH = 0) = true := by simp [h16]
            have r17 : (n.refN == 0) = true := by simp [h17]
            have r17' : decide (n.refN = 0) = true := by simp [h17]
            have HNM := Lib.hid (show namedB n = false by simp [namedB, h16, h17])
            clear h16 h17
            have hR : wellB f n = false := by simp [wellB, HRS.out, HK.out, HRN.out, HCL.out, HDA.out, HNM.out]
            have HRX := Lib.hid hR; clear hR
            go_wp2_with fail
            go_ret
            rw [HRX.out]
            exact ⟨rfl, by first | exact L2.out.b | (rw [HP0.out]; exact L2.out.b)⟩
          · have r16 : (n.refH == 0) = true := by simp [h16]
            have r16' : decide (n.refH = 0) = true := by simp [h16]
            have r17 : (n.refN == 0) = false := by simp [h17]
            have r17' : decide (n.refN = 0) = false := by simp [h17]
            have HNM := Lib.hid (show namedB n = true by simp [namedB, h16, h17])
            clear h16 h17
            go_wp2_with fail
            refine (rrightName_any n.refH n.refN _).mono ?_
            rintro e w3 ⟨rfl, b3⟩
            have L3 := Lib.hid (L2.out.below b3); clear b3
            cases hrf : rightNameB n.refH n.refN
            · have hR : wellB f n = false := by simp [wellB, HRS.out, HK.out, HRN.out, HCL.out, HDA.out, HNM.out, hrf]
              have HRX := Lib.hid hR; clear hR
              go_wp2_with fail
              go_ret
              rw [HRX.out]
              exact ⟨rfl, by first | exact L3.out.b | (rw [HP0.out]; exact L3.out.b)⟩
            · have HRF := Lib.hid hrf; clear hrf
              clear k2 k3 k4 k16 k17
              have k4 := note_cells L3.out.e1 4 _ rfl
              simp only [Nat.zero_add] at k4
              by_cases hfx : n.fix = 0
              · have hfx1 : (n.fix == 0) = true := by simp [hfx]
                have hfx2 : decide (n.fix = 0) = true := by simp [hfx]
                have HFX := Lib.hid hfx; clear hfx
                have k18 := note_cells L3.out.e1 18 _ rfl
                simp only [Nat.zero_add] at k18
                go_wp2_with   (first
                    | (refine wpList_load_row rfl 51 _ rfl p1 rfl 51 (noteA n sa sc) (0, 0) _ L3.out.e1 Tryz.underlying51 rfl (I43.out _ _ _) ?_)
                    | (refine wpList_load_rowG ?hw 51 _ rfl p1 rfl 51 (noteA n sa sc) (0, 0) _ L3.out.e1 Tryz.underlying51 rfl (I43.out _ _ _) ?_; case hw => rfl))

                refine (bare_any n sa sc _ (RDb.out _ L3.out.b) (0)).mono ?_
                rintro e w6 ⟨ta, tc, rfl, hrd, b6⟩
                have L6 := Lib.hid (L3.out.below b6); clear b6
                have hR : wellB f n = sameB (bareR (0) n) zeroN := by simp [wellB, HRS.out, HK.out, HRN.out, HCL.out, HDA.out, HNM.out, HRF.out, HFX.out]
                obtain ⟨N, HN⟩ : ∃ N, Hid (bareR (0) n = N) := ⟨_, Lib.hid rfl⟩
                rw [HN.out] at hrd hR
                have HRX := Lib.hid hR; clear hR
                have RD6 := Lib.hid hrd; clear hrd
                rw [HN.out]
                go_wp2_with fail
                refine (rsame_any N zeroN ta tc none 0 _ RD6.out (RdA.nil _ 1)).mono ?_
                rintro e w7 ⟨rfl, b7⟩
                have L7 := Lib.hid (L6.out.below b7); clear b7
                go_wp2_with fail
                go_ret
                rw [HRX.out]
                exact ⟨rfl, by first | exact L7.out.b | (rw [HP0.out]; exact L7.out.b)⟩
              · have hfx1 : (n.fix == 0) = false := by simp [hfx]
                have hfx2 : decide (n.fix = 0) = false := by simp [hfx]
                have HFX := Lib.hid hfx; clear hfx
                have k18 := note_cells L3.out.e1 18 _ rfl
                simp only [Nat.zero_add] at k18
                have hR : wellB f n = false := by simp [wellB, HRS.out, HK.out, HRN.out, HCL.out, HDA.out, HNM.out, HRF.out, HFX.out]
                have HRX := Lib.hid hR; clear hR
                go_wp2_with fail
                go_ret
                rw [HRX.out]
                exact ⟨rfl, by first | exact L3.out.b | (rw [HP0.out]; exact L3.out.b)⟩
        · have r16 : (n.refH == 0) = false := by simp [h16]
          have r16' : decide (n.refH = 0) = false := by simp [h16]
          have HNM := Lib.hid (show namedB n = true by simp [namedB, h16])
          clear h16
          go_wp2_with fail
          refine (rrightName_any n.refH n.refN _).mono ?_
          rintro e w3 ⟨rfl, b3⟩
          have L3 := Lib.hid (L2.out.below b3); clear b3
          cases hrf : rightNameB n.refH n.refN
          · have hR : wellB f n = false := by simp [wellB, HRS.out, HK.out, HRN.out, HCL.out, HDA.out, HNM.out, hrf]
            have HRX := Lib.hid hR; clear hR
            go_wp2_with fail
            go_ret
            rw [HRX.out]
            exact ⟨rfl, by first | exact L3.out.b | (rw [HP0.out]; exact L3.out.b)⟩
          · have HRF := Lib.hid hrf; clear hrf
            clear k2 k3 k4 k16 k17
            have k4 := note_cells L3.out.e1 4 _ rfl
            simp only [Nat.zero_add] at k4
            by_cases hfx : n.fix = 0
            · have hfx1 : (n.fix == 0) = true := by simp [hfx]
              have hfx2 : decide (n.fix = 0) = true := by simp [hfx]
              have HFX := Lib.hid hfx; clear hfx
              have k18 := note_cells L3.out.e1 18 _ rfl
              simp only [Nat.zero_add] at k18
              go_wp2_with   (first
                  | (refine wpList_load_row rfl 51 _ rfl p1 rfl 51 (noteA n sa sc) (0, 0) _ L3.out.e1 Tryz.underlying51 rfl (I43.out _ _ _) ?_)
                  | (refine wpList_load_rowG ?hw 51 _ rfl p1 rfl 51 (noteA n sa sc) (0, 0) _ L3.out.e1 Tryz.underlying51 rfl (I43.out _ _ _) ?_; case hw => rfl))

              refine (bare_any n sa sc _ (RDb.out _ L3.out.b) (0)).mono ?_
              rintro e w6 ⟨ta, tc, rfl, hrd, b6⟩
              have L6 := Lib.hid (L3.out.below b6); clear b6
              have hR : wellB f n = sameB (bareR (0) n) zeroN := by simp [wellB, HRS.out, HK.out, HRN.out, HCL.out, HDA.out, HNM.out, HRF.out, HFX.out]
              obtain ⟨N, HN⟩ : ∃ N, Hid (bareR (0) n = N) := ⟨_, Lib.hid rfl⟩
              rw [HN.out] at hrd hR
              have HRX := Lib.hid hR; clear hR
              have RD6 := Lib.hid hrd; clear hrd
              rw [HN.out]
              go_wp2_with fail
              refine (rsame_any N zeroN ta tc none 0 _ RD6.out (RdA.nil _ 1)).mono ?_
              rintro e w7 ⟨rfl, b7⟩
              have L7 := Lib.hid (L6.out.below b7); clear b7
              go_wp2_with fail
              go_ret
              rw [HRX.out]
              exact ⟨rfl, by first | exact L7.out.b | (rw [HP0.out]; exact L7.out.b)⟩
            · have hfx1 : (n.fix == 0) = false := by simp [hfx]
              have hfx2 : decide (n.fix = 0) = false := by simp [hfx]
              have HFX := Lib.hid hfx; clear hfx
              have k18 := note_cells L3.out.e1 18 _ rfl
              simp only [Nat.zero_add] at k18
              have hR : wellB f n = false := by simp [wellB, HRS.out, HK.out, HRN.out, HCL.out, HDA.out, HNM.out, HRF.out, HFX.out]
              have HRX := Lib.hid hR; clear hR
              go_wp2_with fail
              go_ret
              rw [HRX.out]
              exact ⟨rfl, by first | exact L3.out.b | (rw [HP0.out]; exact L3.out.b)⟩
set_option maxHeartbeats 20000000 in
set_option maxRecDepth 100000 in
theorem well_o (hv : f.valid = true) (hs : RdI w sa n.strokes.length sc n.strokes) (k2 : n.kind ≠ 2) (k5 : n.kind ≠ 5) (k6 : n.kind ≠ 6) :
    Calls Tryz.prog 65 #[f.val, .agg (noteA n sa sc)] w fun e w' => e = .returned (.bool (wellB f n)) ∧ Below w.heap.size w w' := by
  have I43 := Lib.hid (show ∀ (m : NoteV) (a : Option Addr) (c : Nat), (Tryz.prog.info? 51).map (·.size) = some (noteA m a c).size from fun m a c => by kernel_rfl)
  have g1 := heap_at (w.alloc (.cells #[.int .i64 f.rings, .int .i64 f.sectors, .int .i64 f.wide] 23)) (.cells (noteA n sa sc) 51) (w.heap.size + 1) (by simp)
  have g0 := heap_before (w.alloc (.cells #[.int .i64 f.rings, .int .i64 f.sectors, .int .i64 f.wide] 23)) (.cells (noteA n sa sc) 51) _ _ (heap_at w (.cells #[.int .i64 f.rings, .int .i64 f.sectors, .int .i64 f.wide] 23) _ rfl)
  have bb : Below w.heap.size w ((w.alloc (.cells #[.int .i64 f.rings, .int .i64 f.sectors, .int .i64 f.wide] 23)).alloc (.cells (noteA n sa sc) 51)) := ((Below.refl _ _).alloc (Nat.le_refl _) _).alloc (by simp) _
  have L0 : Hid (LocF w ((w.alloc (.cells #[.int .i64 f.rings, .int .i64 f.sectors, .int .i64 f.wide] 23)).alloc (.cells (noteA n sa sc) 51)) w.heap.size (w.heap.size + 1) f n sa sc) := Lib.hid ⟨g0, g1, bb, by omega⟩
  clear g0 g1 bb
  unfold FrV.val
  go_enter Tryz.func65, Tryz.ntmps65
  go_upto_region 1 with fail
  generalize hW0 : (w.alloc (.cells #[.int .i64 f.rings, .int .i64 f.sectors, .int .i64 f.wide] 23)).alloc (.cells (noteA n sa sc) 51) = W0 at *
  generalize hp0 : w.heap.size = p0 at *
  generalize hp1 : p0 + 1 = p1 at *
  have RDb := Lib.hid (show ∀ W', Below p0 w W' → RdI W' sa n.strokes.length sc n.strokes from fun W' h => hs.below (by rw [hp0]; exact h))
  have HP0 := Lib.hid hp0; clear hp0 hp1 hW0
  have HV := Lib.hid hv; clear hv
  have HK := Lib.hid (And.intro k2 (And.intro k5 k6)); clear k2 k5 k6
  have q2 : (n.kind == 2) = false := by simp [HK.out.1]
  have q2' : decide (n.kind = 2) = false := by simp [HK.out.1]
  have q5 : (n.kind == 5) = false := by simp [HK.out.2.1]
  have q5' : decide (n.kind = 5) = false := by simp [HK.out.2.1]
  have q6 : (n.kind == 6) = false := by simp [HK.out.2.2]
  have q6' : decide (n.kind = 6) = false := by simp [HK.out.2.2]
  have HRS := Lib.hid (show refersB n = false by simp [refersB, HK.out.1, HK.out.2.1, HK.out.2.2])
  go_wp2_with   (first
      | (refine wpList_load_row rfl 51 _ rfl p1 rfl 51 (noteA n sa sc) (0, 0) _ L0.out.e1 Tryz.underlying51 rfl (I43.out _ _ _) ?_)
      | (refine wpList_load_rowG ?hw 51 _ rfl p1 rfl 51 (noteA n sa sc) (0, 0) _ L0.out.e1 Tryz.underlying51 rfl (I43.out _ _ _) ?_; case hw => rfl))
  refine (rNameOf_any n sa sc _).mono ?_
  rintro e w1 ⟨rfl, b1⟩
  have L1 := Lib.hid (L0.out.below b1); clear b1
  go_wp2_with fail
  refine (rrightName_any n.house n.num _).mono ?_
  rintro e w2 ⟨rfl, b2⟩
  have L2 := Lib.hid (L1.out.below b2); clear b2
  cases hrn : rightNameB n.house n.num
  · have hR : wellB f n = false := by simp [wellB, HRS.out, HK.out.2.1, HK.out.2.2, hrn]
    have HRX := Lib.hid hR; clear hR
    go_wp2_with fail
    go_ret
    rw [HRX.out]
    exact ⟨rfl, by first | exact L2.out.b | (rw [HP0.out]; exact L2.out.b)⟩
  · have HRN := Lib.hid hrn; clear hrn
    have k2 := note_cells L2.out.e1 2 _ rfl
    simp only [Nat.zero_add] at k2
    have k3 := note_cells L2.out.e1 3 _ rfl
    simp only [Nat.zero_add] at k3
    have k4 := note_cells L2.out.e1 4 _ rfl
    simp only [Nat.zero_add] at k4
    have k16 := note_cells L2.out.e1 16 _ rfl
    simp only [Nat.zero_add] at k16
    have k17 := note_cells L2.out.e1 17 _ rfl
    simp only [Nat.zero_add] at k17
    go_wp2_with fail
    refine (rin_any n.clock 1 1099511627776 _).mono ?_
    rintro e w' ⟨rfl, rfl⟩
    cases hcl : inB n.clock 1 1099511627776
    · have hR : wellB f n = false := by simp [wellB, HRS.out, HK.out.2.1, HK.out.2.2, HRN.out, hcl]
      have HRX := Lib.hid hR; clear hR
      go_wp2_with fail
      go_ret
      rw [HRX.out]
      exact ⟨rfl, by first | exact L2.out.b | (rw [HP0.out]; exact L2.out.b)⟩
    · have HCL := Lib.hid hcl; clear hcl
      go_wp2_with fail
      refine (rin_any n.day 0 99999 _).mono ?_
      rintro e w' ⟨rfl, rfl⟩
      cases hda : inB n.day 0 99999
      · have hR : wellB f n = false := by simp [wellB, HRS.out, HK.out.2.1, HK.out.2.2, HRN.out, HCL.out, hda]
        have HRX := Lib.hid hR; clear hR
        go_wp2_with fail
        go_ret
        rw [HRX.out]
        exact ⟨rfl, by first | exact L2.out.b | (rw [HP0.out]; exact L2.out.b)⟩
      · have HDA := Lib.hid hda; clear hda
        by_cases h16 : n.refH = 0
        · by_cases h17 : n.refN = 0
          · have r16 : (n.refH == 0) = true := by simp [h16]
            have r16' : decide (n.refH = 0) = true := by simp [h16]
            have r17 : (n.refN == 0) = true := by simp [h17]
            have r17' : decide (n.refN = 0) = true := by simp [h17]
            have HNM := Lib.hid (show namedB n = false by simp [namedB, h16, h17])
            clear h16 h17
            by_cases hfx : n.fix = 0
            · have hfx1 : (n.fix == 0) = true := by simp [hfx]
              have hfx2 : decide (n.fix = 0) = true := by simp [hfx]
              have HFX := Lib.hid hfx; clear hfx
              have k18 := note_cells L2.out.e1 18 _ rfl
              simp only [Nat.zero_add] at k18
              have c0 := frame_cells L2.out.e0 0 _ rfl
              have c1 := frame_cells L2.out.e0 1 _ rfl
              have c2 := frame_cells L2.out.e0 2 _ rfl
              go_wp2_with   (first
                  | (refine wpList_load_row rfl 51 _ rfl p1 rfl 51 (noteA n sa sc) (0, 0) _ L2.out.e1 Tryz.underlying51 rfl (I43.out _ _ _) ?_)
                  | (refine wpList_load_rowG ?hw 51 _ rfl p1 rfl 51 (noteA n sa sc) (0, 0) _ L2.out.e1 Tryz.underlying51 rfl (I43.out _ _ _) ?_; case hw => rfl))

              refine (right_any f n sa sc _ HV.out (RDb.out _ L2.out.b) (n.kind)).mono ?_
              rintro e w5 ⟨rfl, b5⟩
              have L5 := Lib.hid (L2.out.below b5); clear b5
              cases hr : rightB f (n.kind) n
              · have hR : wellB f n = false := by simp [wellB, HRS.out, HK.out.2.1, HK.out.2.2, HRN.out, HCL.out, HDA.out, HNM.out, HFX.out, hr]
                have HRX := Lib.hid hR; clear hR
                go_wp2_with fail
                go_ret
                rw [HRX.out]
                exact ⟨rfl, by first | exact L5.out.b | (rw [HP0.out]; exact L5.out.b)⟩
              · have HRR := Lib.hid hr; clear hr
                go_wp2_with   (first
                    | (refine wpList_load_row rfl 51 _ rfl p1 rfl 51 (noteA n sa sc) (0, 0) _ L5.out.e1 Tryz.underlying51 rfl (I43.out _ _ _) ?_)
                    | (refine wpList_load_rowG ?hw 51 _ rfl p1 rfl 51 (noteA n sa sc) (0, 0) _ L5.out.e1 Tryz.underlying51 rfl (I43.out _ _ _) ?_; case hw => rfl))

                refine (bare_any n sa sc _ (RDb.out _ L5.out.b) (n.kind)).mono ?_
                rintro e w6 ⟨ta, tc, rfl, hrd, b6⟩
                have L6 := Lib.hid (L5.out.below b6); clear b6
                have hR : wellB f n = sameB (bareR (n.kind) n) zeroN := by simp [wellB, HRS.out, HK.out.2.1, HK.out.2.2, HRN.out, HCL.out, HDA.out, HNM.out, HFX.out, HRR.out]
                obtain ⟨N, HN⟩ : ∃ N, Hid (bareR (n.kind) n = N) := ⟨_, Lib.hid rfl⟩
                rw [HN.out] at hrd hR
                have HRX := Lib.hid hR; clear hR
                have RD6 := Lib.hid hrd; clear hrd
                rw [HN.out]
                go_wp2_with fail
                refine (rsame_any N zeroN ta tc none 0 _ RD6.out (RdA.nil _ 1)).mono ?_
                rintro e w7 ⟨rfl, b7⟩
                have L7 := Lib.hid (L6.out.below b7); clear b7
                go_wp2_with fail
                go_ret
                rw [HRX.out]
                exact ⟨rfl, by first | exact L7.out.b | (rw [HP0.out]; exact L7.out.b)⟩
            · have hfx1 : (n.fix == 0) = false := by simp [hfx]
              have hfx2 : decide (n.fix = 0) = false := by simp [hfx]
              have HFX := Lib.hid hfx; clear hfx
              have k18 := note_cells L2.out.e1 18 _ rfl
              simp only [Nat.zero_add] at k18
              have hR : wellB f n = false := by simp [wellB, HRS.out, HK.out.2.1, HK.out.2.2, HRN.out, HCL.out, HDA.out, HNM.out, HFX.out]
              have HRX := Lib.hid hR; clear hR
              go_wp2_with fail
              go_ret
              rw [HRX.out]
              exact ⟨rfl, by first | exact L2.out.b | (rw [HP0.out]; exact L2.out.b)⟩
          · have r16 : (n.refH == 0) = true := by simp [h16]
            have r16' : decide (n.refH = 0) = true := by simp [h16]
            have r17 : (n.refN == 0) = false := by simp [h17]
            have r17' : decide (n.refN = 0) = false := by simp [h17]
            have HNM := Lib.hid (show namedB n = true by simp [namedB, h16, h17])
            clear h16 h17
            have hR : wellB f n = false := by simp [wellB, HRS.out, HK.out.2.1, HK.out.2.2, HRN.out, HCL.out, HDA.out, HNM.out]
            have HRX := Lib.hid hR; clear hR
            go_wp2_with fail
            go_ret
            rw [HRX.out]
            exact ⟨rfl, by first | exact L2.out.b | (rw [HP0.out]; exact L2.out.b)⟩
        · have r16 : (n.refH == 0) = false := by simp [h16]
          have r16' : decide (n.refH = 0) = false := by simp [h16]
          have HNM := Lib.hid (show namedB n = true by simp [namedB, h16])
          clear h16
          have hR : wellB f n = false := by simp [wellB, HRS.out, HK.out.2.1, HK.out.2.2, HRN.out, HCL.out, HDA.out, HNM.out]
          have HRX := Lib.hid hR; clear hR
          go_wp2_with fail
          go_ret
          rw [HRX.out]
          exact ⟨rfl, by first | exact L2.out.b | (rw [HP0.out]; exact L2.out.b)⟩
theorem well_any (hv : f.valid = true) (hs : RdI w sa n.strokes.length sc n.strokes) :
    Calls Tryz.prog 65 #[f.val, .agg (noteA n sa sc)] w fun e w' => e = .returned (.bool (wellB f n)) ∧ Below w.heap.size w w' := by
  by_cases k2 : n.kind = 2
  · exact well_2 f n sa sc w hv hs k2
  by_cases k5 : n.kind = 5
  · exact well_5 f n sa sc w hv hs k5
  by_cases k6 : n.kind = 6
  · exact well_6 f n sa sc w hv hs k6
  exact well_o f n sa sc w hv hs k2 k5 k6
end
end Go.Proofs.YtpjiakgfegnmcaaGreat
namespace Go.Proofs.YtpjiakgfegnmcaaGreat
set_option linter.unusedSimpArgs false
open Go.RowKit

theorem rorder_any (x y : Int) (w : World) : Calls Tryz.prog 68 #[.int .i64 x, .int .i64 y] w fun e w' => e = .returned (.int .i64 (cmpI x y)) ∧ w = w' := by
  have hc : cmpI x y = if x < y then -1 else if y < x then 1 else 0 := rfl
  by_cases h1 : x < y
  · have t1 : decide (x < y) = true := by simp [h1]
    rw [if_pos h1] at hc
    have HC := Lib.hid hc; clear hc h1
    go_enter Tryz.func68, Tryz.ntmps68
    go_wp2_with fail
    go_ret
    exact ⟨by rw [HC.out]; rfl, rfl⟩
  · have t1 : decide (x < y) = false := by simp; omega
    rw [if_neg h1] at hc
    by_cases h2 : y < x
    · have t2 : decide (y < x) = true := by simp [h2]
      rw [if_pos h2] at hc
      have HC := Lib.hid hc; clear hc h1 h2
      go_enter Tryz.func68, Tryz.ntmps68
      go_wp2_with fail
      go_ret
      exact ⟨by rw [HC.out]; rfl, rfl⟩
    · have t2 : decide (y < x) = false := by simp; omega
      rw [if_neg h2] at hc
      have HC := Lib.hid hc; clear hc h1 h2
      go_enter Tryz.func68, Tryz.ntmps68
      go_wp2_with fail
      go_ret
      exact ⟨by rw [HC.out]; rfl, rfl⟩
theorem rcmp_any (x m y k : Int) (w : World) : Calls Tryz.prog 66 #[.agg #[.int .i64 x, .int .i64 m], .agg #[.int .i64 y, .int .i64 k]] w fun e w' => e = .returned (.int .i64 (namesC x m y k)) ∧ Below w.heap.size w w' := by
  have g1 := heap_before _ (.cells (#[.int .i64 y, .int .i64 k]) 29) _ _ (heap_last w (.cells (#[.int .i64 x, .int .i64 m]) 29))
  have g2 := heap_at (w.alloc (.cells (#[.int .i64 x, .int .i64 m]) 29)) (.cells (#[.int .i64 y, .int .i64 k]) 29) (w.heap.size + 1) (by simp)
  have bb : Below w.heap.size w ((w.alloc (.cells (#[.int .i64 x, .int .i64 m]) 29)).alloc (.cells (#[.int .i64 y, .int .i64 k]) 29)) := ((Below.refl _ _).alloc (Nat.le_refl _) _).alloc (by simp) _
  have BB := Lib.hid bb; clear bb
  have a0 := cell_of g1 0 (.int .i64 x) rfl
  have a1 := cell_of g1 1 (.int .i64 m) rfl
  have b0 := cell_of g2 0 (.int .i64 y) rfl
  have b1 := cell_of g2 1 (.int .i64 k) rfl
  clear g1 g2
  have hc : namesC x m y k = if cmpI x y = 0 then cmpI m k else cmpI x y := rfl
  have hz := cmpI_zero x y
  by_cases h1 : x = y
  · have t1 : (x != y) = false := by simp [h1]
    rw [if_pos (hz.2 h1)] at hc
    have HC := Lib.hid hc; clear hc h1 hz
    go_enter Tryz.func66, Tryz.ntmps66
    go_wp2_with fail
    refine (rorder_any _ _ _).mono ?_
    rintro e w1 ⟨rfl, rfl⟩
    go_wp2_with fail
    go_ret
    exact ⟨by rw [HC.out]; rfl, BB.out⟩
  · have t1 : (x != y) = true := by simp [h1]
    rw [if_neg (fun h => h1 (hz.1 h))] at hc
    have HC := Lib.hid hc; clear hc h1 hz
    go_enter Tryz.func66, Tryz.ntmps66
    go_wp2_with fail
    refine (rorder_any _ _ _).mono ?_
    rintro e w1 ⟨rfl, rfl⟩
    go_wp2_with fail
    go_ret
    exact ⟨by rw [HC.out]; rfl, BB.out⟩
end Go.Proofs.YtpjiakgfegnmcaaGreat
namespace Go.Proofs.YtpjiakgfegnmcaaGreat
set_option linter.unusedSimpArgs false
set_option linter.unusedVariables false

def FindAt (l : List NoteV) (a : Nm) (i : Int) : Prop := (i = -1 ∧ ∀ x ∈ l, nmOf x ≠ a) ∨ ∃ (j : Nat) (x : NoteV), i = (j : Int) ∧ l[j]? = some x ∧ nmOf x = a
end Go.Proofs.YtpjiakgfegnmcaaGreat
namespace Go.Proofs.YtpjiakgfegnmcaaGreat
set_option linter.unusedSimpArgs false
open Go.RowKit

def FindRet (l : List NoteV) (a : Nm) (e : Ending) : Prop := ∃ i, e = .returned (.int .i64 i) ∧ FindAt l a i
set_option maxHeartbeats 8000000 in
set_option maxRecDepth 100000 in
theorem rfind_any (l : List NoteV) (a : Option Addr) (nn nc : Nat) (h m : Int) (w : World) (hr : RdNs w a nn nc l) (hlen : nn ≤ 1000) :
    Calls Tryz.prog 79 #[.slice a nn nc, .agg #[.int .i64 h, .int .i64 m]] w fun e w' => FindRet l (h, m) e ∧ Below w.heap.size w w' := by
  have J19 : (Tryz.prog.info? 51).map (·.size) = some 19 := by kernel_rfl
  obtain ⟨xs, hxs, hrl⟩ := hr.choose
  have RL := Lib.hid hrl
  have HXS := Lib.hid hxs
  have LNX := Lib.hid hrl.1
  have HLN := Lib.hid hr.1
  clear hr hxs hrl
  have B0 := Lib.hid ((Below.refl w.heap.size w).alloc (Nat.le_refl _) (.cells #[.int .i64 h, .int .i64 m] 29))
  have R0 := Lib.hid (heap_last w (.cells #[.int .i64 h, .int .i64 m] 29))
  go_enter Tryz.func79, Tryz.ntmps79
  go_upto_region 1 with fail
  obtain ⟨p3, hp3⟩ : ∃ p, Hid (w.heap.size = p) := ⟨_, Lib.hid rfl⟩
  rw [hp3.out] at R0 ⊢
  generalize w.alloc (.cells #[.int .i64 h, .int .i64 m] 29) = W0 at *
  go_wp2_with fail
  go_loopw [5] (fun i wr => ∃ k : Nat, i = .int .i64 (k : Int) ∧ k ≤ nn ∧ Hid (∀ j y, j < k → l[j]? = some y → nmOf y ≠ (h, m)) ∧ Hid (Below W0.heap.size W0 wr)) (fun i _ => nn - (intOf i).toNat)
  case atStart => exact ⟨0, rfl, Nat.zero_le _, Lib.hid (fun j y h => by omega), Lib.hid (Below.refl _ _)⟩
  case round =>
    obtain ⟨k, rfl, hk, HA, BB⟩ := hrel
    by_cases hlt : k < nn
    · have t0 : decide ((k : Int) < (nn : Int)) = true := by simp; omega
      obtain ⟨x, Hx⟩ : ∃ x, xs[k]? = some x := ⟨_, List.getElem?_eq_getElem (by rw [LNX.out]; exact hlt)⟩
      have HLX := Lib.hid (show l[k]? = some x.n by rw [← HXS.out, List.getElem?_map, Hx]; rfl)
      obtain ⟨b, off, rfl, hat⟩ := (RL.out.below (B0.out.trans (BB.out.mono B0.out.size))).at (by omega)
      have HX := Lib.hid (hat k x Hx).1
      obtain ⟨o, ho⟩ : ∃ o, Hid (off + k * 19 = o) := ⟨_, Lib.hid rfl⟩
      rw [ho.out] at HX
      have HIX := Lib.hid (fun W => idx_off (W := W) (c := nc) (b := b) Tryz.underlying43 J19 hlt ho.out)
      have hk64 : (k : Int) + 1 ≤ 9223372036854775807 := by omega
      have LR := Lib.hid (show ∀ w0, Below wr.heap.size wr w0 → w0.heap[p3]? = some (.cells #[.int .i64 h, .int .i64 m] 29 (0, 0)) from fun w0 hb => below_blk hb (below_blk BB.out R0.out))
      have LX := Lib.hid (show ∀ w0, Below wr.heap.size wr w0 → w0.rangeAt b o (x.n.cells x.sa x.sc) from fun w0 h => rangeAt_below HX.out h)
      have hC0 : Below wr.heap.size wr wr.drew := (Below.refl _ _).drew
      clear hat Hx
      go_upto_region 4 with fail
      clear t0
      try simp only [Act.put, lq3, lq4, lq5]
      refine wp_region_quiet (C := fun w' : World => Below wr.heap.size wr w') (by kernel_rfl) (by kernel_rfl) hC0 ?_
      show wpQuiet _ _ _ _ (_ :: _) _
      go_big_quiet_want
      go_big_quiet_op
      go_big_quiet_on
      go_big_quiet_want
      go_big_quiet_op
      go_big_quiet_on
      go_big_quiet_want
      refine ⟨.pointer (some ⟨b, o, none⟩), fun w0 hC => ?_, ?_⟩
      · have hix := HIX.out w0
        clear hC
        go_simp
      simp only [Act.put, lq3, lq4, lq5]
      go_big_quiet_on
      go_big_quiet_want
      refine ⟨.agg (noteA x.n x.sa x.sc), fun w0 hC => quiet_load_note (.tmp 14) rfl b o rfl x.n x.sa x.sc (LX.out w0 hC), ?_⟩
      simp only [Act.put, lq3, lq4, lq5]
      go_big_quiet_on
      go_big_quiet_want
      refine ⟨.agg #[.int .i64 x.n.house, .int .i64 x.n.num], fun w0 hC => ?_, ?_⟩
      · go_simp
        refine (rNameOf_any x.n x.sa x.sc w0).mono ?_
        rintro e w1 ⟨rfl, b1⟩
        exact ⟨rfl, hC.trans (b1.mono hC.size)⟩
      simp only [Act.put, lq3, lq4, lq5]
      go_big_quiet_on
      go_big_quiet_want
      refine ⟨.agg #[.int .i64 h, .int .i64 m], fun w0 hC => ?_, ?_⟩
      · have c0 := cell_of (LR.out w0 hC) 0 (.int .i64 h) rfl
        have c1 := cell_of (LR.out w0 hC) 1 (.int .i64 m) rfl
        clear hC
        go_simp
      simp only [Act.put, lq3, lq4, lq5]
      go_big_quiet_on
      go_big_quiet_want
      refine ⟨.bool (decide (x.n.house = h ∧ x.n.num = m)), fun w0 hC => ?_, ?_⟩
      · clear hC
        go_simp
        try (by_cases h1 : x.n.house = h <;> by_cases h2 : x.n.num = m <;> simp [h1, h2])
      simp only [Act.put, lq3, lq4, lq5]
      go_big_quiet_on
      refine wpQuiet_nil ?_
      intro w' hC
      have BB2 := Lib.hid (BB.out.trans (hC.mono BB.out.size))
      clear hC LX LR HX BB
      cases hq : decide (x.n.house = h ∧ x.n.num = m)
      · have NE := Lib.hid (of_decide_eq_false hq)
        clear hq
        go_wp2_with fail
        go_roundw
        case rel => exact ⟨k + 1, by go_num, by omega, Lib.hid (fun i z hi hz => by
          rcases Nat.lt_or_ge i k with h' | h'
          · exact HA.out i z h' hz
          · have e : i = k := by omega
            subst e
            rw [HLX.out] at hz
            cases hz
            exact fun e => NE.out ⟨congrArg Prod.fst e, congrArg Prod.snd e⟩), BB2⟩
        case measure => simp [intOf]; omega
      · have EQ : Hid (FindAt l (h, m) (k : Int)) := Lib.hid (.inr ⟨k, x.n, rfl, HLX.out, Prod.ext (of_decide_eq_true hq).1 (of_decide_eq_true hq).2⟩)
        clear hq
        go_wp2_with fail
        go_ret
        exact ⟨⟨_, rfl, EQ.out⟩, B0.out.trans (BB2.out.mono B0.out.size)⟩
    · have t0 : decide ((k : Int) < (nn : Int)) = false := by simp; omega
      have NI : Hid (FindAt l (h, m) (-1)) := Lib.hid (.inl ⟨rfl, fun x hx => by
        obtain ⟨i, hi⟩ := List.getElem?_of_mem hx
        exact HA.out i _ (by have := (List.getElem?_eq_some_iff.1 hi).1; rw [HLN.out] at this; omega) hi⟩)
      go_wp2_with fail
      go_ret
      exact ⟨⟨_, rfl, NI.out⟩, B0.out.trans (BB.out.mono B0.out.size)⟩
end Go.Proofs.YtpjiakgfegnmcaaGreat
namespace Go.Proofs.YtpjiakgfegnmcaaGreat
set_option linter.unusedSimpArgs false
open Go.RowKit

structure CnAt (w W : World) (p3 p4 p7 : Nat) (A M : Array Value) (ja : Option Addr) (jn jc : Nat) (S : List Value) : Prop where
  bel : Below w.heap.size w W
  e3 : W.heap[p3]? = some (.cells A 51 (0, 0))
  e4 : W.heap[p4]? = some (.cells (noteA zeroN none 0) 51 (0, 0))
  e7 : W.heap[p7]? = some (.cells M 51 (0, 0))
  own : W.ownsRow w.heap.size 3 1 (.slice ja jn jc) jn S
  lt : w.heap.size ≤ p4 ∧ p3 < p7 ∧ p4 < p7
theorem CnAt.put {w W : World} {p3 p4 p7 : Nat} {A M : Array Value} {ja : Option Addr} {jn jc : Nat} {S : List Value} (h : CnAt w W p3 p4 p7 A M ja jn jc S) (j : Nat) (v : Value) : CnAt w (W.setCell ⟨p7, j, none⟩ v) p3 p4 p7 A (M.setIfInBounds j v) ja jn jc S := by
  have g := setCell_grown W p7 j v
  have hl := h.lt
  exact ⟨h.bel.grown g h.bel.size (fun k e => by cases e; omega), grown_blk g h.e3 (fun e => by have := Option.some.inj e; omega), grown_blk g h.e4 (fun e => by have := Option.some.inj e; omega), setCell_at h.e7 j v,
    h.own.kept g (.inr (own_no h.own h.e7 (fun cur h => by simp at h)).symm), h.lt⟩
end Go.Proofs.YtpjiakgfegnmcaaGreat
namespace Go.Proofs.YtpjiakgfegnmcaaGreat
set_option linter.unusedSimpArgs false
open Go.RowKit

structure EvSt (w W : World) (a : Option Addr) (n c : Nat) (es : List EvV) (l : List NoteV) (k : Nat) : Prop where
  bel : Below w.heap.size w W
  own : W.ownsRow w.heap.size 53 21 (.slice a n c) n (evCells es)
  str : ∀ e ∈ es, W.ownsRow w.heap.size 3 1 (.slice e.x.sa e.x.n.strokes.length e.x.sc) e.x.n.strokes.length (e.x.n.strokes.map intV)
  ev : es.map (fun e => e.x.n) = evTo l k
  nm : ∀ e ∈ es, e.nm = nmOf e.x.n
theorem EvSt.below {w W W' : World} {a : Option Addr} {n c : Nat} {es : List EvV} {l : List NoteV} {k : Nat} (h : EvSt w W a n c es l k) (hb : Below W.heap.size W W') : EvSt w W' a n c es l k :=
  ⟨h.bel.trans (hb.mono h.bel.size), own_below h.own hb, fun e he => own_below (h.str e he) hb, h.ev, h.nm⟩
theorem EvSt.rd {w W : World} {a : Option Addr} {n c : Nat} {es : List EvV} {l : List NoteV} {k : Nat} (h : EvSt w W a n c es l k) : RdA W 21 a n c (evCells es) := RdA.of_own h.own
theorem EvSt.ok {w W : World} {a : Option Addr} {n c : Nat} {es : List EvV} {l : List NoteV} {k : Nat} (h : EvSt w W a n c es l k) : ∀ e ∈ es, e.x.ok W := fun e he => RdA.of_own (h.str e he)
theorem EvSt.start (w : World) (l : List NoteV) : EvSt w w none 0 0 [] l 0 := ⟨Below.refl _ _, World.ownsRow_nil _ _ _ _, fun e h => by simp at h, rfl, fun e h => by simp at h⟩
theorem EvSt.len {w W : World} {a : Option Addr} {n c : Nat} {es : List EvV} {l : List NoteV} {k : Nat} (h : EvSt w W a n c es l k) : es.length = n ∧ n ≤ k := by
  have h1 := h.rd.len
  rw [evCells_len] at h1
  have h2 := congrArg List.length h.ev
  rw [List.length_map] at h2
  have h3 := evTo_len l k
  omega
theorem EvSt.skip {w W : World} {a : Option Addr} {n c : Nat} {es : List EvV} {l : List NoteV} {k : Nat} {x : NoteV} (h : EvSt w W a n c es l k) (hx : l[k]? = some x) (hc : countP l x = none) : EvSt w W a n c es l (k + 1) :=
  ⟨h.bel, h.own, h.str, by rw [evTo_none hx hc]; exact h.ev, h.nm⟩
end Go.Proofs.YtpjiakgfegnmcaaGreat
namespace Go.Proofs.YtpjiakgfegnmcaaGreat
set_option linter.unusedSimpArgs false
open Go.RowKit

set_option maxHeartbeats 16000000 in
set_option maxRecDepth 100000 in
theorem rcheckSet_any (f : FrV) (a : Option Addr) (n c : Nat) (l : List NoteV) (w : World) (hr : RdNs w a n c l) :
    Calls Tryz.prog 24 #[f.val, .slice a n c] w fun e w' => e = .returned (.tuple #[.int .i64 (checkSetP f l).1, .int .i64 (checkSetP f l).2]) ∧ Below w.heap.size w w' := by
  have hvl : f.val = .agg #[.int .i64 f.rings, .int .i64 f.sectors, .int .i64 f.wide] := rfl
  have HVL := Lib.hid hvl
  have WELL := Lib.hid (fun (x : NoteV) sa sc (W : World) (hv : f.valid = true) (hs : RdI W sa x.strokes.length sc x.strokes) => formed_well hv x ▸ well_any f x sa sc W hv hs)
  rw [hvl] at WELL ⊢; clear hvl
  have I43 : (Tryz.prog.info? 51).map (·.size) = some 19 := by kernel_rfl
  have hL := Lib.hid hr.1
  have hn63 : n ≤ 9223372036854775807 := by have h1 := hr.2.1; have h2 := hr.2.2.1; unfold maxLen at h2; omega
  have B0 := Lib.hid ((Below.refl w.heap.size w).alloc (Nat.le_refl _) (.cells #[.int .i64 f.rings, .int .i64 f.sectors, .int .i64 f.wide] 23))
  have F0 := Lib.hid (heap_last w (.cells #[.int .i64 f.rings, .int .i64 f.sectors, .int .i64 f.wide] 23))
  have R0 := Lib.hid (hr.below B0.out)
  clear hr
  go_enter Tryz.func24, Tryz.ntmps24
  go_upto_region 1 with fail
  obtain ⟨p, hp⟩ : ∃ p, Hid (w.heap.size = p) := ⟨_, Lib.hid rfl⟩
  rw [hp.out] at F0 ⊢
  generalize w.alloc (.cells #[.int .i64 f.rings, .int .i64 f.sectors, .int .i64 f.wide] 23) = W0 at *
  have c0 := cell_of F0.out 0 (.int .i64 f.rings) rfl
  have c1 := cell_of F0.out 1 (.int .i64 f.sectors) rfl
  have c2 := cell_of F0.out 2 (.int .i64 f.wide) rfl
  go_wp2_with fail
  refine (validFrame_any f.rings f.sectors f.wide _).mono ?_
  rintro e W1 ⟨rfl, b1⟩
  have B1 := Lib.hid (B0.out.trans (b1.mono B0.out.size))
  have F1 := Lib.hid (below_blk b1 F0.out)
  have R1 := Lib.hid (R0.out.below b1)
  clear b1 c0 c1 c2 B0 F0 R0
  cases hv : f.valid
  · have HR := Lib.hid (show checkSetP f l = (1, 0) by unfold checkSetP; rw [hv]; rfl)
    clear hv
    go_wp2_with fail
    go_ret2
    exact ⟨by rw [HR.out]; rfl, B1.out⟩
  · have HV := Lib.hid hv
    clear hv
    by_cases h4 : 400 < n
    · have t4 : decide ((400 : Int) < (n : Int)) = true := by simp; omega
      have HR := Lib.hid (show checkSetP f l = (2, 0) by unfold checkSetP; rw [if_neg (by rw [HV.out]; decide), if_pos (by rw [hL.out]; exact h4)])
      clear h4
      go_wp2_with fail
      go_ret2
      exact ⟨by rw [HR.out]; rfl, B1.out⟩
    · have t4 : decide ((400 : Int) < (n : Int)) = false := by simp; omega
      have HG0 := Lib.hid (show checkSetP f l = setGo f l (n - 0) 0 by unfold checkSetP; rw [if_neg (by rw [HV.out]; decide), if_neg (by rw [hL.out]; exact h4), hL.out, Nat.sub_zero])
      have HN4 : Hid (n ≤ 400) := Lib.hid (by omega)
      clear h4
      go_wp2_with fail
      clear t4
      go_loopw [6, 7] (fun i _ wr => ∃ k : Nat, i = .int .i64 k ∧ k ≤ n ∧ Hid (checkSetP f l = setGo f l (n - k) k) ∧ Hid (Below W1.heap.size W1 wr)) (fun i _ _ => n - (intOf i).toNat)
      case atStart => exact ⟨0, rfl, Nat.zero_le _, HG0, Lib.hid (Below.refl _ _)⟩
      case round =>
        obtain ⟨k, rfl, hk, HG, HB⟩ := hrel
        by_cases hlt : k < n
        · have t0 : decide ((k : Int) < (n : Int)) = true := by simp; omega
          obtain ⟨x, hx⟩ : ∃ x, l[k]? = some x := ⟨_, List.getElem?_eq_getElem (by rw [hL.out]; exact hlt)⟩
          have HX := Lib.hid hx
          obtain ⟨b, off, rfl, hall⟩ := (R1.out.below HB.out).at (by omega)
          obtain ⟨sa, sc, hrange, hrd⟩ := hall k x hx
          have HALL := Lib.hid hall
          obtain ⟨o, ho⟩ : ∃ o, Hid (off + k * 19 = o) := ⟨_, Lib.hid rfl⟩
          rw [ho.out] at hrange
          have HIX := Lib.hid (fun W => idx_off (W := W) (c := c) (b := b) Tryz.underlying43 I43 hlt ho.out)
          have LN := Lib.hid (show ∀ w0, Below wr.heap.size wr w0 → w0.rangeAt b o (x.cells sa sc) from fun w0 hb => rangeAt_below hrange hb)
          have RX := Lib.hid (show ∀ W', Below wr.heap.size wr W' → RdI W' sa x.strokes.length sc x.strokes from fun W' hb => hrd.below hb)
          have LF := Lib.hid (show ∀ w0, Below wr.heap.size wr w0 → w0.heap[p]? = some (.cells #[.int .i64 f.rings, .int .i64 f.sectors, .int .i64 f.wide] 23 (0, 0)) from fun w0 hb => below_blk (HB.out.trans (hb.mono HB.out.size)) F1.out)
          have hC0 : Below wr.heap.size wr wr.drew := (Below.refl _ _).drew
          clear hall hx hrange hrd
          have hk64 : (k : Int) + 1 ≤ 9223372036854775807 := by have := HN4.out; omega
          go_upto_region 8 with fail
          refine wp_region_quiet (C := fun w' : World => Below wr.heap.size wr w') (by kernel_rfl) (by kernel_rfl) hC0 ?_
          show wpQuiet _ _ _ _ (_ :: _) _
          go_big_quiet_want
          refine ⟨.agg #[.int .i64 f.rings, .int .i64 f.sectors, .int .i64 f.wide], fun w0 hC => ?_, ?_⟩
          · have c0 := cell_of (LF.out w0 hC) 0 (.int .i64 f.rings) rfl
            have c1 := cell_of (LF.out w0 hC) 1 (.int .i64 f.sectors) rfl
            have c2 := cell_of (LF.out w0 hC) 2 (.int .i64 f.wide) rfl
            clear hC
            go_simp
          simp only [Act.put, lq3, lq4, lq5]
          go_big_quiet_on
          go_big_quiet_want
          go_big_quiet_op
          go_big_quiet_on
          go_big_quiet_want
          go_big_quiet_op
          go_big_quiet_on
          go_big_quiet_want
          refine ⟨.pointer (some ⟨b, o, none⟩), fun w0 hC => ?_, ?_⟩
          · have hix := HIX.out w0
            clear hC
            go_simp
          simp only [Act.put, lq3, lq4, lq5]
          go_big_quiet_on
          go_big_quiet_want
          refine ⟨.agg (noteA x sa sc), fun w0 hC => quiet_load_note (.tmp 23) rfl b o rfl x sa sc (LN.out w0 hC), ?_⟩
          simp only [Act.put, lq3, lq4, lq5]
          go_big_quiet_on
          go_big_quiet_want
          refine ⟨.bool (formedB f x), fun w0 hC => ?_, ?_⟩
          · go_simp
            refine (WELL.out x sa sc w0 HV.out (RX.out w0 hC)).mono ?_
            rintro e w1 ⟨rfl, b1⟩
            exact ⟨rfl, hC.trans (b1.mono hC.size)⟩
          simp only [Act.put, lq3, lq4, lq5]
          go_big_quiet_on
          cases hf : formedB f x
          · have HR := Lib.hid (show checkSetP f l = (80, k) by rw [HG.out]; exact setGo_some hlt (by unfold setAt; rw [HX.out]; simp only; rw [if_pos hf]))
            clear hf
            go_big_quiet_want
            refine ⟨.bool true, fun w0 hC => ?_, ?_⟩
            · clear hC
              go_simp
            simp only [Act.put, lq3, lq4, lq5]
            go_big_quiet_on
            refine wpQuiet_nil ?_
            intro w' hC
            have BE := Lib.hid (HB.out.trans (hC.mono HB.out.size))
            clear hC
            go_wp2_with fail
            go_ret2
            exact ⟨by rw [HR.out]; rfl, B1.out.trans (BE.out.mono B1.out.size)⟩
          · have HF := Lib.hid hf; clear hf
            go_big_quiet_want
            refine ⟨.bool false, fun w0 hC => ?_, ?_⟩
            · clear hC
              go_simp
            simp only [Act.put, lq3, lq4, lq5]
            go_big_quiet_on
            refine wpQuiet_nil ?_
            intro w' hC
            have BE := Lib.hid (HB.out.trans (hC.mono HB.out.size))
            have HC := Lib.hid hC
            clear hC
            rcases Nat.eq_zero_or_pos k with hk0 | hk0
            · have k0a : ((k : Int) == 0) = true := by rw [hk0]; rfl
              have HR := Lib.hid (show setGo f l (n - k) k = setGo f l (n - (k + 1)) (k + 1) from setGo_none hlt (by unfold setAt; rw [HX.out]; simp only; rw [if_neg (by rw [HF.out]; decide), if_pos hk0]))
              clear hk0
              go_wp2_with fail
              go_roundw
              case rel => exact ⟨k + 1, by go_num, by omega, Lib.hid (by rw [← HR.out]; exact HG.out), BE⟩
              case measure => simp [intOf]; omega
            · have k0a : ((k : Int) == 0) = false := by rw [beq_eq_false_iff_ne]; omega
              have HK0 : Hid (¬ k = 0) := Lib.hid (by omega)
              obtain ⟨j, hkj⟩ : ∃ j, k = j + 1 := ⟨k - 1, by omega⟩
              have hj1 : (k : Int) - 1 = (j : Int) := by omega
              have hjn : j < n := by omega
              have HWJ : Hid (IntKind.i64.wrap (j : Int) = (j : Int)) := Lib.hid (by have := HN4.out; first | (rw [IntKind.wrap_i64]; omega) | (rw [IntKind.wrap_i64]; unfold wrap64; omega))
              obtain ⟨y, hy⟩ : ∃ y, l[j]? = some y := ⟨_, List.getElem?_eq_getElem (by rw [hL.out]; omega)⟩
              obtain ⟨ya, yc, hyr, _⟩ := HALL.out j y hy
              have HY := Lib.hid (show l[k - 1]? = some y by rw [hkj, Nat.add_sub_cancel]; exact hy)
              obtain ⟨oy, hoy⟩ : ∃ oy, Hid (off + j * 19 = oy) := ⟨_, Lib.hid rfl⟩
              rw [hoy.out] at hyr
              have HIY := Lib.hid (fun W => idx_off (W := W) (c := c) (b := b) Tryz.underlying43 I43 hjn hoy.out)
              have LY := Lib.hid (show ∀ w0, Below w'.heap.size w' w0 → w0.rangeAt b oy (y.cells ya yc) from fun w0 hb => rangeAt_below hyr (HC.out.trans (hb.mono HC.out.size)))
              have LX := Lib.hid (show ∀ w0, Below w'.heap.size w' w0 → w0.rangeAt b o (x.cells sa sc) from fun w0 hb => LN.out w0 (HC.out.trans (hb.mono HC.out.size)))
              have hC1 : Below w'.heap.size w' w'.drew := (Below.refl _ _).drew
              clear hy hyr hk0 hkj
              go_upto_region 11 with fail
              clear k0a
              refine wp_region_quiet (C := fun wz : World => Below w'.heap.size w' wz) (by kernel_rfl) (by kernel_rfl) hC1 ?_
              show wpQuiet _ _ _ _ (_ :: _) _
              go_big_quiet_want
              go_big_quiet_op
              go_big_quiet_on
              go_big_quiet_want
              go_big_quiet_op
              go_big_quiet_on
              go_big_quiet_want
              refine ⟨.int .i64 (j : Int), fun w0 hC => ?_, ?_⟩
              · clear hC
                go_simp
                first | done | exact HWJ.out
              simp only [Act.put, lq3, lq4, lq5]
              go_big_quiet_on
              go_big_quiet_want
              refine ⟨.pointer (some ⟨b, oy, none⟩), fun w0 hC => ?_, ?_⟩
              · have hix := HIY.out w0
                clear hC
                go_simp
              simp only [Act.put, lq3, lq4, lq5]
              go_big_quiet_on
              go_big_quiet_want
              refine ⟨.agg (noteA y ya yc), fun w0 hC => quiet_load_note (.tmp 33) rfl b oy rfl y ya yc (LY.out w0 hC), ?_⟩
              simp only [Act.put, lq3, lq4, lq5]
              go_big_quiet_on
              go_big_quiet_want
              refine ⟨.agg #[.int .i64 y.house, .int .i64 y.num], fun w0 hC => ?_, ?_⟩
              · go_simp
                refine (rNameOf_any y ya yc w0).mono ?_
                rintro e w1 ⟨rfl, b1⟩
                exact ⟨rfl, hC.trans (b1.mono hC.size)⟩
              simp only [Act.put, lq3, lq4, lq5]
              go_big_quiet_on
              go_big_quiet_want
              go_big_quiet_op
              go_big_quiet_on
              go_big_quiet_want
              go_big_quiet_op
              go_big_quiet_on
              go_big_quiet_want
              refine ⟨.pointer (some ⟨b, o, none⟩), fun w0 hC => ?_, ?_⟩
              · have hix := HIX.out w0
                clear hC
                go_simp
              simp only [Act.put, lq3, lq4, lq5]
              go_big_quiet_on
              go_big_quiet_want
              refine ⟨.agg (noteA x sa sc), fun w0 hC => quiet_load_note (.tmp 38) rfl b o rfl x sa sc (LX.out w0 hC), ?_⟩
              simp only [Act.put, lq3, lq4, lq5]
              go_big_quiet_on
              go_big_quiet_want
              refine ⟨.agg #[.int .i64 x.house, .int .i64 x.num], fun w0 hC => ?_, ?_⟩
              · go_simp
                refine (rNameOf_any x sa sc w0).mono ?_
                rintro e w1 ⟨rfl, b1⟩
                exact ⟨rfl, hC.trans (b1.mono hC.size)⟩
              simp only [Act.put, lq3, lq4, lq5]
              go_big_quiet_on
              go_big_quiet_want
              refine ⟨.int .i64 (namesC y.house y.num x.house x.num), fun w0 hC => ?_, ?_⟩
              · go_simp
                refine (rcmp_any _ _ _ _ w0).mono ?_
                rintro e w1 ⟨rfl, b1⟩
                exact ⟨rfl, hC.trans (b1.mono hC.size)⟩
              simp only [Act.put, lq3, lq4, lq5]
              go_big_quiet_on
              go_big_quiet_want
              go_big_quiet_op
              go_big_quiet_on
              refine wpQuiet_nil ?_
              intro wz hC
              have BF := Lib.hid (BE.out.trans (hC.mono BE.out.size))
              clear hC
              obtain ⟨z, hz⟩ : ∃ z, Hid (namesC y.house y.num x.house x.num = z) := ⟨_, Lib.hid rfl⟩
              rw [hz.out]
              by_cases hz0 : z = 0
              · have ho1 : (z == 0) = true := by simp [hz0]
                have HR := Lib.hid (show checkSetP f l = (81, k) by rw [HG.out]; exact setGo_some hlt (by unfold setAt; rw [HX.out]; simp only; rw [if_neg (by rw [HF.out]; decide), if_neg HK0.out, HY.out]; simp only; rw [hz.out, if_pos hz0]))
                clear hz0
                go_wp2_with fail
                go_ret2
                exact ⟨by rw [HR.out]; rfl, B1.out.trans (BF.out.mono B1.out.size)⟩
              · have ho1 : (z == 0) = false := by simp [hz0]
                by_cases hz1 : 0 < z
                · have ho2 : decide (0 < z) = true := by simp [hz1]
                  have HR := Lib.hid (show checkSetP f l = (1, k) by rw [HG.out]; exact setGo_some hlt (by unfold setAt; rw [HX.out]; simp only; rw [if_neg (by rw [HF.out]; decide), if_neg HK0.out, HY.out]; simp only; rw [hz.out, if_neg hz0, if_pos hz1]))
                  clear hz0 hz1
                  go_wp2_with fail
                  go_ret2
                  exact ⟨by rw [HR.out]; rfl, B1.out.trans (BF.out.mono B1.out.size)⟩
                · have ho2 : decide (0 < z) = false := by simp; omega
                  have HR := Lib.hid (show setGo f l (n - k) k = setGo f l (n - (k + 1)) (k + 1) from setGo_none hlt (by unfold setAt; rw [HX.out]; simp only; rw [if_neg (by rw [HF.out]; decide), if_neg HK0.out, HY.out]; simp only; rw [hz.out, if_neg hz0, if_neg hz1]))
                  clear hz0 hz1
                  go_wp2_with fail
                  go_roundw
                  case rel => exact ⟨k + 1, by go_num, by omega, Lib.hid (by rw [← HR.out]; exact HG.out), BF⟩
                  case measure => simp [intOf]; omega
        · have hkn : n - k = 0 := by omega
          have HR := Lib.hid (show checkSetP f l = (0, 0) by rw [HG.out, hkn]; rfl)
          have t0 : decide ((k : Int) < (n : Int)) = false := by simp; omega
          go_wp2_with fail
          go_ret2
          exact ⟨by rw [HR.out]; rfl, B1.out.trans (HB.out.mono B1.out.size)⟩
end Go.Proofs.YtpjiakgfegnmcaaGreat
namespace Go.Proofs.YtpjiakgfegnmcaaGreat
set_option linter.unusedSimpArgs false
open Go.RowKit

set_option maxHeartbeats 4000000 in
set_option maxRecDepth 100000 in
theorem risSet_any (f : FrV) (a : Option Addr) (n c : Nat) (l : List NoteV) (w : World) (hr : RdNs w a n c l) :
    Calls Tryz.prog 73 #[f.val, .slice a n c] w fun e w' => e = .returned (.bool ((checkSetP f l).1 == 0)) ∧ Below w.heap.size w w' := by
  have CS := Lib.hid (fun W hb => rcheckSet_any f a n c l W (hr.below (show Below w.heap.size w W from hb)))
  have hvl : f.val = .agg #[.int .i64 f.rings, .int .i64 f.sectors, .int .i64 f.wide] := rfl
  rw [hvl] at CS ⊢
  clear hvl hr
  have B0 := Lib.hid ((Below.refl w.heap.size w).alloc (Nat.le_refl _) (.cells #[.int .i64 f.rings, .int .i64 f.sectors, .int .i64 f.wide] 23))
  have F0 := Lib.hid (heap_last w (.cells #[.int .i64 f.rings, .int .i64 f.sectors, .int .i64 f.wide] 23))
  go_enter Tryz.func73, Tryz.ntmps73
  go_upto_region 1 with fail
  obtain ⟨pF, hpF⟩ : ∃ p, Hid (w.heap.size = p) := ⟨_, Lib.hid rfl⟩
  rw [hpF.out] at F0 ⊢
  generalize w.alloc (.cells #[.int .i64 f.rings, .int .i64 f.sectors, .int .i64 f.wide] 23) = W0 at *
  have c0 := cell_of F0.out 0 (.int .i64 f.rings) rfl
  have c1 := cell_of F0.out 1 (.int .i64 f.sectors) rfl
  have c2 := cell_of F0.out 2 (.int .i64 f.wide) rfl
  go_wp2_with fail
  refine (CS.out W0 B0.out).mono ?_
  clear c0 c1 c2
  rintro e W1 ⟨rfl, b1⟩
  have B1 := Lib.hid (B0.out.trans (b1.mono B0.out.size))
  clear b1
  go_wp2_with fail
  go_ret
  exact ⟨rfl, B1.out⟩
end Go.Proofs.YtpjiakgfegnmcaaGreat
namespace Go.Proofs.YtpjiakgfegnmcaaGreat
set_option linter.unusedSimpArgs false
open Go.RowKit

structure FdAt (V W : World) (p : Nat) (ha : Option Addr) (hc : Nat) (ea : Option Addr) (ec : Nat) (R : RegV) (ba : Option Addr) (bc : Nat) : Prop where
  reg : RegAt V.heap.size W p ha hc ea ec none 0 R.hs R.es []
  same : Same (fun k => k = p) V W
  bad : W.ownsRow V.heap.size 29 2 (.slice ba R.cs.length bc) R.cs.length (nmCells R.cs)
theorem FdAt.below {V W W' : World} {p : Nat} {ha : Option Addr} {hc : Nat} {ea : Option Addr} {ec : Nat} {R : RegV} {ba : Option Addr} {bc : Nat} (h : FdAt V W p ha hc ea ec R ba bc) (hb : Below W.heap.size W W') : FdAt V W' p ha hc ea ec R ba bc :=
  ⟨h.reg.below hb, h.same.trans (Same.of_below hb), own_below h.bad hb⟩
theorem FdAt.addE {V W W' : World} {p : Nat} {ha : Option Addr} {hc : Nat} {ea : Option Addr} {ec : Nat} {hs es : List EvV} {cs : List Nm} {ba : Option Addr} {bc : Nat} {e : EvV} {a' : Option Addr} {c' : Nat} (h : FdAt V W p ha hc ea ec ⟨hs, es, cs⟩ ba bc) (ho : W'.ownsRow V.heap.size 53 21 (.slice a' (es.length + 1) c') (es.length + 1) (evCells es ++ e.cells)) (hg : W.grownBy W' (Value.ownBlock (.slice ea es.length ec))) (hl : a' = ea ∨ a' = some ⟨W.heap.size, 0, none⟩) :
    FdAt V (W'.setCell ⟨p, 1, none⟩ (.slice a' (es.length + 1) c')) p ha hc a' c' ⟨hs, es ++ [e], cs⟩ ba bc := by
  obtain ⟨r1, r2, r3⟩ := h
  have h1 := r1.addE ho hg hl
  have hb2 := grown_blk hg r1.blk (own_no r1.eown r1.blk (by intro cur; simp))
  refine ⟨h1.1, r2.reg (h1.2.weaken (fun k hk => hk.imp id (fun h => (r1.eown.lt k h).1))), ?_⟩
  have h3 := r3.kept hg (own_apart r3 r1.eown (by decide))
  exact h3.kept (setCell_grown W' p 1 _) (.inr (own_no h3 hb2 (by intro cur; simp)).symm)
theorem FdAt.addH {V W W' : World} {p : Nat} {ha : Option Addr} {hc : Nat} {ea : Option Addr} {ec : Nat} {hs es : List EvV} {cs : List Nm} {ba : Option Addr} {bc : Nat} {e : EvV} {a' : Option Addr} {c' : Nat} (h : FdAt V W p ha hc ea ec ⟨hs, es, cs⟩ ba bc) (ho : W'.ownsRow V.heap.size 53 21 (.slice a' (hs.length + 1) c') (hs.length + 1) (evCells hs ++ e.cells)) (hg : W.grownBy W' (Value.ownBlock (.slice ha hs.length hc))) (hl : a' = ha ∨ a' = some ⟨W.heap.size, 0, none⟩) :
    FdAt V (W'.setCell ⟨p, 0, none⟩ (.slice a' (hs.length + 1) c')) p a' c' ea ec ⟨hs ++ [e], es, cs⟩ ba bc := by
  obtain ⟨r1, r2, r3⟩ := h
  have h1 := r1.addH ho hg hl
  have hb2 := grown_blk hg r1.blk (own_no r1.hown r1.blk (by intro cur; simp))
  refine ⟨h1.1, r2.reg (h1.2.weaken (fun k hk => hk.imp id (fun h => (r1.hown.lt k h).1))), ?_⟩
  have h3 := r3.kept hg (own_apart r3 r1.hown (by decide))
  exact h3.kept (setCell_grown W' p 0 _) (.inr (own_no h3 hb2 (by intro cur; simp)).symm)
structure F2At (V W : World) (p : Nat) (h0 h1 : Value) (ca : Option Addr) (cn cc : Nat) (cs : List Nm) : Prop where
  blk : W.heap[p]? = some (.cells #[h0, h1, .slice ca cn cc] 27 (0, 0))
  same : Same (fun k => k = p) V W
  own : W.ownsRow V.heap.size 29 2 (.slice ca cn cc) cn (nmCells cs)
theorem F2At.below {V W W' : World} {p : Nat} {h0 h1 : Value} {ca : Option Addr} {cn cc : Nat} {cs : List Nm} (h : F2At V W p h0 h1 ca cn cc cs) (hb : Below W.heap.size W W') : F2At V W' p h0 h1 ca cn cc cs :=
  ⟨below_blk hb h.blk, h.same.trans (Same.of_below hb), own_below h.own hb⟩
theorem F2At.add {V W W' : World} {p : Nat} {h0 h1 : Value} {ca : Option Addr} {cn cc : Nat} {cs : List Nm} {a : Nm} {a' : Option Addr} {c' : Nat} (h : F2At V W p h0 h1 ca cn cc cs) (ho : W'.ownsRow V.heap.size 29 2 (.slice a' (cn + 1) c') (cn + 1) (nmCells cs ++ [.int .i64 a.1, .int .i64 a.2])) (hg : W.grownBy W' (Value.ownBlock (.slice ca cn cc))) :
    F2At V (W'.setCell ⟨p, 2, none⟩ (.slice a' (cn + 1) c')) p h0 h1 a' (cn + 1) c' (cs ++ [a]) := by
  have hb2 := grown_blk hg h.blk (own_no h.own h.blk (by intro cur; simp))
  have G := setCell_grown W' p 2 (.slice a' (cn + 1) c')
  exact ⟨by rw [setCell_at hb2 2 (.slice a' (cn + 1) c')]; rfl, h.same.reg ((Same.of_grown hg (fun k e => .inr (h.own.lt k e).1)).trans (Same.of_grown G (fun k e => by cases e; exact .inl rfl))), by
    rw [nmCells_snoc]; exact ho.kept G (.inr (own_no ho hb2 (by intro cur; simp)).symm)⟩
def RegOwn (base : Nat) (W : World) (v : Value) (T : RegT) : Prop :=
  ∃ (ha : Option Addr) (hn hc : Nat) (ea : Option Addr) (en ec : Nat) (ca : Option Addr) (cn cc : Nat) (hs es : List EvV), v = .agg #[.slice ha hn hc, .slice ea en ec, .slice ca cn cc] ∧
    W.ownsRow base 53 21 (.slice ha hn hc) hn (evCells hs) ∧ W.ownsRow base 53 21 (.slice ea en ec) en (evCells es) ∧ W.ownsRow base 29 2 (.slice ca cn cc) cn (nmCells T.2.2) ∧
    (∀ e ∈ hs ++ es, W.ownsRow base 3 1 (.slice e.x.sa e.x.n.strokes.length e.x.sc) e.x.n.strokes.length (e.x.n.strokes.map intV)) ∧ hs.map evC = T.1.map evP ∧ es.map evC = T.2.1.map evP
theorem RegOwn.out {base : Nat} {W : World} {v : Value} {T : RegT} (h : RegOwn base W v T) : RegOut W v T := by
  obtain ⟨ha, hn, hc, ea, en, ec, ca, cn, cc, hs, es, rfl, h1, h2, h3, h4, h5, h6⟩ := h
  exact ⟨ha, hn, hc, ea, en, ec, ca, cn, cc, hs, es, rfl, RdEs.of_rd (RdA.of_own h1), RdEs.of_rd (RdA.of_own h2), RdA.of_own h3, fun e he => RdA.of_own (h4 e he), h5, h6⟩
theorem RegOwn.kept {base : Nat} {W W' : World} {v : Value} {T : RegT} {p : Nat} {c : Array Value} (h : RegOwn base W v T) (hg : W.grownBy W' (some p)) (hp : W.heap[p]? = some (.cells c 27 (0, 0))) : RegOwn base W' v T := by
  obtain ⟨ha, hn, hc, ea, en, ec, ca, cn, cc, hs, es, rfl, h1, h2, h3, h4, h5, h6⟩ := h
  exact ⟨ha, hn, hc, ea, en, ec, ca, cn, cc, hs, es, rfl, h1.kept hg (.inr (own_no h1 hp (by intro cur; simp)).symm), h2.kept hg (.inr (own_no h2 hp (by intro cur; simp)).symm), h3.kept hg (.inr (own_no h3 hp (by intro cur; simp)).symm),
    fun e he => (h4 e he).kept hg (.inr (own_no (h4 e he) hp (by intro cur; simp)).symm), h5, h6⟩
end Go.Proofs.YtpjiakgfegnmcaaGreat
namespace Go.Proofs.YtpjiakgfegnmcaaGreat
set_option linter.unusedSimpArgs false
open Go.RowKit

set_option maxHeartbeats 16000000 in
set_option maxRecDepth 100000 in
theorem rfork_any (f : FrV) (a : Option Addr) (nn nc : Nat) (l : List NoteV) (ma : Option Addr) (mn mc : Nat) (m : List NoteV) (w : World) (hr : RdNs w a nn nc l) (hm : RdNs w ma mn mc m) :
    Calls Tryz.prog 41 #[f.val, .slice a nn nc, .slice ma mn mc] w fun e w' => ForkRet f l m e ∧ Below w.heap.size w w' := by
  have J19 : (Tryz.prog.info? 51).map (·.size) = some 19 := by kernel_rfl
  have I2 := Lib.hid (show ∀ (x y : Value), (Tryz.prog.info? 29).map (·.size) = some (#[x, y] : Array Value).size from fun x y => by kernel_rfl)
  have IS := Lib.hid (fun W hb => risSet_any f a nn nc l W (hr.below (show Below w.heap.size w W from hb)))
  have IM := Lib.hid (fun W hb => risSet_any f ma mn mc m W (hm.below (show Below w.heap.size w W from hb)))
  obtain ⟨xs, hxs, hrl⟩ := hr.choose
  have RL := Lib.hid hrl
  have HXS := Lib.hid hxs
  have LNX := Lib.hid hrl.1
  have HLN := Lib.hid hr.1
  have LOK := Lib.hid (show ∀ W, Below w.heap.size w W → ∀ x ∈ xs, x.ok W from fun W hb x hx => (ls_ok hrl hx).below hb)
  obtain ⟨ys, hys, hml⟩ := hm.choose
  have ML := Lib.hid hml
  have HYS := Lib.hid hys
  have LMY := Lib.hid hml.1
  have HMN := Lib.hid hm.1
  have RM := Lib.hid hm
  have MOK := Lib.hid (show ∀ W, Below w.heap.size w W → ∀ x ∈ ys, x.ok W from fun W hb x hx => (ls_ok hml hx).below hb)
  have hvl : f.val = .agg #[.int .i64 f.rings, .int .i64 f.sectors, .int .i64 f.wide] := rfl
  rw [hvl] at IS IM ⊢
  clear hvl hr hm hxs hrl hys hml
  have B0 := Lib.hid (((Below.refl w.heap.size w).alloc (Nat.le_refl _) (.cells #[.int .i64 f.rings, .int .i64 f.sectors, .int .i64 f.wide] 23)).alloc (by simp) (.cells #[.int .i64 0, .int .i64 0] 29))
  have F0 := Lib.hid (heap_before _ (.cells #[.int .i64 0, .int .i64 0] 29) _ _ (heap_last w (.cells #[.int .i64 f.rings, .int .i64 f.sectors, .int .i64 f.wide] 23)))
  have P0 := Lib.hid (heap_at (w.alloc (.cells #[.int .i64 f.rings, .int .i64 f.sectors, .int .i64 f.wide] 23)) (.cells #[.int .i64 0, .int .i64 0] 29) (w.heap.size + 1) (by simp))
  go_enter Tryz.func41, Tryz.ntmps41
  go_upto_region 1 with fail
  obtain ⟨pF, hpF⟩ : ∃ p, Hid (w.heap.size = p) := ⟨_, Lib.hid rfl⟩
  obtain ⟨p4, hp4⟩ : ∃ p, Hid (w.heap.size + 1 = p) := ⟨_, Lib.hid rfl⟩
  have SZ : Hid (w.heap.size ≤ p4) := Lib.hid (by have := hp4.out; omega)
  rw [hpF.out] at F0
  rw [hp4.out] at P0
  rw [hp4.out, hpF.out]
  generalize (w.alloc (.cells #[.int .i64 f.rings, .int .i64 f.sectors, .int .i64 f.wide] 23)).alloc (.cells #[.int .i64 0, .int .i64 0] 29) = W0 at *
  have c0 := cell_of F0.out 0 (.int .i64 f.rings) rfl
  have c1 := cell_of F0.out 1 (.int .i64 f.sectors) rfl
  have c2 := cell_of F0.out 2 (.int .i64 f.wide) rfl
  go_wp2_with fail
  refine (IS.out W0 B0.out).mono ?_
  clear c0 c1 c2
  rintro e W1 ⟨rfl, b1⟩
  have B1 := Lib.hid (B0.out.trans (b1.mono B0.out.size))
  have P1 := Lib.hid (below_blk b1 P0.out)
  have F1 := Lib.hid (below_blk b1 F0.out)
  clear b1 B0 F0 P0
  by_cases hs : (checkSetP f l).1 = 0
  case neg =>
    have t0 : ((checkSetP f l).1 == 0) = false := by simp [hs]
    rw [t0]
    have CE := Lib.hid (forkV_bad (f := f) (l := l) (m := m) (fun h => hs h.1))
    clear hs t0
    go_wp2_with (first
      | (refine wpList_store_blkP rfl 29 _ _ rfl p4 #[.int .i64 0, .int .i64 0] #[.int .i64 0, .int .i64 0] 29 rfl rfl P1.out (I2.out _ _) rfl (by simp [Value.oneCell']) ?_; intro w9 hr1 hr2 hr3)
      | fail)
    have HR1 := Lib.hid hr1
    have HR2 := Lib.hid hr2
    clear hr1 hr2 hr3
    refine bodyPost_ret (results_cell_row_tmp rfl _ _ p4 29 #[.int .i64 0, .int .i64 0] (0, 0) _ rfl HR1.out Tryz.underlying29 rfl (I2.out _ _)) rfl ?_
    exact ⟨by unfold ForkRet; rw [CE.out] <;> rfl, B1.out.grown HR2.out B1.out.size (fun q e => by cases e; exact SZ.out)⟩
  have t0 : ((checkSetP f l).1 == 0) = true := by simp [hs]
  rw [t0]
  have HS := Lib.hid hs
  clear hs t0
  have c0 := cell_of F1.out 0 (.int .i64 f.rings) rfl
  have c1 := cell_of F1.out 1 (.int .i64 f.sectors) rfl
  have c2 := cell_of F1.out 2 (.int .i64 f.wide) rfl
  go_wp2_with fail
  refine (IM.out W1 B1.out).mono ?_
  clear c0 c1 c2
  rintro e W2 ⟨rfl, b1⟩
  have B2 := Lib.hid (B1.out.trans (b1.mono B1.out.size))
  have P2 := Lib.hid (below_blk b1 P1.out)
  clear b1 B1 F1 P1
  by_cases hs : (checkSetP f m).1 = 0
  case neg =>
    have t0 : ((checkSetP f m).1 == 0) = false := by simp [hs]
    rw [t0]
    have CE := Lib.hid (forkV_bad (f := f) (l := l) (m := m) (fun h => hs h.2))
    clear hs t0
    go_wp2_with (first
      | (refine wpList_store_blkP rfl 29 _ _ rfl p4 #[.int .i64 0, .int .i64 0] #[.int .i64 0, .int .i64 0] 29 rfl rfl P2.out (I2.out _ _) rfl (by simp [Value.oneCell']) ?_; intro w9 hr1 hr2 hr3)
      | fail)
    have HR1 := Lib.hid hr1
    have HR2 := Lib.hid hr2
    clear hr1 hr2 hr3
    refine bodyPost_ret (results_cell_row_tmp rfl _ _ p4 29 #[.int .i64 0, .int .i64 0] (0, 0) _ rfl HR1.out Tryz.underlying29 rfl (I2.out _ _)) rfl ?_
    exact ⟨by unfold ForkRet; rw [CE.out] <;> rfl, B2.out.grown HR2.out B2.out.size (fun q e => by cases e; exact SZ.out)⟩
  have t0 : ((checkSetP f m).1 == 0) = true := by simp [hs]
  rw [t0]
  have HS2 := Lib.hid hs
  clear hs t0
  have NDM : Hid ((m.map nmOf).Nodup) := Lib.hid (set_nodup (set_ok HS2.out).2.2.2)
  have HN4 := Lib.hid (show nn ≤ 400 by have := (set_ok HS.out).2.1; rw [HLN.out] at this; exact this)
  have HM4 := Lib.hid (show mn ≤ 400 by have := (set_ok HS2.out).2.1; rw [HMN.out] at this; exact this)
  have hn4 := HN4.out
  go_wp2_with fail
  go_loopw [8] (fun i wr => ∃ (k : Nat), i = .int .i64 (k : Int) ∧ k ≤ nn ∧ Hid (∀ j y, j < k → l[j]? = some y → badB m y = false) ∧ Hid (Below W2.heap.size W2 wr)) (fun i _ => nn - (intOf i).toNat)
  case atStart => exact ⟨0, rfl, Nat.zero_le _, Lib.hid (fun j y h => by omega), Lib.hid (Below.refl _ _)⟩
  case round =>
    obtain ⟨k, rfl, hk, HA, BB⟩ := hrel
    by_cases hlt : k < nn
    · have t0 : decide ((k : Int) < (nn : Int)) = true := by simp; omega
      obtain ⟨x, Hx⟩ : ∃ x, xs[k]? = some x := ⟨_, List.getElem?_eq_getElem (by rw [LNX.out]; exact hlt)⟩
      have HLX := Lib.hid (show l[k]? = some x.n by rw [← HXS.out, List.getElem?_map, Hx]; rfl)
      have BW := Lib.hid (B2.out.trans (BB.out.mono B2.out.size))
      obtain ⟨b, off, rfl, hat⟩ := (RL.out.below BW.out).at (by omega)
      have HX := Lib.hid (hat k x Hx).1
      have XMEM := Lib.hid (List.mem_of_getElem? Hx)
      obtain ⟨o, ho⟩ : ∃ o, Hid (off + k * 19 = o) := ⟨_, Lib.hid rfl⟩
      rw [ho.out] at HX
      have HIX := Lib.hid (fun W => idx_off (W := W) (c := nc) (b := b) Tryz.underlying43 J19 hlt ho.out)
      have HK64 : Hid ((k : Int) + 1 ≤ 9223372036854775807) := Lib.hid (by omega)
      have hix := HIX.out wr
      clear hat Hx
      go_wp2_with (refine wpList_load_mid rfl 51 _ rfl b o rfl (x.n.cells x.sa x.sc) _ HX.out Tryz.underlying51 rfl (size43 x.n x.sa x.sc) ?_)
      refine (rNameOf_any x.n x.sa x.sc wr).mono ?_
      rintro e w3 ⟨rfl, b3⟩
      have BW3 := Lib.hid (BW.out.trans (b3.mono BW.out.size))
      have BB3 := Lib.hid (BB.out.trans (b3.mono BB.out.size))
      have HX3 := Lib.hid (rangeAt_below HX.out b3)
      clear b3 hix HX BW BB
      go_wp2_with fail
      refine (rfind_any m ma mn mc x.n.house x.n.num w3 (RM.out.below BW3.out) (by have := HM4.out; omega)).mono ?_
      rintro e w4 ⟨⟨i, rfl, hf⟩, b4⟩
      have BW4 := Lib.hid (BW3.out.trans (b4.mono BW3.out.size))
      have BB4 := Lib.hid (BB3.out.trans (b4.mono BB3.out.size))
      have HX4 := Lib.hid (rangeAt_below HX3.out b4)
      clear b4 HX3 BW3 BB3
      have hC0 : Below w4.heap.size w4 w4.drew := (Below.refl _ _).drew
      rcases hf with ⟨rfl, hno⟩ | ⟨j, y', rfl, hy, hnm⟩
      · have BAD : Hid (badB m x.n = false) := Lib.hid (badB_no hno)
        clear hno
        go_upto_region 7 with fail
        clear t0
        try simp only [Act.put, lq3, lq4, lq5]
        refine wp_region_quiet (C := fun w' : World => Below w4.heap.size w4 w') (by kernel_rfl) (by kernel_rfl) hC0 ?_
        show wpQuiet _ _ _ _ (_ :: _) _
        go_big_quiet_want
        go_big_quiet_op
        go_big_quiet_on
        go_big_quiet_want
        refine ⟨.bool false, fun w0 hC => ?_, ?_⟩
        · clear hC
          go_simp
        simp only [Act.put, lq3, lq4, lq5]
        go_big_quiet_on
        go_big_quiet_want
        go_big_quiet_op
        go_big_quiet_on
        go_big_quiet_skip
        go_big_quiet_skip
        go_big_quiet_skip
        go_big_quiet_skip
        go_big_quiet_skip
        go_big_quiet_skip
        go_big_quiet_skip
        go_big_quiet_skip
        go_big_quiet_skip
        go_big_quiet_skip
        go_big_quiet_want
        refine ⟨.bool false, fun w0 hC => ?_, ?_⟩
        · clear hC
          go_simp
        simp only [Act.put, lq3, lq4, lq5]
        go_big_quiet_on
        refine wpQuiet_nil ?_
        intro w' hC
        have BB5 := Lib.hid (BB4.out.trans (hC.mono BB4.out.size))
        clear hC
        have hk64 := HK64.out
        go_wp2_with fail
        go_roundw
        case rel => exact ⟨k + 1, by go_num, by omega, Lib.hid (fun i z hi hz => by
          rcases Nat.lt_or_ge i k with h' | h'
          · exact HA.out i z h' hz
          · have e : i = k := by omega
            subst e
            rw [HLX.out] at hz
            cases hz
            exact BAD.out), BB5⟩
        case measure => simp [intOf]; omega
      · obtain ⟨y, Hy⟩ : ∃ y, ys[j]? = some y := by
          have h1 := hy
          rw [← HYS.out, List.getElem?_map] at h1
          cases h2 : ys[j]? with
          | none => rw [h2] at h1; cases h1
          | some y => exact ⟨y, rfl⟩
        have e : y' = y.n := by
          have h1 := hy
          rw [← HYS.out, List.getElem?_map, Hy] at h1
          exact (Option.some.inj h1).symm
        subst e
        have BAD : Hid (badB m x.n = !sameB x.n y.n) := Lib.hid (badB_at NDM.out (List.mem_of_getElem? hy) hnm)
        have hjm : j < mn := by have := (List.getElem?_eq_some_iff.1 Hy).1; rw [LMY.out] at this; exact this
        obtain ⟨b2, off2, rfl, hat2⟩ := (ML.out.below BW4.out).at (by omega)
        obtain ⟨o2, ho2⟩ : ∃ o, Hid (off2 + j * 19 = o) := ⟨_, Lib.hid rfl⟩
        have HY4 := Lib.hid (hat2 j y Hy).1
        rw [ho2.out] at HY4
        have HIY := Lib.hid (fun W => idx_off (W := W) (c := mc) (b := b2) Tryz.underlying43 J19 hjm ho2.out)
        have XOK := Lib.hid (LOK.out w4 BW4.out x XMEM.out)
        have YOK := Lib.hid (MOK.out w4 BW4.out y (List.mem_of_getElem? Hy))
        have LX := Lib.hid (show ∀ w0, Below w4.heap.size w4 w0 → w0.rangeAt b o (x.n.cells x.sa x.sc) from fun w0 h => rangeAt_below HX4.out h)
        have LY := Lib.hid (show ∀ w0, Below w4.heap.size w4 w0 → w0.rangeAt b2 o2 (y.n.cells y.sa y.sc) from fun w0 h => rangeAt_below HY4.out h)
        clear hat2 Hy hy hnm hjm
        go_upto_region 7 with fail
        clear t0
        try simp only [Act.put, lq3, lq4, lq5]
        refine wp_region_quiet (C := fun w' : World => Below w4.heap.size w4 w') (by kernel_rfl) (by kernel_rfl) hC0 ?_
        show wpQuiet _ _ _ _ (_ :: _) _
        go_big_quiet_want
        go_big_quiet_op
        go_big_quiet_on
        go_big_quiet_want
        refine ⟨.bool true, fun w0 hC => ?_, ?_⟩
        · clear hC
          go_simp
        simp only [Act.put, lq3, lq4, lq5]
        go_big_quiet_on
        go_big_quiet_want
        go_big_quiet_op
        go_big_quiet_on
        go_big_quiet_want
        go_big_quiet_op
        go_big_quiet_on
        go_big_quiet_want
        go_big_quiet_op
        go_big_quiet_on
        go_big_quiet_want
        refine ⟨.pointer (some ⟨b, o, none⟩), fun w0 hC => ?_, ?_⟩
        · have hix := HIX.out w0
          clear hC
          go_simp
        simp only [Act.put, lq3, lq4, lq5]
        go_big_quiet_on
        go_big_quiet_want
        refine ⟨.agg (noteA x.n x.sa x.sc), fun w0 hC => quiet_load_note (.tmp 39) rfl b o rfl x.n x.sa x.sc (LX.out w0 hC), ?_⟩
        simp only [Act.put, lq3, lq4, lq5]
        go_big_quiet_on
        go_big_quiet_want
        go_big_quiet_op
        go_big_quiet_on
        go_big_quiet_want
        go_big_quiet_op
        go_big_quiet_on
        go_big_quiet_want
        refine ⟨.pointer (some ⟨b2, o2, none⟩), fun w0 hC => ?_, ?_⟩
        · have hix := HIY.out w0
          clear hC
          go_simp
        simp only [Act.put, lq3, lq4, lq5]
        go_big_quiet_on
        go_big_quiet_want
        refine ⟨.agg (noteA y.n y.sa y.sc), fun w0 hC => quiet_load_note (.tmp 43) rfl b2 o2 rfl y.n y.sa y.sc (LY.out w0 hC), ?_⟩
        simp only [Act.put, lq3, lq4, lq5]
        go_big_quiet_on
        go_big_quiet_want
        refine ⟨.bool (sameB x.n y.n), fun w0 hC => ?_, ?_⟩
        · go_simp
          refine (rsame_any x.n y.n x.sa x.sc y.sa y.sc w0 (XOK.out.below hC) (YOK.out.below hC)).mono ?_
          rintro e w1 ⟨rfl, b1⟩
          exact ⟨rfl, hC.trans (b1.mono hC.size)⟩
        simp only [Act.put, lq3, lq4, lq5]
        go_big_quiet_on
        go_big_quiet_want
        refine ⟨.bool (!sameB x.n y.n), fun w0 hC => ?_, ?_⟩
        · clear hC
          go_simp
        simp only [Act.put, lq3, lq4, lq5]
        go_big_quiet_on
        go_big_quiet_want
        refine ⟨.bool (!sameB x.n y.n), fun w0 hC => ?_, ?_⟩
        · clear hC
          go_simp
        simp only [Act.put, lq3, lq4, lq5]
        go_big_quiet_on
        refine wpQuiet_nil ?_
        intro w' hC
        have BB5 := Lib.hid (BB4.out.trans (hC.mono BB4.out.size))
        have BW5 := Lib.hid (BW4.out.trans (hC.mono BW4.out.size))
        have HX5 := Lib.hid (LX.out w' hC)
        clear hC LX LY XOK YOK HY4 HX4 BB4 BW4
        cases hq : (!sameB x.n y.n)
        · have BN := Lib.hid (BAD.out.trans hq)
          clear hq
          have hk64 := HK64.out
          go_wp2_with fail
          go_roundw
          case rel => exact ⟨k + 1, by go_num, by omega, Lib.hid (fun i z hi hz => by
            rcases Nat.lt_or_ge i k with h' | h'
            · exact HA.out i z h' hz
            · have e : i = k := by omega
              subst e
              rw [HLX.out] at hz
              cases hz
              exact BN.out), BB5⟩
          case measure => simp [intOf]; omega
        · have CE := Lib.hid (forkV_some HS.out HS2.out (forkAt_first HLX.out HA.out (BAD.out.trans hq)))
          clear hq BAD
          have hix := HIX.out w'
          go_wp2_with (refine wpList_load_mid rfl 51 _ rfl b o rfl (x.n.cells x.sa x.sc) _ HX5.out Tryz.underlying51 rfl (size43 x.n x.sa x.sc) ?_)
          refine (rNameOf_any x.n x.sa x.sc w').mono ?_
          rintro e w6 ⟨rfl, b6⟩
          have BW6 := Lib.hid (BW5.out.trans (b6.mono BW5.out.size))
          have PW := Lib.hid (below_blk b6 (below_blk BB5.out P2.out))
          clear b6
          go_wp2_with (first
            | (refine wpList_store_blkP rfl 29 _ _ rfl p4 #[.int .i64 0, .int .i64 0] #[.int .i64 x.n.house, .int .i64 x.n.num] 29 rfl rfl PW.out (I2.out _ _) rfl (by simp [Value.oneCell']) ?_; intro w9 hr1 hr2 hr3)
            | fail)
          have HR1 := Lib.hid hr1
          have HR2 := Lib.hid hr2
          clear hr1 hr2 hr3
          refine bodyPost_ret (results_cell_row_tmp rfl _ _ p4 29 #[.int .i64 x.n.house, .int .i64 x.n.num] (0, 0) _ rfl HR1.out Tryz.underlying29 rfl (I2.out _ _)) rfl ?_
          exact ⟨by unfold ForkRet; rw [CE.out] <;> rfl, BW6.out.grown HR2.out BW6.out.size (fun q e => by cases e; exact SZ.out)⟩
    · have t0 : decide ((k : Int) < (nn : Int)) = false := by simp; omega
      have CE := Lib.hid (forkV_none HS.out HS2.out (forkAt_all (l := l) (m := m) (fun j y hj hy => HA.out j y (by rw [HLN.out] at hj; omega) hy)))
      have PW := Lib.hid (below_blk BB.out P2.out)
      have BW := Lib.hid (B2.out.trans (BB.out.mono B2.out.size))
      go_wp2_with (first
        | (refine wpList_store_blkP rfl 29 _ _ rfl p4 #[.int .i64 0, .int .i64 0] #[.int .i64 0, .int .i64 0] 29 rfl rfl PW.out (I2.out _ _) rfl (by simp [Value.oneCell']) ?_; intro w9 hr1 hr2 hr3)
        | fail)
      have HR1 := Lib.hid hr1
      have HR2 := Lib.hid hr2
      clear hr1 hr2 hr3
      refine bodyPost_ret (results_cell_row_tmp rfl _ _ p4 29 #[.int .i64 0, .int .i64 0] (0, 0) _ rfl HR1.out Tryz.underlying29 rfl (I2.out _ _)) rfl ?_
      exact ⟨by unfold ForkRet; rw [CE.out] <;> rfl, BW.out.grown HR2.out BW.out.size (fun q e => by cases e; exact SZ.out)⟩
end Go.Proofs.YtpjiakgfegnmcaaGreat
