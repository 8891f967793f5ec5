/- Parts of the proof, in this order: The reference's SameNote. -/
import Derived.Deep.Cut
import Derived.Test.YtpjiakgfegnmcaaGreatKPhf9
set_option linter.unusedSimpArgs false
set_option linter.unusedVariables false
open List renaming getElem_toArray → lq0, getElem_cons_succ → lq1, getElem_cons_zero → lq2, setIfInBounds_toArray → lq3, set_cons_zero → lq4, set_cons_succ → lq5
namespace Go.Proofs.YtpjiakgfegnmcaaGreat
open Go.RowKit

theorem same_all {x y : NoteV} : sameB x y = true ↔ (x.house = y.house ∧ x.num = y.num) ∧ (x.clock = y.clock ∧ x.day = y.day ∧ x.kind = y.kind ∧ x.stone = y.stone ∧ x.heap = y.heap ∧ x.turns = y.turns) ∧
    (x.hardLo = y.hardLo ∧ x.hardHi = y.hardHi) ∧ (x.diffLo = y.diffLo ∧ x.diffHi = y.diffHi) ∧ (x.a = y.a ∧ x.b = y.b ∧ x.ring = y.ring) ∧ (x.refH = y.refH ∧ x.refN = y.refN) ∧ x.fix = y.fix ∧ x.strokes = y.strokes := by
  simp only [sameB, nums14]
  grind
theorem bne_no {a b : Int} (h : a = b) : (a != b) = false := by simp [h]
theorem bne_yes {a b : Int} (h : ¬ a = b) : (a != b) = true := by simp [h]
theorem ints_ext {l m : List Int} (hl : l.length = m.length) (h : ∀ j, j < l.length → l[j]?.getD 0 = m[j]?.getD 0) : l = m := by
  apply List.ext_getElem hl
  intro i h1 h2
  have := h i h1
  simpa [List.getElem?_eq_getElem h1, List.getElem?_eq_getElem h2] using this
section
attribute [local go_sem] noteA_0 noteA_1 noteA_2 noteA_3 noteA_4 noteA_5 noteA_6 noteA_7 noteA_8 noteA_9 noteA_10 noteA_11 noteA_12 noteA_13 noteA_14 noteA_15 noteA_16 noteA_17 noteA_18
set_option maxRecDepth 100000 in
set_option maxHeartbeats 4000000 in
theorem rsame_any (x y : NoteV) (sa : Option Addr) (sc : Nat) (ta : Option Addr) (tc : Nat) (w : World) (hx : RdI w sa x.strokes.length sc x.strokes) (hy : RdI w ta y.strokes.length tc y.strokes) :
    Calls Tryz.prog 72 #[.agg (noteA x sa sc), .agg (noteA y ta tc)] w fun e w' => e = .returned (.bool (sameB x y)) ∧ Below w.heap.size w w' := by
  have hlast := heap_last w (.cells (noteA x sa sc) 51)
  have p0 := heap_before (w.alloc (.cells (noteA x sa sc) 51)) (.cells (noteA y ta tc) 51) _ _ hlast
  have q0 : ((w.alloc (.cells (noteA x sa sc) 51)).alloc (.cells (noteA y ta tc) 51)).heap[w.heap.size + 1]? = some (.cells (noteA y ta tc) 51) := by
    have := heap_last (w.alloc (.cells (noteA x sa sc) 51)) (.cells (noteA y ta tc) 51)
    simpa using this
  have hb : Below w.heap.size w ((w.alloc (.cells (noteA x sa sc) 51)).alloc (.cells (noteA y ta tc) 51)) := ((Below.refl _ _).alloc (Nat.le_refl _) _).alloc (by simp) _
  have hp : w.heap.size < ((w.alloc (.cells (noteA x sa sc) 51)).alloc (.cells (noteA y ta tc) 51)).heap.size := by simp; omega
  have hq : w.heap.size + 1 < ((w.alloc (.cells (noteA x sa sc) 51)).alloc (.cells (noteA y ta tc) 51)).heap.size := by simp
  clear hlast
  have H1 := Lib.hid p0; clear p0
  have H2 := Lib.hid q0; clear q0
  have HB := Lib.hid hb; clear hb
  have HP := Lib.hid hp; clear hp
  have HQ := Lib.hid hq; clear hq
  have hbx := hx.below HB.out
  have hby := hy.below HB.out
  have hmx := hx.maxn
  have hmy := hy.maxn
  have hu := Tryz.underlying51
  go_enter Tryz.func72, Tryz.ntmps72
  go_upto_region 1 with fail
  generalize (w.alloc (.cells (noteA x sa sc) 51)).alloc (.cells (noteA y ta tc) 51) = W at *
  generalize hpe : w.heap.size = p at *
  generalize hqe : p + 1 = q at *
  have HPE := Lib.hid hpe; clear hpe
  have HQE := Lib.hid hqe; clear hqe
  have HX := Lib.hid (show ∀ w0, Below W.heap.size W w0 → w0.heap[p]? = some (.cells (noteA x sa sc) 51 (0, 0)) from fun w0 h => (h.block p HP.out).trans H1.out)
  have HY := Lib.hid (show ∀ w0, Below W.heap.size W w0 → w0.heap[q]? = some (.cells (noteA y ta tc) 51 (0, 0)) from fun w0 h => (h.block q HQ.out).trans H2.out)
  have hZ : p ≤ W.heap.size := Nat.le_of_lt HP.out
  have c15 := note_cells (HX.out W (Below.refl _ _)) 15 _ rfl
  have d15 := note_cells (HY.out W (Below.refl _ _)) 15 _ rfl
  simp only [Nat.zero_add] at c15 d15
  have C15 := Lib.hid c15
  have D15 := Lib.hid d15
  by_cases hln : x.strokes.length = y.strokes.length
  · have hbn : ((x.strokes.length : Int) != (y.strokes.length : Int)) = false := by simp [hln]
    generalize hn : x.strokes.length = n at *
    have HN := Lib.hid hn
    have HM := Lib.hid hln
    have hln' : y.strokes.length = n := hln.symm
    rw [hln'] at hby d15
    clear hn hln hmy
    have D15' := Lib.hid d15
    go_wp2_with fail
    clear c15 d15
    go_loopw [5] (fun i wr => ∃ k : Nat, k ≤ n ∧ i = .int .i64 k ∧ Hid (∀ j, j < k → x.strokes[j]?.getD 0 = y.strokes[j]?.getD 0) ∧ Hid (Below W.heap.size W wr)) (fun i _ => n - (intOf i).toNat)
    case atStart => exact ⟨0, Nat.zero_le _, rfl, Lib.hid (fun j hj => by omega), Lib.hid (Below.refl _ _)⟩
    case round =>
      obtain ⟨k, hk, rfl, HRL, HW⟩ := hrel
      have c15 := ((HW.out.cell (p := ⟨p, 15, none⟩) HP.out).trans C15.out)
      have d15 := ((HW.out.cell (p := ⟨q, 15, none⟩) HQ.out).trans D15'.out)
      by_cases hlt : k < n
      · obtain ⟨b, off, rfl, hc⟩ := (hbx.below HW.out).at (by omega)
        obtain ⟨b', off', rfl, hc'⟩ := (hby.below HW.out).at (by omega)
        have e1 := hc k hlt
        have e2 := hc' k hlt
        clear hc hc' hbx hby
        have hk64 : (k : Int) ≤ 9223372036854775807 := by omega
        generalize hX : x.strokes[k]?.getD 0 = X at *
        generalize hY : y.strokes[k]?.getD 0 = Y at *
        have HX1 := Lib.hid hX; clear hX
        have HY1 := Lib.hid hY; clear hY
        by_cases he : X = Y
        · have hb := bne_no he
          have HE := Lib.hid he; clear he
          go_wp2_with fail
          go_quiet (fail)
          go_wp2_with fail
          go_roundw
          case rel => exact ⟨k + 1, by omega, by go_num, Lib.hid fun j hj => by
            rcases Nat.lt_succ_iff_lt_or_eq.1 hj with h | h
            · exact HRL.out j h
            · rw [h, HX1.out, HY1.out]; exact HE.out, Lib.hid (below_drewN HW.out _)⟩
          case measure => simp [intOf]; omega
        · have hb := bne_yes he
          have HE := Lib.hid he; clear he
          have hR : sameB x y = false := by
            rw [← Bool.not_eq_true, same_all]
            intro h
            apply HE.out
            rw [← HX1.out, ← HY1.out, h.2.2.2.2.2.2.2]
          have HR := Lib.hid hR; clear hR
          go_wp2_with fail
          go_quiet (fail)
          go_wp2_with fail
          go_ret
          rw [HR.out]
          exact ⟨rfl, by rw [HPE.out]; exact HB.out.trans ((below_drewN HW.out _).mono hZ)⟩
      · have hkn : k = n := by omega
        subst hkn
        have hst : x.strokes = y.strokes := ints_ext (by rw [HN.out, hln']) (fun j hj => HRL.out j (by rw [HN.out] at hj; exact hj))
        have HST := Lib.hid hst
        clear hst hbx hby
        have hC0 : Below W.heap.size W wr.drew := HW.out.drew
        by_cases h0 : x.house = y.house ∧ x.num = y.num
        · have HD := Lib.hid h0
          clear h0
          by_cases h1 : x.clock = y.clock
          · have q1 := bne_no h1
            have K1 := Lib.hid h1
            clear h1
            by_cases h2 : x.day = y.day
            · have q2 := bne_no h2
              have K2 := Lib.hid h2
              clear h2
              by_cases h3 : x.kind = y.kind
              · have q3 := bne_no h3
                have K3 := Lib.hid h3
                clear h3
                by_cases h4 : x.stone = y.stone
                · have q4 := bne_no h4
                  have K4 := Lib.hid h4
                  clear h4
                  by_cases h5 : x.heap = y.heap
                  · have q5 := bne_no h5
                    have K5 := Lib.hid h5
                    clear h5
                    by_cases h6 : x.turns = y.turns
                    · have q6 := bne_no h6
                      have K6 := Lib.hid h6
                      clear h6
                      go_upto_region 8 with fail
                      refine wp_region_quiet (C := fun w' : World => Below W.heap.size W w') (by kernel_rfl) (by kernel_rfl) hC0 ?_
                      show wpQuiet _ _ _ _ (_ :: _) _
                      go_big_quiet_want
                      refine ⟨.agg (noteA x sa sc), fun w0 hC => quiet_load43 (.tmp 2) rfl p rfl x sa sc (HX.out w0 hC), ?_⟩
                      simp only [Act.put, lq3, lq4, lq5]
                      go_big_quiet_on
                      go_big_quiet_want
                      refine ⟨.agg #[.int .i64 x.house, .int .i64 x.num], fun w0 hC => ?_, ?_⟩
                      · go_simp
                        refine (rNameOf_any x sa sc _).mono ?_; rintro e w1 ⟨rfl, b1⟩; exact ⟨rfl, hC.trans (b1.mono hC.size)⟩
                      simp only [Act.put, lq3, lq4, lq5]
                      go_big_quiet_on
                      go_big_quiet_want
                      refine ⟨.agg (noteA y ta tc), fun w0 hC => quiet_load43 (.tmp 3) rfl q rfl y ta tc (HY.out w0 hC), ?_⟩
                      simp only [Act.put, lq3, lq4, lq5]
                      go_big_quiet_on
                      go_big_quiet_want
                      refine ⟨.agg #[.int .i64 y.house, .int .i64 y.num], fun w0 hC => ?_, ?_⟩
                      · go_simp
                        refine (rNameOf_any y ta tc _).mono ?_; rintro e w1 ⟨rfl, b1⟩; exact ⟨rfl, hC.trans (b1.mono hC.size)⟩
                      simp only [Act.put, lq3, lq4, lq5]
                      go_big_quiet_on
                      go_big_quiet_want
                      refine ⟨.bool false, fun w0 hC => ?_, ?_⟩
                      · clear hC
                        go_simp
                        have h := HD.out
                        simp [h.1, h.2]
                      simp only [Act.put, lq3, lq4, lq5]
                      go_big_quiet_on
                      go_big_quiet_want
                      refine ⟨.bool false, fun w0 hC => ?_, ?_⟩
                      · clear hC
                        go_simp
                      simp only [Act.put, lq3, lq4, lq5]
                      go_big_quiet_on
                      go_big_quiet_want
                      refine ⟨.pointer (some ⟨p, 2, none⟩), fun w0 hC => ?_, ?_⟩
                      · clear hC
                        go_simp
                      simp only [Act.put, lq3, lq4, lq5]
                      go_big_quiet_on
                      go_big_quiet_want
                      refine ⟨.int .i64 x.clock, fun w0 hC => ?_, ?_⟩
                      · have c2 := note_cells (HX.out w0 hC) 2 _ rfl; simp only [Nat.zero_add] at c2
                        clear hC
                        go_simp
                      simp only [Act.put, lq3, lq4, lq5]
                      go_big_quiet_on
                      go_big_quiet_want
                      refine ⟨.pointer (some ⟨q, 2, none⟩), fun w0 hC => ?_, ?_⟩
                      · clear hC
                        go_simp
                      simp only [Act.put, lq3, lq4, lq5]
                      go_big_quiet_on
                      go_big_quiet_want
                      refine ⟨.int .i64 y.clock, fun w0 hC => ?_, ?_⟩
                      · have c2 := note_cells (HY.out w0 hC) 2 _ rfl; simp only [Nat.zero_add] at c2
                        clear hC
                        go_simp
                      simp only [Act.put, lq3, lq4, lq5]
                      go_big_quiet_on
                      go_big_quiet_want
                      refine ⟨.bool false, fun w0 hC => ?_, ?_⟩
                      · clear hC
                        go_simp
                      simp only [Act.put, lq3, lq4, lq5]
                      go_big_quiet_on
                      go_big_quiet_want
                      refine ⟨.bool false, fun w0 hC => ?_, ?_⟩
                      · clear hC
                        go_simp
                      simp only [Act.put, lq3, lq4, lq5]
                      go_big_quiet_on
                      go_big_quiet_want
                      refine ⟨.bool false, fun w0 hC => ?_, ?_⟩
                      · clear hC
                        go_simp
                      simp only [Act.put, lq3, lq4, lq5]
                      go_big_quiet_on
                      go_big_quiet_want
                      refine ⟨.pointer (some ⟨p, 3, none⟩), fun w0 hC => ?_, ?_⟩
                      · clear hC
                        go_simp
                      simp only [Act.put, lq3, lq4, lq5]
                      go_big_quiet_on
                      go_big_quiet_want
                      refine ⟨.int .i64 x.day, fun w0 hC => ?_, ?_⟩
                      · have c3 := note_cells (HX.out w0 hC) 3 _ rfl; simp only [Nat.zero_add] at c3
                        clear hC
                        go_simp
                      simp only [Act.put, lq3, lq4, lq5]
                      go_big_quiet_on
                      go_big_quiet_want
                      refine ⟨.pointer (some ⟨q, 3, none⟩), fun w0 hC => ?_, ?_⟩
                      · clear hC
                        go_simp
                      simp only [Act.put, lq3, lq4, lq5]
                      go_big_quiet_on
                      go_big_quiet_want
                      refine ⟨.int .i64 y.day, fun w0 hC => ?_, ?_⟩
                      · have c3 := note_cells (HY.out w0 hC) 3 _ rfl; simp only [Nat.zero_add] at c3
                        clear hC
                        go_simp
                      simp only [Act.put, lq3, lq4, lq5]
                      go_big_quiet_on
                      go_big_quiet_want
                      refine ⟨.bool false, fun w0 hC => ?_, ?_⟩
                      · clear hC
                        go_simp
                      simp only [Act.put, lq3, lq4, lq5]
                      go_big_quiet_on
                      go_big_quiet_want
                      refine ⟨.bool false, fun w0 hC => ?_, ?_⟩
                      · clear hC
                        go_simp
                      simp only [Act.put, lq3, lq4, lq5]
                      go_big_quiet_on
                      go_big_quiet_want
                      refine ⟨.bool false, fun w0 hC => ?_, ?_⟩
                      · clear hC
                        go_simp
                      simp only [Act.put, lq3, lq4, lq5]
                      go_big_quiet_on
                      go_big_quiet_want
                      refine ⟨.pointer (some ⟨p, 4, none⟩), fun w0 hC => ?_, ?_⟩
                      · clear hC
                        go_simp
                      simp only [Act.put, lq3, lq4, lq5]
                      go_big_quiet_on
                      go_big_quiet_want
                      refine ⟨.int .i64 x.kind, fun w0 hC => ?_, ?_⟩
                      · have c4 := note_cells (HX.out w0 hC) 4 _ rfl; simp only [Nat.zero_add] at c4
                        clear hC
                        go_simp
                      simp only [Act.put, lq3, lq4, lq5]
                      go_big_quiet_on
                      go_big_quiet_want
                      refine ⟨.pointer (some ⟨q, 4, none⟩), fun w0 hC => ?_, ?_⟩
                      · clear hC
                        go_simp
                      simp only [Act.put, lq3, lq4, lq5]
                      go_big_quiet_on
                      go_big_quiet_want
                      refine ⟨.int .i64 y.kind, fun w0 hC => ?_, ?_⟩
                      · have c4 := note_cells (HY.out w0 hC) 4 _ rfl; simp only [Nat.zero_add] at c4
                        clear hC
                        go_simp
                      simp only [Act.put, lq3, lq4, lq5]
                      go_big_quiet_on
                      go_big_quiet_want
                      refine ⟨.bool false, fun w0 hC => ?_, ?_⟩
                      · clear hC
                        go_simp
                      simp only [Act.put, lq3, lq4, lq5]
                      go_big_quiet_on
                      go_big_quiet_want
                      refine ⟨.bool false, fun w0 hC => ?_, ?_⟩
                      · clear hC
                        go_simp
                      simp only [Act.put, lq3, lq4, lq5]
                      go_big_quiet_on
                      go_big_quiet_want
                      refine ⟨.bool false, fun w0 hC => ?_, ?_⟩
                      · clear hC
                        go_simp
                      simp only [Act.put, lq3, lq4, lq5]
                      go_big_quiet_on
                      go_big_quiet_want
                      refine ⟨.pointer (some ⟨p, 5, none⟩), fun w0 hC => ?_, ?_⟩
                      · clear hC
                        go_simp
                      simp only [Act.put, lq3, lq4, lq5]
                      go_big_quiet_on
                      go_big_quiet_want
                      refine ⟨.int .i64 x.stone, fun w0 hC => ?_, ?_⟩
                      · have c5 := note_cells (HX.out w0 hC) 5 _ rfl; simp only [Nat.zero_add] at c5
                        clear hC
                        go_simp
                      simp only [Act.put, lq3, lq4, lq5]
                      go_big_quiet_on
                      go_big_quiet_want
                      refine ⟨.pointer (some ⟨q, 5, none⟩), fun w0 hC => ?_, ?_⟩
                      · clear hC
                        go_simp
                      simp only [Act.put, lq3, lq4, lq5]
                      go_big_quiet_on
                      go_big_quiet_want
                      refine ⟨.int .i64 y.stone, fun w0 hC => ?_, ?_⟩
                      · have c5 := note_cells (HY.out w0 hC) 5 _ rfl; simp only [Nat.zero_add] at c5
                        clear hC
                        go_simp
                      simp only [Act.put, lq3, lq4, lq5]
                      go_big_quiet_on
                      go_big_quiet_want
                      refine ⟨.bool false, fun w0 hC => ?_, ?_⟩
                      · clear hC
                        go_simp
                      simp only [Act.put, lq3, lq4, lq5]
                      go_big_quiet_on
                      go_big_quiet_want
                      refine ⟨.bool false, fun w0 hC => ?_, ?_⟩
                      · clear hC
                        go_simp
                      simp only [Act.put, lq3, lq4, lq5]
                      go_big_quiet_on
                      go_big_quiet_want
                      refine ⟨.bool false, fun w0 hC => ?_, ?_⟩
                      · clear hC
                        go_simp
                      simp only [Act.put, lq3, lq4, lq5]
                      go_big_quiet_on
                      go_big_quiet_want
                      refine ⟨.pointer (some ⟨p, 6, none⟩), fun w0 hC => ?_, ?_⟩
                      · clear hC
                        go_simp
                      simp only [Act.put, lq3, lq4, lq5]
                      go_big_quiet_on
                      go_big_quiet_want
                      refine ⟨.int .i64 x.heap, fun w0 hC => ?_, ?_⟩
                      · have c6 := note_cells (HX.out w0 hC) 6 _ rfl; simp only [Nat.zero_add] at c6
                        clear hC
                        go_simp
                      simp only [Act.put, lq3, lq4, lq5]
                      go_big_quiet_on
                      go_big_quiet_want
                      refine ⟨.pointer (some ⟨q, 6, none⟩), fun w0 hC => ?_, ?_⟩
                      · clear hC
                        go_simp
                      simp only [Act.put, lq3, lq4, lq5]
                      go_big_quiet_on
                      go_big_quiet_want
                      refine ⟨.int .i64 y.heap, fun w0 hC => ?_, ?_⟩
                      · have c6 := note_cells (HY.out w0 hC) 6 _ rfl; simp only [Nat.zero_add] at c6
                        clear hC
                        go_simp
                      simp only [Act.put, lq3, lq4, lq5]
                      go_big_quiet_on
                      go_big_quiet_want
                      refine ⟨.bool false, fun w0 hC => ?_, ?_⟩
                      · clear hC
                        go_simp
                      simp only [Act.put, lq3, lq4, lq5]
                      go_big_quiet_on
                      go_big_quiet_want
                      refine ⟨.bool false, fun w0 hC => ?_, ?_⟩
                      · clear hC
                        go_simp
                      simp only [Act.put, lq3, lq4, lq5]
                      go_big_quiet_on
                      go_big_quiet_want
                      refine ⟨.bool false, fun w0 hC => ?_, ?_⟩
                      · clear hC
                        go_simp
                      simp only [Act.put, lq3, lq4, lq5]
                      go_big_quiet_on
                      go_big_quiet_want
                      refine ⟨.pointer (some ⟨p, 7, none⟩), fun w0 hC => ?_, ?_⟩
                      · clear hC
                        go_simp
                      simp only [Act.put, lq3, lq4, lq5]
                      go_big_quiet_on
                      go_big_quiet_want
                      refine ⟨.int .i64 x.turns, fun w0 hC => ?_, ?_⟩
                      · have c7 := note_cells (HX.out w0 hC) 7 _ rfl; simp only [Nat.zero_add] at c7
                        clear hC
                        go_simp
                      simp only [Act.put, lq3, lq4, lq5]
                      go_big_quiet_on
                      go_big_quiet_want
                      refine ⟨.pointer (some ⟨q, 7, none⟩), fun w0 hC => ?_, ?_⟩
                      · clear hC
                        go_simp
                      simp only [Act.put, lq3, lq4, lq5]
                      go_big_quiet_on
                      go_big_quiet_want
                      refine ⟨.int .i64 y.turns, fun w0 hC => ?_, ?_⟩
                      · have c7 := note_cells (HY.out w0 hC) 7 _ rfl; simp only [Nat.zero_add] at c7
                        clear hC
                        go_simp
                      simp only [Act.put, lq3, lq4, lq5]
                      go_big_quiet_on
                      go_big_quiet_want
                      refine ⟨.bool false, fun w0 hC => ?_, ?_⟩
                      · clear hC
                        go_simp
                      simp only [Act.put, lq3, lq4, lq5]
                      go_big_quiet_on
                      go_big_quiet_want
                      refine ⟨.bool false, fun w0 hC => ?_, ?_⟩
                      · clear hC
                        go_simp
                      simp only [Act.put, lq3, lq4, lq5]
                      go_big_quiet_on
                      refine wpQuiet_nil ?_
                      intro w' hC
                      generalize hw9 : wr = w9 at *
                      have ch0 := note_cells (HX.out w' hC)
                      have dh0 := note_cells (HY.out w' hC)
                      have CH := Lib.hid ch0
                      have DH := Lib.hid dh0
                      clear ch0 dh0
                      have x8 := CH.out 8 _ rfl
                      have x9 := CH.out 9 _ rfl
                      have x10 := CH.out 10 _ rfl
                      have x11 := CH.out 11 _ rfl
                      have x12 := CH.out 12 _ rfl
                      have x13 := CH.out 13 _ rfl
                      have x14 := CH.out 14 _ rfl
                      have x16 := CH.out 16 _ rfl
                      have x17 := CH.out 17 _ rfl
                      have x18 := CH.out 18 _ rfl
                      have y8 := DH.out 8 _ rfl
                      have y9 := DH.out 9 _ rfl
                      have y10 := DH.out 10 _ rfl
                      have y11 := DH.out 11 _ rfl
                      have y12 := DH.out 12 _ rfl
                      have y13 := DH.out 13 _ rfl
                      have y14 := DH.out 14 _ rfl
                      have y16 := DH.out 16 _ rfl
                      have y17 := DH.out 17 _ rfl
                      have y18 := DH.out 18 _ rfl
                      simp only [Nat.zero_add] at x8 x9 x10 x11 x12 x13 x14 x16 x17 x18 y8 y9 y10 y11 y12 y13 y14 y16 y17 y18
                      have HBC := Lib.hid (HB.out.trans (hC.mono hZ))
                      clear hC
                      have hS : sameB x y = (decide (x.hardLo = y.hardLo ∧ x.hardHi = y.hardHi) && (decide (x.diffLo = y.diffLo ∧ x.diffHi = y.diffHi) && (decide (x.a = y.a) && (decide (x.b = y.b) && (decide (x.ring = y.ring) && (decide (x.refH = y.refH ∧ x.refN = y.refN) && decide (x.fix = y.fix))))))) := by
                        rw [Bool.eq_iff_iff, same_all]
                        simp [HD.out, HST.out, K1.out, K2.out, K3.out, K4.out, K5.out, K6.out]
                        grind
                      have HS := Lib.hid hS; clear hS
                      go_wp2_with fail
                      all_goals
                        go_ret
                        rw [HS.out]
                        refine ⟨?_, by rw [HPE.out]; exact HBC.out⟩
                        first | (simp_all only [decide_true, decide_false, Bool.true_and, Bool.false_and, Bool.and_true, Bool.and_false, and_true, true_and, and_false, false_and]; done) | (clear hu HX HY H1 H2 CH DH C15 D15 D15' hx hy; simp [*]; done) | (clear hu HX HY H1 H2 CH DH C15 D15 D15' hx hy; simp [*]; by_cases hh : x.fix = y.fix <;> simp [hh])
                    · have q6 := bne_yes h6
                      have hR : sameB x y = false := by rw [← Bool.not_eq_true, same_all]; intro h; exact h6 h.2.1.2.2.2.2.2
                      have HR := Lib.hid hR; clear hR h6
                      go_upto_region 8 with fail
                      refine wp_region_quiet (C := fun w' : World => Below W.heap.size W w') (by kernel_rfl) (by kernel_rfl) hC0 ?_
                      show wpQuiet _ _ _ _ (_ :: _) _
                      go_big_quiet_want
                      refine ⟨.agg (noteA x sa sc), fun w0 hC => quiet_load43 (.tmp 2) rfl p rfl x sa sc (HX.out w0 hC), ?_⟩
                      simp only [Act.put, lq3, lq4, lq5]
                      go_big_quiet_on
                      go_big_quiet_want
                      refine ⟨.agg #[.int .i64 x.house, .int .i64 x.num], fun w0 hC => ?_, ?_⟩
                      · go_simp
                        refine (rNameOf_any x sa sc _).mono ?_; rintro e w1 ⟨rfl, b1⟩; exact ⟨rfl, hC.trans (b1.mono hC.size)⟩
                      simp only [Act.put, lq3, lq4, lq5]
                      go_big_quiet_on
                      go_big_quiet_want
                      refine ⟨.agg (noteA y ta tc), fun w0 hC => quiet_load43 (.tmp 3) rfl q rfl y ta tc (HY.out w0 hC), ?_⟩
                      simp only [Act.put, lq3, lq4, lq5]
                      go_big_quiet_on
                      go_big_quiet_want
                      refine ⟨.agg #[.int .i64 y.house, .int .i64 y.num], fun w0 hC => ?_, ?_⟩
                      · go_simp
                        refine (rNameOf_any y ta tc _).mono ?_; rintro e w1 ⟨rfl, b1⟩; exact ⟨rfl, hC.trans (b1.mono hC.size)⟩
                      simp only [Act.put, lq3, lq4, lq5]
                      go_big_quiet_on
                      go_big_quiet_want
                      refine ⟨.bool false, fun w0 hC => ?_, ?_⟩
                      · clear hC
                        go_simp
                        have h := HD.out
                        simp [h.1, h.2]
                      simp only [Act.put, lq3, lq4, lq5]
                      go_big_quiet_on
                      go_big_quiet_want
                      refine ⟨.bool false, fun w0 hC => ?_, ?_⟩
                      · clear hC
                        go_simp
                      simp only [Act.put, lq3, lq4, lq5]
                      go_big_quiet_on
                      go_big_quiet_want
                      refine ⟨.pointer (some ⟨p, 2, none⟩), fun w0 hC => ?_, ?_⟩
                      · clear hC
                        go_simp
                      simp only [Act.put, lq3, lq4, lq5]
                      go_big_quiet_on
                      go_big_quiet_want
                      refine ⟨.int .i64 x.clock, fun w0 hC => ?_, ?_⟩
                      · have c2 := note_cells (HX.out w0 hC) 2 _ rfl; simp only [Nat.zero_add] at c2
                        clear hC
                        go_simp
                      simp only [Act.put, lq3, lq4, lq5]
                      go_big_quiet_on
                      go_big_quiet_want
                      refine ⟨.pointer (some ⟨q, 2, none⟩), fun w0 hC => ?_, ?_⟩
                      · clear hC
                        go_simp
                      simp only [Act.put, lq3, lq4, lq5]
                      go_big_quiet_on
                      go_big_quiet_want
                      refine ⟨.int .i64 y.clock, fun w0 hC => ?_, ?_⟩
                      · have c2 := note_cells (HY.out w0 hC) 2 _ rfl; simp only [Nat.zero_add] at c2
                        clear hC
                        go_simp
                      simp only [Act.put, lq3, lq4, lq5]
                      go_big_quiet_on
                      go_big_quiet_want
                      refine ⟨.bool false, fun w0 hC => ?_, ?_⟩
                      · clear hC
                        go_simp
                      simp only [Act.put, lq3, lq4, lq5]
                      go_big_quiet_on
                      go_big_quiet_want
                      refine ⟨.bool false, fun w0 hC => ?_, ?_⟩
                      · clear hC
                        go_simp
                      simp only [Act.put, lq3, lq4, lq5]
                      go_big_quiet_on
                      go_big_quiet_want
                      refine ⟨.bool false, fun w0 hC => ?_, ?_⟩
                      · clear hC
                        go_simp
                      simp only [Act.put, lq3, lq4, lq5]
                      go_big_quiet_on
                      go_big_quiet_want
                      refine ⟨.pointer (some ⟨p, 3, none⟩), fun w0 hC => ?_, ?_⟩
                      · clear hC
                        go_simp
                      simp only [Act.put, lq3, lq4, lq5]
                      go_big_quiet_on
                      go_big_quiet_want
                      refine ⟨.int .i64 x.day, fun w0 hC => ?_, ?_⟩
                      · have c3 := note_cells (HX.out w0 hC) 3 _ rfl; simp only [Nat.zero_add] at c3
                        clear hC
                        go_simp
                      simp only [Act.put, lq3, lq4, lq5]
                      go_big_quiet_on
                      go_big_quiet_want
                      refine ⟨.pointer (some ⟨q, 3, none⟩), fun w0 hC => ?_, ?_⟩
                      · clear hC
                        go_simp
                      simp only [Act.put, lq3, lq4, lq5]
                      go_big_quiet_on
                      go_big_quiet_want
                      refine ⟨.int .i64 y.day, fun w0 hC => ?_, ?_⟩
                      · have c3 := note_cells (HY.out w0 hC) 3 _ rfl; simp only [Nat.zero_add] at c3
                        clear hC
                        go_simp
                      simp only [Act.put, lq3, lq4, lq5]
                      go_big_quiet_on
                      go_big_quiet_want
                      refine ⟨.bool false, fun w0 hC => ?_, ?_⟩
                      · clear hC
                        go_simp
                      simp only [Act.put, lq3, lq4, lq5]
                      go_big_quiet_on
                      go_big_quiet_want
                      refine ⟨.bool false, fun w0 hC => ?_, ?_⟩
                      · clear hC
                        go_simp
                      simp only [Act.put, lq3, lq4, lq5]
                      go_big_quiet_on
                      go_big_quiet_want
                      refine ⟨.bool false, fun w0 hC => ?_, ?_⟩
                      · clear hC
                        go_simp
                      simp only [Act.put, lq3, lq4, lq5]
                      go_big_quiet_on
                      go_big_quiet_want
                      refine ⟨.pointer (some ⟨p, 4, none⟩), fun w0 hC => ?_, ?_⟩
                      · clear hC
                        go_simp
                      simp only [Act.put, lq3, lq4, lq5]
                      go_big_quiet_on
                      go_big_quiet_want
                      refine ⟨.int .i64 x.kind, fun w0 hC => ?_, ?_⟩
                      · have c4 := note_cells (HX.out w0 hC) 4 _ rfl; simp only [Nat.zero_add] at c4
                        clear hC
                        go_simp
                      simp only [Act.put, lq3, lq4, lq5]
                      go_big_quiet_on
                      go_big_quiet_want
                      refine ⟨.pointer (some ⟨q, 4, none⟩), fun w0 hC => ?_, ?_⟩
                      · clear hC
                        go_simp
                      simp only [Act.put, lq3, lq4, lq5]
                      go_big_quiet_on
                      go_big_quiet_want
                      refine ⟨.int .i64 y.kind, fun w0 hC => ?_, ?_⟩
                      · have c4 := note_cells (HY.out w0 hC) 4 _ rfl; simp only [Nat.zero_add] at c4
                        clear hC
                        go_simp
                      simp only [Act.put, lq3, lq4, lq5]
                      go_big_quiet_on
                      go_big_quiet_want
                      refine ⟨.bool false, fun w0 hC => ?_, ?_⟩
                      · clear hC
                        go_simp
                      simp only [Act.put, lq3, lq4, lq5]
                      go_big_quiet_on
                      go_big_quiet_want
                      refine ⟨.bool false, fun w0 hC => ?_, ?_⟩
                      · clear hC
                        go_simp
                      simp only [Act.put, lq3, lq4, lq5]
                      go_big_quiet_on
                      go_big_quiet_want
                      refine ⟨.bool false, fun w0 hC => ?_, ?_⟩
                      · clear hC
                        go_simp
                      simp only [Act.put, lq3, lq4, lq5]
                      go_big_quiet_on
                      go_big_quiet_want
                      refine ⟨.pointer (some ⟨p, 5, none⟩), fun w0 hC => ?_, ?_⟩
                      · clear hC
                        go_simp
                      simp only [Act.put, lq3, lq4, lq5]
                      go_big_quiet_on
                      go_big_quiet_want
                      refine ⟨.int .i64 x.stone, fun w0 hC => ?_, ?_⟩
                      · have c5 := note_cells (HX.out w0 hC) 5 _ rfl; simp only [Nat.zero_add] at c5
                        clear hC
                        go_simp
                      simp only [Act.put, lq3, lq4, lq5]
                      go_big_quiet_on
                      go_big_quiet_want
                      refine ⟨.pointer (some ⟨q, 5, none⟩), fun w0 hC => ?_, ?_⟩
                      · clear hC
                        go_simp
                      simp only [Act.put, lq3, lq4, lq5]
                      go_big_quiet_on
                      go_big_quiet_want
                      refine ⟨.int .i64 y.stone, fun w0 hC => ?_, ?_⟩
                      · have c5 := note_cells (HY.out w0 hC) 5 _ rfl; simp only [Nat.zero_add] at c5
                        clear hC
                        go_simp
                      simp only [Act.put, lq3, lq4, lq5]
                      go_big_quiet_on
                      go_big_quiet_want
                      refine ⟨.bool false, fun w0 hC => ?_, ?_⟩
                      · clear hC
                        go_simp
                      simp only [Act.put, lq3, lq4, lq5]
                      go_big_quiet_on
                      go_big_quiet_want
                      refine ⟨.bool false, fun w0 hC => ?_, ?_⟩
                      · clear hC
                        go_simp
                      simp only [Act.put, lq3, lq4, lq5]
                      go_big_quiet_on
                      go_big_quiet_want
                      refine ⟨.bool false, fun w0 hC => ?_, ?_⟩
                      · clear hC
                        go_simp
                      simp only [Act.put, lq3, lq4, lq5]
                      go_big_quiet_on
                      go_big_quiet_want
                      refine ⟨.pointer (some ⟨p, 6, none⟩), fun w0 hC => ?_, ?_⟩
                      · clear hC
                        go_simp
                      simp only [Act.put, lq3, lq4, lq5]
                      go_big_quiet_on
                      go_big_quiet_want
                      refine ⟨.int .i64 x.heap, fun w0 hC => ?_, ?_⟩
                      · have c6 := note_cells (HX.out w0 hC) 6 _ rfl; simp only [Nat.zero_add] at c6
                        clear hC
                        go_simp
                      simp only [Act.put, lq3, lq4, lq5]
                      go_big_quiet_on
                      go_big_quiet_want
                      refine ⟨.pointer (some ⟨q, 6, none⟩), fun w0 hC => ?_, ?_⟩
                      · clear hC
                        go_simp
                      simp only [Act.put, lq3, lq4, lq5]
                      go_big_quiet_on
                      go_big_quiet_want
                      refine ⟨.int .i64 y.heap, fun w0 hC => ?_, ?_⟩
                      · have c6 := note_cells (HY.out w0 hC) 6 _ rfl; simp only [Nat.zero_add] at c6
                        clear hC
                        go_simp
                      simp only [Act.put, lq3, lq4, lq5]
                      go_big_quiet_on
                      go_big_quiet_want
                      refine ⟨.bool false, fun w0 hC => ?_, ?_⟩
                      · clear hC
                        go_simp
                      simp only [Act.put, lq3, lq4, lq5]
                      go_big_quiet_on
                      go_big_quiet_want
                      refine ⟨.bool false, fun w0 hC => ?_, ?_⟩
                      · clear hC
                        go_simp
                      simp only [Act.put, lq3, lq4, lq5]
                      go_big_quiet_on
                      go_big_quiet_want
                      refine ⟨.bool false, fun w0 hC => ?_, ?_⟩
                      · clear hC
                        go_simp
                      simp only [Act.put, lq3, lq4, lq5]
                      go_big_quiet_on
                      go_big_quiet_want
                      refine ⟨.pointer (some ⟨p, 7, none⟩), fun w0 hC => ?_, ?_⟩
                      · clear hC
                        go_simp
                      simp only [Act.put, lq3, lq4, lq5]
                      go_big_quiet_on
                      go_big_quiet_want
                      refine ⟨.int .i64 x.turns, fun w0 hC => ?_, ?_⟩
                      · have c7 := note_cells (HX.out w0 hC) 7 _ rfl; simp only [Nat.zero_add] at c7
                        clear hC
                        go_simp
                      simp only [Act.put, lq3, lq4, lq5]
                      go_big_quiet_on
                      go_big_quiet_want
                      refine ⟨.pointer (some ⟨q, 7, none⟩), fun w0 hC => ?_, ?_⟩
                      · clear hC
                        go_simp
                      simp only [Act.put, lq3, lq4, lq5]
                      go_big_quiet_on
                      go_big_quiet_want
                      refine ⟨.int .i64 y.turns, fun w0 hC => ?_, ?_⟩
                      · have c7 := note_cells (HY.out w0 hC) 7 _ rfl; simp only [Nat.zero_add] at c7
                        clear hC
                        go_simp
                      simp only [Act.put, lq3, lq4, lq5]
                      go_big_quiet_on
                      go_big_quiet_want
                      refine ⟨.bool true, fun w0 hC => ?_, ?_⟩
                      · clear hC
                        go_simp
                      simp only [Act.put, lq3, lq4, lq5]
                      go_big_quiet_on
                      go_big_quiet_want
                      refine ⟨.bool true, fun w0 hC => ?_, ?_⟩
                      · clear hC
                        go_simp
                      simp only [Act.put, lq3, lq4, lq5]
                      go_big_quiet_on
                      refine wpQuiet_nil ?_
                      intro w' hC
                      go_wp2_with fail
                      go_ret
                      rw [HR.out]
                      exact ⟨rfl, by rw [HPE.out]; exact HB.out.trans (hC.mono hZ)⟩
                  · have q5 := bne_yes h5
                    have hR : sameB x y = false := by rw [← Bool.not_eq_true, same_all]; intro h; exact h5 h.2.1.2.2.2.2.1
                    have HR := Lib.hid hR; clear hR h5
                    go_upto_region 8 with fail
                    refine wp_region_quiet (C := fun w' : World => Below W.heap.size W w') (by kernel_rfl) (by kernel_rfl) hC0 ?_
                    show wpQuiet _ _ _ _ (_ :: _) _
                    go_big_quiet_want
                    refine ⟨.agg (noteA x sa sc), fun w0 hC => quiet_load43 (.tmp 2) rfl p rfl x sa sc (HX.out w0 hC), ?_⟩
                    simp only [Act.put, lq3, lq4, lq5]
                    go_big_quiet_on
                    go_big_quiet_want
                    refine ⟨.agg #[.int .i64 x.house, .int .i64 x.num], fun w0 hC => ?_, ?_⟩
                    · go_simp
                      refine (rNameOf_any x sa sc _).mono ?_; rintro e w1 ⟨rfl, b1⟩; exact ⟨rfl, hC.trans (b1.mono hC.size)⟩
                    simp only [Act.put, lq3, lq4, lq5]
                    go_big_quiet_on
                    go_big_quiet_want
                    refine ⟨.agg (noteA y ta tc), fun w0 hC => quiet_load43 (.tmp 3) rfl q rfl y ta tc (HY.out w0 hC), ?_⟩
                    simp only [Act.put, lq3, lq4, lq5]
                    go_big_quiet_on
                    go_big_quiet_want
                    refine ⟨.agg #[.int .i64 y.house, .int .i64 y.num], fun w0 hC => ?_, ?_⟩
                    · go_simp
                      refine (rNameOf_any y ta tc _).mono ?_; rintro e w1 ⟨rfl, b1⟩; exact ⟨rfl, hC.trans (b1.mono hC.size)⟩
                    simp only [Act.put, lq3, lq4, lq5]
                    go_big_quiet_on
                    go_big_quiet_want
                    refine ⟨.bool false, fun w0 hC => ?_, ?_⟩
                    · clear hC
                      go_simp
                      have h := HD.out
                      simp [h.1, h.2]
                    simp only [Act.put, lq3, lq4, lq5]
                    go_big_quiet_on
                    go_big_quiet_want
                    refine ⟨.bool false, fun w0 hC => ?_, ?_⟩
                    · clear hC
                      go_simp
                    simp only [Act.put, lq3, lq4, lq5]
                    go_big_quiet_on
                    go_big_quiet_want
                    refine ⟨.pointer (some ⟨p, 2, none⟩), fun w0 hC => ?_, ?_⟩
                    · clear hC
                      go_simp
                    simp only [Act.put, lq3, lq4, lq5]
                    go_big_quiet_on
                    go_big_quiet_want
                    refine ⟨.int .i64 x.clock, fun w0 hC => ?_, ?_⟩
                    · have c2 := note_cells (HX.out w0 hC) 2 _ rfl; simp only [Nat.zero_add] at c2
                      clear hC
                      go_simp
                    simp only [Act.put, lq3, lq4, lq5]
                    go_big_quiet_on
                    go_big_quiet_want
                    refine ⟨.pointer (some ⟨q, 2, none⟩), fun w0 hC => ?_, ?_⟩
                    · clear hC
                      go_simp
                    simp only [Act.put, lq3, lq4, lq5]
                    go_big_quiet_on
                    go_big_quiet_want
                    refine ⟨.int .i64 y.clock, fun w0 hC => ?_, ?_⟩
                    · have c2 := note_cells (HY.out w0 hC) 2 _ rfl; simp only [Nat.zero_add] at c2
                      clear hC
                      go_simp
                    simp only [Act.put, lq3, lq4, lq5]
                    go_big_quiet_on
                    go_big_quiet_want
                    refine ⟨.bool false, fun w0 hC => ?_, ?_⟩
                    · clear hC
                      go_simp
                    simp only [Act.put, lq3, lq4, lq5]
                    go_big_quiet_on
                    go_big_quiet_want
                    refine ⟨.bool false, fun w0 hC => ?_, ?_⟩
                    · clear hC
                      go_simp
                    simp only [Act.put, lq3, lq4, lq5]
                    go_big_quiet_on
                    go_big_quiet_want
                    refine ⟨.bool false, fun w0 hC => ?_, ?_⟩
                    · clear hC
                      go_simp
                    simp only [Act.put, lq3, lq4, lq5]
                    go_big_quiet_on
                    go_big_quiet_want
                    refine ⟨.pointer (some ⟨p, 3, none⟩), fun w0 hC => ?_, ?_⟩
                    · clear hC
                      go_simp
                    simp only [Act.put, lq3, lq4, lq5]
                    go_big_quiet_on
                    go_big_quiet_want
                    refine ⟨.int .i64 x.day, fun w0 hC => ?_, ?_⟩
                    · have c3 := note_cells (HX.out w0 hC) 3 _ rfl; simp only [Nat.zero_add] at c3
                      clear hC
                      go_simp
                    simp only [Act.put, lq3, lq4, lq5]
                    go_big_quiet_on
                    go_big_quiet_want
                    refine ⟨.pointer (some ⟨q, 3, none⟩), fun w0 hC => ?_, ?_⟩
                    · clear hC
                      go_simp
                    simp only [Act.put, lq3, lq4, lq5]
                    go_big_quiet_on
                    go_big_quiet_want
                    refine ⟨.int .i64 y.day, fun w0 hC => ?_, ?_⟩
                    · have c3 := note_cells (HY.out w0 hC) 3 _ rfl; simp only [Nat.zero_add] at c3
                      clear hC
                      go_simp
                    simp only [Act.put, lq3, lq4, lq5]
                    go_big_quiet_on
                    go_big_quiet_want
                    refine ⟨.bool false, fun w0 hC => ?_, ?_⟩
                    · clear hC
                      go_simp
                    simp only [Act.put, lq3, lq4, lq5]
                    go_big_quiet_on
                    go_big_quiet_want
                    refine ⟨.bool false, fun w0 hC => ?_, ?_⟩
                    · clear hC
                      go_simp
                    simp only [Act.put, lq3, lq4, lq5]
                    go_big_quiet_on
                    go_big_quiet_want
                    refine ⟨.bool false, fun w0 hC => ?_, ?_⟩
                    · clear hC
                      go_simp
                    simp only [Act.put, lq3, lq4, lq5]
                    go_big_quiet_on
                    go_big_quiet_want
                    refine ⟨.pointer (some ⟨p, 4, none⟩), fun w0 hC => ?_, ?_⟩
                    · clear hC
                      go_simp
                    simp only [Act.put, lq3, lq4, lq5]
                    go_big_quiet_on
                    go_big_quiet_want
                    refine ⟨.int .i64 x.kind, fun w0 hC => ?_, ?_⟩
                    · have c4 := note_cells (HX.out w0 hC) 4 _ rfl; simp only [Nat.zero_add] at c4
                      clear hC
                      go_simp
                    simp only [Act.put, lq3, lq4, lq5]
                    go_big_quiet_on
                    go_big_quiet_want
                    refine ⟨.pointer (some ⟨q, 4, none⟩), fun w0 hC => ?_, ?_⟩
                    · clear hC
                      go_simp
                    simp only [Act.put, lq3, lq4, lq5]
                    go_big_quiet_on
                    go_big_quiet_want
                    refine ⟨.int .i64 y.kind, fun w0 hC => ?_, ?_⟩
                    · have c4 := note_cells (HY.out w0 hC) 4 _ rfl; simp only [Nat.zero_add] at c4
                      clear hC
                      go_simp
                    simp only [Act.put, lq3, lq4, lq5]
                    go_big_quiet_on
                    go_big_quiet_want
                    refine ⟨.bool false, fun w0 hC => ?_, ?_⟩
                    · clear hC
                      go_simp
                    simp only [Act.put, lq3, lq4, lq5]
                    go_big_quiet_on
                    go_big_quiet_want
                    refine ⟨.bool false, fun w0 hC => ?_, ?_⟩
                    · clear hC
                      go_simp
                    simp only [Act.put, lq3, lq4, lq5]
                    go_big_quiet_on
                    go_big_quiet_want
                    refine ⟨.bool false, fun w0 hC => ?_, ?_⟩
                    · clear hC
                      go_simp
                    simp only [Act.put, lq3, lq4, lq5]
                    go_big_quiet_on
                    go_big_quiet_want
                    refine ⟨.pointer (some ⟨p, 5, none⟩), fun w0 hC => ?_, ?_⟩
                    · clear hC
                      go_simp
                    simp only [Act.put, lq3, lq4, lq5]
                    go_big_quiet_on
                    go_big_quiet_want
                    refine ⟨.int .i64 x.stone, fun w0 hC => ?_, ?_⟩
                    · have c5 := note_cells (HX.out w0 hC) 5 _ rfl; simp only [Nat.zero_add] at c5
                      clear hC
                      go_simp
                    simp only [Act.put, lq3, lq4, lq5]
                    go_big_quiet_on
                    go_big_quiet_want
                    refine ⟨.pointer (some ⟨q, 5, none⟩), fun w0 hC => ?_, ?_⟩
                    · clear hC
                      go_simp
                    simp only [Act.put, lq3, lq4, lq5]
                    go_big_quiet_on
                    go_big_quiet_want
                    refine ⟨.int .i64 y.stone, fun w0 hC => ?_, ?_⟩
                    · have c5 := note_cells (HY.out w0 hC) 5 _ rfl; simp only [Nat.zero_add] at c5
                      clear hC
                      go_simp
                    simp only [Act.put, lq3, lq4, lq5]
                    go_big_quiet_on
                    go_big_quiet_want
                    refine ⟨.bool false, fun w0 hC => ?_, ?_⟩
                    · clear hC
                      go_simp
                    simp only [Act.put, lq3, lq4, lq5]
                    go_big_quiet_on
                    go_big_quiet_want
                    refine ⟨.bool false, fun w0 hC => ?_, ?_⟩
                    · clear hC
                      go_simp
                    simp only [Act.put, lq3, lq4, lq5]
                    go_big_quiet_on
                    go_big_quiet_want
                    refine ⟨.bool false, fun w0 hC => ?_, ?_⟩
                    · clear hC
                      go_simp
                    simp only [Act.put, lq3, lq4, lq5]
                    go_big_quiet_on
                    go_big_quiet_want
                    refine ⟨.pointer (some ⟨p, 6, none⟩), fun w0 hC => ?_, ?_⟩
                    · clear hC
                      go_simp
                    simp only [Act.put, lq3, lq4, lq5]
                    go_big_quiet_on
                    go_big_quiet_want
                    refine ⟨.int .i64 x.heap, fun w0 hC => ?_, ?_⟩
                    · have c6 := note_cells (HX.out w0 hC) 6 _ rfl; simp only [Nat.zero_add] at c6
                      clear hC
                      go_simp
                    simp only [Act.put, lq3, lq4, lq5]
                    go_big_quiet_on
                    go_big_quiet_want
                    refine ⟨.pointer (some ⟨q, 6, none⟩), fun w0 hC => ?_, ?_⟩
                    · clear hC
                      go_simp
                    simp only [Act.put, lq3, lq4, lq5]
                    go_big_quiet_on
                    go_big_quiet_want
                    refine ⟨.int .i64 y.heap, fun w0 hC => ?_, ?_⟩
                    · have c6 := note_cells (HY.out w0 hC) 6 _ rfl; simp only [Nat.zero_add] at c6
                      clear hC
                      go_simp
                    simp only [Act.put, lq3, lq4, lq5]
                    go_big_quiet_on
                    go_big_quiet_want
                    refine ⟨.bool true, fun w0 hC => ?_, ?_⟩
                    · clear hC
                      go_simp
                    simp only [Act.put, lq3, lq4, lq5]
                    go_big_quiet_on
                    go_big_quiet_want
                    refine ⟨.bool true, fun w0 hC => ?_, ?_⟩
                    · clear hC
                      go_simp
                    simp only [Act.put, lq3, lq4, lq5]
                    go_big_quiet_on
                    go_big_quiet_want
                    refine ⟨.bool true, fun w0 hC => ?_, ?_⟩
                    · clear hC
                      go_simp
                    simp only [Act.put, lq3, lq4, lq5]
                    go_big_quiet_on
                    go_big_quiet_skip
                    go_big_quiet_skip
                    go_big_quiet_skip
                    go_big_quiet_skip
                    go_big_quiet_skip
                    go_big_quiet_want
                    refine ⟨.bool true, fun w0 hC => ?_, ?_⟩
                    · clear hC
                      go_simp
                    simp only [Act.put, lq3, lq4, lq5]
                    go_big_quiet_on
                    refine wpQuiet_nil ?_
                    intro w' hC
                    go_wp2_with fail
                    go_ret
                    rw [HR.out]
                    exact ⟨rfl, by rw [HPE.out]; exact HB.out.trans (hC.mono hZ)⟩
                · have q4 := bne_yes h4
                  have hR : sameB x y = false := by rw [← Bool.not_eq_true, same_all]; intro h; exact h4 h.2.1.2.2.2.1
                  have HR := Lib.hid hR; clear hR h4
                  go_upto_region 8 with fail
                  refine wp_region_quiet (C := fun w' : World => Below W.heap.size W w') (by kernel_rfl) (by kernel_rfl) hC0 ?_
                  show wpQuiet _ _ _ _ (_ :: _) _
                  go_big_quiet_want
                  refine ⟨.agg (noteA x sa sc), fun w0 hC => quiet_load43 (.tmp 2) rfl p rfl x sa sc (HX.out w0 hC), ?_⟩
                  simp only [Act.put, lq3, lq4, lq5]
                  go_big_quiet_on
                  go_big_quiet_want
                  refine ⟨.agg #[.int .i64 x.house, .int .i64 x.num], fun w0 hC => ?_, ?_⟩
                  · go_simp
                    refine (rNameOf_any x sa sc _).mono ?_; rintro e w1 ⟨rfl, b1⟩; exact ⟨rfl, hC.trans (b1.mono hC.size)⟩
                  simp only [Act.put, lq3, lq4, lq5]
                  go_big_quiet_on
                  go_big_quiet_want
                  refine ⟨.agg (noteA y ta tc), fun w0 hC => quiet_load43 (.tmp 3) rfl q rfl y ta tc (HY.out w0 hC), ?_⟩
                  simp only [Act.put, lq3, lq4, lq5]
                  go_big_quiet_on
                  go_big_quiet_want
                  refine ⟨.agg #[.int .i64 y.house, .int .i64 y.num], fun w0 hC => ?_, ?_⟩
                  · go_simp
                    refine (rNameOf_any y ta tc _).mono ?_; rintro e w1 ⟨rfl, b1⟩; exact ⟨rfl, hC.trans (b1.mono hC.size)⟩
                  simp only [Act.put, lq3, lq4, lq5]
                  go_big_quiet_on
                  go_big_quiet_want
                  refine ⟨.bool false, fun w0 hC => ?_, ?_⟩
                  · clear hC
                    go_simp
                    have h := HD.out
                    simp [h.1, h.2]
                  simp only [Act.put, lq3, lq4, lq5]
                  go_big_quiet_on
                  go_big_quiet_want
                  refine ⟨.bool false, fun w0 hC => ?_, ?_⟩
                  · clear hC
                    go_simp
                  simp only [Act.put, lq3, lq4, lq5]
                  go_big_quiet_on
                  go_big_quiet_want
                  refine ⟨.pointer (some ⟨p, 2, none⟩), fun w0 hC => ?_, ?_⟩
                  · clear hC
                    go_simp
                  simp only [Act.put, lq3, lq4, lq5]
                  go_big_quiet_on
                  go_big_quiet_want
                  refine ⟨.int .i64 x.clock, fun w0 hC => ?_, ?_⟩
                  · have c2 := note_cells (HX.out w0 hC) 2 _ rfl; simp only [Nat.zero_add] at c2
                    clear hC
                    go_simp
                  simp only [Act.put, lq3, lq4, lq5]
                  go_big_quiet_on
                  go_big_quiet_want
                  refine ⟨.pointer (some ⟨q, 2, none⟩), fun w0 hC => ?_, ?_⟩
                  · clear hC
                    go_simp
                  simp only [Act.put, lq3, lq4, lq5]
                  go_big_quiet_on
                  go_big_quiet_want
                  refine ⟨.int .i64 y.clock, fun w0 hC => ?_, ?_⟩
                  · have c2 := note_cells (HY.out w0 hC) 2 _ rfl; simp only [Nat.zero_add] at c2
                    clear hC
                    go_simp
                  simp only [Act.put, lq3, lq4, lq5]
                  go_big_quiet_on
                  go_big_quiet_want
                  refine ⟨.bool false, fun w0 hC => ?_, ?_⟩
                  · clear hC
                    go_simp
                  simp only [Act.put, lq3, lq4, lq5]
                  go_big_quiet_on
                  go_big_quiet_want
                  refine ⟨.bool false, fun w0 hC => ?_, ?_⟩
                  · clear hC
                    go_simp
                  simp only [Act.put, lq3, lq4, lq5]
                  go_big_quiet_on
                  go_big_quiet_want
                  refine ⟨.bool false, fun w0 hC => ?_, ?_⟩
                  · clear hC
                    go_simp
                  simp only [Act.put, lq3, lq4, lq5]
                  go_big_quiet_on
                  go_big_quiet_want
                  refine ⟨.pointer (some ⟨p, 3, none⟩), fun w0 hC => ?_, ?_⟩
                  · clear hC
                    go_simp
                  simp only [Act.put, lq3, lq4, lq5]
                  go_big_quiet_on
                  go_big_quiet_want
                  refine ⟨.int .i64 x.day, fun w0 hC => ?_, ?_⟩
                  · have c3 := note_cells (HX.out w0 hC) 3 _ rfl; simp only [Nat.zero_add] at c3
                    clear hC
                    go_simp
                  simp only [Act.put, lq3, lq4, lq5]
                  go_big_quiet_on
                  go_big_quiet_want
                  refine ⟨.pointer (some ⟨q, 3, none⟩), fun w0 hC => ?_, ?_⟩
                  · clear hC
                    go_simp
                  simp only [Act.put, lq3, lq4, lq5]
                  go_big_quiet_on
                  go_big_quiet_want
                  refine ⟨.int .i64 y.day, fun w0 hC => ?_, ?_⟩
                  · have c3 := note_cells (HY.out w0 hC) 3 _ rfl; simp only [Nat.zero_add] at c3
                    clear hC
                    go_simp
                  simp only [Act.put, lq3, lq4, lq5]
                  go_big_quiet_on
                  go_big_quiet_want
                  refine ⟨.bool false, fun w0 hC => ?_, ?_⟩
                  · clear hC
                    go_simp
                  simp only [Act.put, lq3, lq4, lq5]
                  go_big_quiet_on
                  go_big_quiet_want
                  refine ⟨.bool false, fun w0 hC => ?_, ?_⟩
                  · clear hC
                    go_simp
                  simp only [Act.put, lq3, lq4, lq5]
                  go_big_quiet_on
                  go_big_quiet_want
                  refine ⟨.bool false, fun w0 hC => ?_, ?_⟩
                  · clear hC
                    go_simp
                  simp only [Act.put, lq3, lq4, lq5]
                  go_big_quiet_on
                  go_big_quiet_want
                  refine ⟨.pointer (some ⟨p, 4, none⟩), fun w0 hC => ?_, ?_⟩
                  · clear hC
                    go_simp
                  simp only [Act.put, lq3, lq4, lq5]
                  go_big_quiet_on
                  go_big_quiet_want
                  refine ⟨.int .i64 x.kind, fun w0 hC => ?_, ?_⟩
                  · have c4 := note_cells (HX.out w0 hC) 4 _ rfl; simp only [Nat.zero_add] at c4
                    clear hC
                    go_simp
                  simp only [Act.put, lq3, lq4, lq5]
                  go_big_quiet_on
                  go_big_quiet_want
                  refine ⟨.pointer (some ⟨q, 4, none⟩), fun w0 hC => ?_, ?_⟩
                  · clear hC
                    go_simp
                  simp only [Act.put, lq3, lq4, lq5]
                  go_big_quiet_on
                  go_big_quiet_want
                  refine ⟨.int .i64 y.kind, fun w0 hC => ?_, ?_⟩
                  · have c4 := note_cells (HY.out w0 hC) 4 _ rfl; simp only [Nat.zero_add] at c4
                    clear hC
                    go_simp
                  simp only [Act.put, lq3, lq4, lq5]
                  go_big_quiet_on
                  go_big_quiet_want
                  refine ⟨.bool false, fun w0 hC => ?_, ?_⟩
                  · clear hC
                    go_simp
                  simp only [Act.put, lq3, lq4, lq5]
                  go_big_quiet_on
                  go_big_quiet_want
                  refine ⟨.bool false, fun w0 hC => ?_, ?_⟩
                  · clear hC
                    go_simp
                  simp only [Act.put, lq3, lq4, lq5]
                  go_big_quiet_on
                  go_big_quiet_want
                  refine ⟨.bool false, fun w0 hC => ?_, ?_⟩
                  · clear hC
                    go_simp
                  simp only [Act.put, lq3, lq4, lq5]
                  go_big_quiet_on
                  go_big_quiet_want
                  refine ⟨.pointer (some ⟨p, 5, none⟩), fun w0 hC => ?_, ?_⟩
                  · clear hC
                    go_simp
                  simp only [Act.put, lq3, lq4, lq5]
                  go_big_quiet_on
                  go_big_quiet_want
                  refine ⟨.int .i64 x.stone, fun w0 hC => ?_, ?_⟩
                  · have c5 := note_cells (HX.out w0 hC) 5 _ rfl; simp only [Nat.zero_add] at c5
                    clear hC
                    go_simp
                  simp only [Act.put, lq3, lq4, lq5]
                  go_big_quiet_on
                  go_big_quiet_want
                  refine ⟨.pointer (some ⟨q, 5, none⟩), fun w0 hC => ?_, ?_⟩
                  · clear hC
                    go_simp
                  simp only [Act.put, lq3, lq4, lq5]
                  go_big_quiet_on
                  go_big_quiet_want
                  refine ⟨.int .i64 y.stone, fun w0 hC => ?_, ?_⟩
                  · have c5 := note_cells (HY.out w0 hC) 5 _ rfl; simp only [Nat.zero_add] at c5
                    clear hC
                    go_simp
                  simp only [Act.put, lq3, lq4, lq5]
                  go_big_quiet_on
                  go_big_quiet_want
                  refine ⟨.bool true, fun w0 hC => ?_, ?_⟩
                  · clear hC
                    go_simp
                  simp only [Act.put, lq3, lq4, lq5]
                  go_big_quiet_on
                  go_big_quiet_want
                  refine ⟨.bool true, fun w0 hC => ?_, ?_⟩
                  · clear hC
                    go_simp
                  simp only [Act.put, lq3, lq4, lq5]
                  go_big_quiet_on
                  go_big_quiet_want
                  refine ⟨.bool true, fun w0 hC => ?_, ?_⟩
                  · clear hC
                    go_simp
                  simp only [Act.put, lq3, lq4, lq5]
                  go_big_quiet_on
                  go_big_quiet_skip
                  go_big_quiet_skip
                  go_big_quiet_skip
                  go_big_quiet_skip
                  go_big_quiet_skip
                  go_big_quiet_want
                  refine ⟨.bool true, fun w0 hC => ?_, ?_⟩
                  · clear hC
                    go_simp
                  simp only [Act.put, lq3, lq4, lq5]
                  go_big_quiet_on
                  go_big_quiet_want
                  refine ⟨.bool true, fun w0 hC => ?_, ?_⟩
                  · clear hC
                    go_simp
                  simp only [Act.put, lq3, lq4, lq5]
                  go_big_quiet_on
                  go_big_quiet_skip
                  go_big_quiet_skip
                  go_big_quiet_skip
                  go_big_quiet_skip
                  go_big_quiet_skip
                  go_big_quiet_want
                  refine ⟨.bool true, fun w0 hC => ?_, ?_⟩
                  · clear hC
                    go_simp
                  simp only [Act.put, lq3, lq4, lq5]
                  go_big_quiet_on
                  refine wpQuiet_nil ?_
                  intro w' hC
                  go_wp2_with fail
                  go_ret
                  rw [HR.out]
                  exact ⟨rfl, by rw [HPE.out]; exact HB.out.trans (hC.mono hZ)⟩
              · have q3 := bne_yes h3
                have hR : sameB x y = false := by rw [← Bool.not_eq_true, same_all]; intro h; exact h3 h.2.1.2.2.1
                have HR := Lib.hid hR; clear hR h3
                go_upto_region 8 with fail
                refine wp_region_quiet (C := fun w' : World => Below W.heap.size W w') (by kernel_rfl) (by kernel_rfl) hC0 ?_
                show wpQuiet _ _ _ _ (_ :: _) _
                go_big_quiet_want
                refine ⟨.agg (noteA x sa sc), fun w0 hC => quiet_load43 (.tmp 2) rfl p rfl x sa sc (HX.out w0 hC), ?_⟩
                simp only [Act.put, lq3, lq4, lq5]
                go_big_quiet_on
                go_big_quiet_want
                refine ⟨.agg #[.int .i64 x.house, .int .i64 x.num], fun w0 hC => ?_, ?_⟩
                · go_simp
                  refine (rNameOf_any x sa sc _).mono ?_; rintro e w1 ⟨rfl, b1⟩; exact ⟨rfl, hC.trans (b1.mono hC.size)⟩
                simp only [Act.put, lq3, lq4, lq5]
                go_big_quiet_on
                go_big_quiet_want
                refine ⟨.agg (noteA y ta tc), fun w0 hC => quiet_load43 (.tmp 3) rfl q rfl y ta tc (HY.out w0 hC), ?_⟩
                simp only [Act.put, lq3, lq4, lq5]
                go_big_quiet_on
                go_big_quiet_want
                refine ⟨.agg #[.int .i64 y.house, .int .i64 y.num], fun w0 hC => ?_, ?_⟩
                · go_simp
                  refine (rNameOf_any y ta tc _).mono ?_; rintro e w1 ⟨rfl, b1⟩; exact ⟨rfl, hC.trans (b1.mono hC.size)⟩
                simp only [Act.put, lq3, lq4, lq5]
                go_big_quiet_on
                go_big_quiet_want
                refine ⟨.bool false, fun w0 hC => ?_, ?_⟩
                · clear hC
                  go_simp
                  have h := HD.out
                  simp [h.1, h.2]
                simp only [Act.put, lq3, lq4, lq5]
                go_big_quiet_on
                go_big_quiet_want
                refine ⟨.bool false, fun w0 hC => ?_, ?_⟩
                · clear hC
                  go_simp
                simp only [Act.put, lq3, lq4, lq5]
                go_big_quiet_on
                go_big_quiet_want
                refine ⟨.pointer (some ⟨p, 2, none⟩), fun w0 hC => ?_, ?_⟩
                · clear hC
                  go_simp
                simp only [Act.put, lq3, lq4, lq5]
                go_big_quiet_on
                go_big_quiet_want
                refine ⟨.int .i64 x.clock, fun w0 hC => ?_, ?_⟩
                · have c2 := note_cells (HX.out w0 hC) 2 _ rfl; simp only [Nat.zero_add] at c2
                  clear hC
                  go_simp
                simp only [Act.put, lq3, lq4, lq5]
                go_big_quiet_on
                go_big_quiet_want
                refine ⟨.pointer (some ⟨q, 2, none⟩), fun w0 hC => ?_, ?_⟩
                · clear hC
                  go_simp
                simp only [Act.put, lq3, lq4, lq5]
                go_big_quiet_on
                go_big_quiet_want
                refine ⟨.int .i64 y.clock, fun w0 hC => ?_, ?_⟩
                · have c2 := note_cells (HY.out w0 hC) 2 _ rfl; simp only [Nat.zero_add] at c2
                  clear hC
                  go_simp
                simp only [Act.put, lq3, lq4, lq5]
                go_big_quiet_on
                go_big_quiet_want
                refine ⟨.bool false, fun w0 hC => ?_, ?_⟩
                · clear hC
                  go_simp
                simp only [Act.put, lq3, lq4, lq5]
                go_big_quiet_on
                go_big_quiet_want
                refine ⟨.bool false, fun w0 hC => ?_, ?_⟩
                · clear hC
                  go_simp
                simp only [Act.put, lq3, lq4, lq5]
                go_big_quiet_on
                go_big_quiet_want
                refine ⟨.bool false, fun w0 hC => ?_, ?_⟩
                · clear hC
                  go_simp
                simp only [Act.put, lq3, lq4, lq5]
                go_big_quiet_on
                go_big_quiet_want
                refine ⟨.pointer (some ⟨p, 3, none⟩), fun w0 hC => ?_, ?_⟩
                · clear hC
                  go_simp
                simp only [Act.put, lq3, lq4, lq5]
                go_big_quiet_on
                go_big_quiet_want
                refine ⟨.int .i64 x.day, fun w0 hC => ?_, ?_⟩
                · have c3 := note_cells (HX.out w0 hC) 3 _ rfl; simp only [Nat.zero_add] at c3
                  clear hC
                  go_simp
                simp only [Act.put, lq3, lq4, lq5]
                go_big_quiet_on
                go_big_quiet_want
                refine ⟨.pointer (some ⟨q, 3, none⟩), fun w0 hC => ?_, ?_⟩
                · clear hC
                  go_simp
                simp only [Act.put, lq3, lq4, lq5]
                go_big_quiet_on
                go_big_quiet_want
                refine ⟨.int .i64 y.day, fun w0 hC => ?_, ?_⟩
                · have c3 := note_cells (HY.out w0 hC) 3 _ rfl; simp only [Nat.zero_add] at c3
                  clear hC
                  go_simp
                simp only [Act.put, lq3, lq4, lq5]
                go_big_quiet_on
                go_big_quiet_want
                refine ⟨.bool false, fun w0 hC => ?_, ?_⟩
                · clear hC
                  go_simp
                simp only [Act.put, lq3, lq4, lq5]
                go_big_quiet_on
                go_big_quiet_want
                refine ⟨.bool false, fun w0 hC => ?_, ?_⟩
                · clear hC
                  go_simp
                simp only [Act.put, lq3, lq4, lq5]
                go_big_quiet_on
                go_big_quiet_want
                refine ⟨.bool false, fun w0 hC => ?_, ?_⟩
                · clear hC
                  go_simp
                simp only [Act.put, lq3, lq4, lq5]
                go_big_quiet_on
                go_big_quiet_want
                refine ⟨.pointer (some ⟨p, 4, none⟩), fun w0 hC => ?_, ?_⟩
                · clear hC
                  go_simp
                simp only [Act.put, lq3, lq4, lq5]
                go_big_quiet_on
                go_big_quiet_want
                refine ⟨.int .i64 x.kind, fun w0 hC => ?_, ?_⟩
                · have c4 := note_cells (HX.out w0 hC) 4 _ rfl; simp only [Nat.zero_add] at c4
                  clear hC
                  go_simp
                simp only [Act.put, lq3, lq4, lq5]
                go_big_quiet_on
                go_big_quiet_want
                refine ⟨.pointer (some ⟨q, 4, none⟩), fun w0 hC => ?_, ?_⟩
                · clear hC
                  go_simp
                simp only [Act.put, lq3, lq4, lq5]
                go_big_quiet_on
                go_big_quiet_want
                refine ⟨.int .i64 y.kind, fun w0 hC => ?_, ?_⟩
                · have c4 := note_cells (HY.out w0 hC) 4 _ rfl; simp only [Nat.zero_add] at c4
                  clear hC
                  go_simp
                simp only [Act.put, lq3, lq4, lq5]
                go_big_quiet_on
                go_big_quiet_want
                refine ⟨.bool true, fun w0 hC => ?_, ?_⟩
                · clear hC
                  go_simp
                simp only [Act.put, lq3, lq4, lq5]
                go_big_quiet_on
                go_big_quiet_want
                refine ⟨.bool true, fun w0 hC => ?_, ?_⟩
                · clear hC
                  go_simp
                simp only [Act.put, lq3, lq4, lq5]
                go_big_quiet_on
                go_big_quiet_want
                refine ⟨.bool true, fun w0 hC => ?_, ?_⟩
                · clear hC
                  go_simp
                simp only [Act.put, lq3, lq4, lq5]
                go_big_quiet_on
                go_big_quiet_skip
                go_big_quiet_skip
                go_big_quiet_skip
                go_big_quiet_skip
                go_big_quiet_skip
                go_big_quiet_want
                refine ⟨.bool true, fun w0 hC => ?_, ?_⟩
                · clear hC
                  go_simp
                simp only [Act.put, lq3, lq4, lq5]
                go_big_quiet_on
                go_big_quiet_want
                refine ⟨.bool true, fun w0 hC => ?_, ?_⟩
                · clear hC
                  go_simp
                simp only [Act.put, lq3, lq4, lq5]
                go_big_quiet_on
                go_big_quiet_skip
                go_big_quiet_skip
                go_big_quiet_skip
                go_big_quiet_skip
                go_big_quiet_skip
                go_big_quiet_want
                refine ⟨.bool true, fun w0 hC => ?_, ?_⟩
                · clear hC
                  go_simp
                simp only [Act.put, lq3, lq4, lq5]
                go_big_quiet_on
                go_big_quiet_want
                refine ⟨.bool true, fun w0 hC => ?_, ?_⟩
                · clear hC
                  go_simp
                simp only [Act.put, lq3, lq4, lq5]
                go_big_quiet_on
                go_big_quiet_skip
                go_big_quiet_skip
                go_big_quiet_skip
                go_big_quiet_skip
                go_big_quiet_skip
                go_big_quiet_want
                refine ⟨.bool true, fun w0 hC => ?_, ?_⟩
                · clear hC
                  go_simp
                simp only [Act.put, lq3, lq4, lq5]
                go_big_quiet_on
                refine wpQuiet_nil ?_
                intro w' hC
                go_wp2_with fail
                go_ret
                rw [HR.out]
                exact ⟨rfl, by rw [HPE.out]; exact HB.out.trans (hC.mono hZ)⟩
            · have q2 := bne_yes h2
              have hR : sameB x y = false := by rw [← Bool.not_eq_true, same_all]; intro h; exact h2 h.2.1.2.1
              have HR := Lib.hid hR; clear hR h2
              go_upto_region 8 with fail
              refine wp_region_quiet (C := fun w' : World => Below W.heap.size W w') (by kernel_rfl) (by kernel_rfl) hC0 ?_
              show wpQuiet _ _ _ _ (_ :: _) _
              go_big_quiet_want
              refine ⟨.agg (noteA x sa sc), fun w0 hC => quiet_load43 (.tmp 2) rfl p rfl x sa sc (HX.out w0 hC), ?_⟩
              simp only [Act.put, lq3, lq4, lq5]
              go_big_quiet_on
              go_big_quiet_want
              refine ⟨.agg #[.int .i64 x.house, .int .i64 x.num], fun w0 hC => ?_, ?_⟩
              · go_simp
                refine (rNameOf_any x sa sc _).mono ?_; rintro e w1 ⟨rfl, b1⟩; exact ⟨rfl, hC.trans (b1.mono hC.size)⟩
              simp only [Act.put, lq3, lq4, lq5]
              go_big_quiet_on
              go_big_quiet_want
              refine ⟨.agg (noteA y ta tc), fun w0 hC => quiet_load43 (.tmp 3) rfl q rfl y ta tc (HY.out w0 hC), ?_⟩
              simp only [Act.put, lq3, lq4, lq5]
              go_big_quiet_on
              go_big_quiet_want
              refine ⟨.agg #[.int .i64 y.house, .int .i64 y.num], fun w0 hC => ?_, ?_⟩
              · go_simp
                refine (rNameOf_any y ta tc _).mono ?_; rintro e w1 ⟨rfl, b1⟩; exact ⟨rfl, hC.trans (b1.mono hC.size)⟩
              simp only [Act.put, lq3, lq4, lq5]
              go_big_quiet_on
              go_big_quiet_want
              refine ⟨.bool false, fun w0 hC => ?_, ?_⟩
              · clear hC
                go_simp
                have h := HD.out
                simp [h.1, h.2]
              simp only [Act.put, lq3, lq4, lq5]
              go_big_quiet_on
              go_big_quiet_want
              refine ⟨.bool false, fun w0 hC => ?_, ?_⟩
              · clear hC
                go_simp
              simp only [Act.put, lq3, lq4, lq5]
              go_big_quiet_on
              go_big_quiet_want
              refine ⟨.pointer (some ⟨p, 2, none⟩), fun w0 hC => ?_, ?_⟩
              · clear hC
                go_simp
              simp only [Act.put, lq3, lq4, lq5]
              go_big_quiet_on
              go_big_quiet_want
              refine ⟨.int .i64 x.clock, fun w0 hC => ?_, ?_⟩
              · have c2 := note_cells (HX.out w0 hC) 2 _ rfl; simp only [Nat.zero_add] at c2
                clear hC
                go_simp
              simp only [Act.put, lq3, lq4, lq5]
              go_big_quiet_on
              go_big_quiet_want
              refine ⟨.pointer (some ⟨q, 2, none⟩), fun w0 hC => ?_, ?_⟩
              · clear hC
                go_simp
              simp only [Act.put, lq3, lq4, lq5]
              go_big_quiet_on
              go_big_quiet_want
              refine ⟨.int .i64 y.clock, fun w0 hC => ?_, ?_⟩
              · have c2 := note_cells (HY.out w0 hC) 2 _ rfl; simp only [Nat.zero_add] at c2
                clear hC
                go_simp
              simp only [Act.put, lq3, lq4, lq5]
              go_big_quiet_on
              go_big_quiet_want
              refine ⟨.bool false, fun w0 hC => ?_, ?_⟩
              · clear hC
                go_simp
              simp only [Act.put, lq3, lq4, lq5]
              go_big_quiet_on
              go_big_quiet_want
              refine ⟨.bool false, fun w0 hC => ?_, ?_⟩
              · clear hC
                go_simp
              simp only [Act.put, lq3, lq4, lq5]
              go_big_quiet_on
              go_big_quiet_want
              refine ⟨.bool false, fun w0 hC => ?_, ?_⟩
              · clear hC
                go_simp
              simp only [Act.put, lq3, lq4, lq5]
              go_big_quiet_on
              go_big_quiet_want
              refine ⟨.pointer (some ⟨p, 3, none⟩), fun w0 hC => ?_, ?_⟩
              · clear hC
                go_simp
              simp only [Act.put, lq3, lq4, lq5]
              go_big_quiet_on
              go_big_quiet_want
              refine ⟨.int .i64 x.day, fun w0 hC => ?_, ?_⟩
              · have c3 := note_cells (HX.out w0 hC) 3 _ rfl; simp only [Nat.zero_add] at c3
                clear hC
                go_simp
              simp only [Act.put, lq3, lq4, lq5]
              go_big_quiet_on
              go_big_quiet_want
              refine ⟨.pointer (some ⟨q, 3, none⟩), fun w0 hC => ?_, ?_⟩
              · clear hC
                go_simp
              simp only [Act.put, lq3, lq4, lq5]
              go_big_quiet_on
              go_big_quiet_want
              refine ⟨.int .i64 y.day, fun w0 hC => ?_, ?_⟩
              · have c3 := note_cells (HY.out w0 hC) 3 _ rfl; simp only [Nat.zero_add] at c3
                clear hC
                go_simp
              simp only [Act.put, lq3, lq4, lq5]
              go_big_quiet_on
              go_big_quiet_want
              refine ⟨.bool true, fun w0 hC => ?_, ?_⟩
              · clear hC
                go_simp
              simp only [Act.put, lq3, lq4, lq5]
              go_big_quiet_on
              go_big_quiet_want
              refine ⟨.bool true, fun w0 hC => ?_, ?_⟩
              · clear hC
                go_simp
              simp only [Act.put, lq3, lq4, lq5]
              go_big_quiet_on
              go_big_quiet_want
              refine ⟨.bool true, fun w0 hC => ?_, ?_⟩
              · clear hC
                go_simp
              simp only [Act.put, lq3, lq4, lq5]
              go_big_quiet_on
              go_big_quiet_skip
              go_big_quiet_skip
              go_big_quiet_skip
              go_big_quiet_skip
              go_big_quiet_skip
              go_big_quiet_want
              refine ⟨.bool true, fun w0 hC => ?_, ?_⟩
              · clear hC
                go_simp
              simp only [Act.put, lq3, lq4, lq5]
              go_big_quiet_on
              go_big_quiet_want
              refine ⟨.bool true, fun w0 hC => ?_, ?_⟩
              · clear hC
                go_simp
              simp only [Act.put, lq3, lq4, lq5]
              go_big_quiet_on
              go_big_quiet_skip
              go_big_quiet_skip
              go_big_quiet_skip
              go_big_quiet_skip
              go_big_quiet_skip
              go_big_quiet_want
              refine ⟨.bool true, fun w0 hC => ?_, ?_⟩
              · clear hC
                go_simp
              simp only [Act.put, lq3, lq4, lq5]
              go_big_quiet_on
              go_big_quiet_want
              refine ⟨.bool true, fun w0 hC => ?_, ?_⟩
              · clear hC
                go_simp
              simp only [Act.put, lq3, lq4, lq5]
              go_big_quiet_on
              go_big_quiet_skip
              go_big_quiet_skip
              go_big_quiet_skip
              go_big_quiet_skip
              go_big_quiet_skip
              go_big_quiet_want
              refine ⟨.bool true, fun w0 hC => ?_, ?_⟩
              · clear hC
                go_simp
              simp only [Act.put, lq3, lq4, lq5]
              go_big_quiet_on
              go_big_quiet_want
              refine ⟨.bool true, fun w0 hC => ?_, ?_⟩
              · clear hC
                go_simp
              simp only [Act.put, lq3, lq4, lq5]
              go_big_quiet_on
              go_big_quiet_skip
              go_big_quiet_skip
              go_big_quiet_skip
              go_big_quiet_skip
              go_big_quiet_skip
              go_big_quiet_want
              refine ⟨.bool true, fun w0 hC => ?_, ?_⟩
              · clear hC
                go_simp
              simp only [Act.put, lq3, lq4, lq5]
              go_big_quiet_on
              refine wpQuiet_nil ?_
              intro w' hC
              go_wp2_with fail
              go_ret
              rw [HR.out]
              exact ⟨rfl, by rw [HPE.out]; exact HB.out.trans (hC.mono hZ)⟩
          · have q1 := bne_yes h1
            have hR : sameB x y = false := by rw [← Bool.not_eq_true, same_all]; intro h; exact h1 h.2.1.1
            have HR := Lib.hid hR; clear hR h1
            go_upto_region 8 with fail
            refine wp_region_quiet (C := fun w' : World => Below W.heap.size W w') (by kernel_rfl) (by kernel_rfl) hC0 ?_
            show wpQuiet _ _ _ _ (_ :: _) _
            go_big_quiet_want
            refine ⟨.agg (noteA x sa sc), fun w0 hC => quiet_load43 (.tmp 2) rfl p rfl x sa sc (HX.out w0 hC), ?_⟩
            simp only [Act.put, lq3, lq4, lq5]
            go_big_quiet_on
            go_big_quiet_want
            refine ⟨.agg #[.int .i64 x.house, .int .i64 x.num], fun w0 hC => ?_, ?_⟩
            · go_simp
              refine (rNameOf_any x sa sc _).mono ?_; rintro e w1 ⟨rfl, b1⟩; exact ⟨rfl, hC.trans (b1.mono hC.size)⟩
            simp only [Act.put, lq3, lq4, lq5]
            go_big_quiet_on
            go_big_quiet_want
            refine ⟨.agg (noteA y ta tc), fun w0 hC => quiet_load43 (.tmp 3) rfl q rfl y ta tc (HY.out w0 hC), ?_⟩
            simp only [Act.put, lq3, lq4, lq5]
            go_big_quiet_on
            go_big_quiet_want
            refine ⟨.agg #[.int .i64 y.house, .int .i64 y.num], fun w0 hC => ?_, ?_⟩
            · go_simp
              refine (rNameOf_any y ta tc _).mono ?_; rintro e w1 ⟨rfl, b1⟩; exact ⟨rfl, hC.trans (b1.mono hC.size)⟩
            simp only [Act.put, lq3, lq4, lq5]
            go_big_quiet_on
            go_big_quiet_want
            refine ⟨.bool false, fun w0 hC => ?_, ?_⟩
            · clear hC
              go_simp
              have h := HD.out
              simp [h.1, h.2]
            simp only [Act.put, lq3, lq4, lq5]
            go_big_quiet_on
            go_big_quiet_want
            refine ⟨.bool false, fun w0 hC => ?_, ?_⟩
            · clear hC
              go_simp
            simp only [Act.put, lq3, lq4, lq5]
            go_big_quiet_on
            go_big_quiet_want
            refine ⟨.pointer (some ⟨p, 2, none⟩), fun w0 hC => ?_, ?_⟩
            · clear hC
              go_simp
            simp only [Act.put, lq3, lq4, lq5]
            go_big_quiet_on
            go_big_quiet_want
            refine ⟨.int .i64 x.clock, fun w0 hC => ?_, ?_⟩
            · have c2 := note_cells (HX.out w0 hC) 2 _ rfl; simp only [Nat.zero_add] at c2
              clear hC
              go_simp
            simp only [Act.put, lq3, lq4, lq5]
            go_big_quiet_on
            go_big_quiet_want
            refine ⟨.pointer (some ⟨q, 2, none⟩), fun w0 hC => ?_, ?_⟩
            · clear hC
              go_simp
            simp only [Act.put, lq3, lq4, lq5]
            go_big_quiet_on
            go_big_quiet_want
            refine ⟨.int .i64 y.clock, fun w0 hC => ?_, ?_⟩
            · have c2 := note_cells (HY.out w0 hC) 2 _ rfl; simp only [Nat.zero_add] at c2
              clear hC
              go_simp
            simp only [Act.put, lq3, lq4, lq5]
            go_big_quiet_on
            go_big_quiet_want
            refine ⟨.bool true, fun w0 hC => ?_, ?_⟩
            · clear hC
              go_simp
            simp only [Act.put, lq3, lq4, lq5]
            go_big_quiet_on
            go_big_quiet_want
            refine ⟨.bool true, fun w0 hC => ?_, ?_⟩
            · clear hC
              go_simp
            simp only [Act.put, lq3, lq4, lq5]
            go_big_quiet_on
            go_big_quiet_want
            refine ⟨.bool true, fun w0 hC => ?_, ?_⟩
            · clear hC
              go_simp
            simp only [Act.put, lq3, lq4, lq5]
            go_big_quiet_on
            go_big_quiet_skip
            go_big_quiet_skip
            go_big_quiet_skip
            go_big_quiet_skip
            go_big_quiet_skip
            go_big_quiet_want
            refine ⟨.bool true, fun w0 hC => ?_, ?_⟩
            · clear hC
              go_simp
            simp only [Act.put, lq3, lq4, lq5]
            go_big_quiet_on
            go_big_quiet_want
            refine ⟨.bool true, fun w0 hC => ?_, ?_⟩
            · clear hC
              go_simp
            simp only [Act.put, lq3, lq4, lq5]
            go_big_quiet_on
            go_big_quiet_skip
            go_big_quiet_skip
            go_big_quiet_skip
            go_big_quiet_skip
            go_big_quiet_skip
            go_big_quiet_want
            refine ⟨.bool true, fun w0 hC => ?_, ?_⟩
            · clear hC
              go_simp
            simp only [Act.put, lq3, lq4, lq5]
            go_big_quiet_on
            go_big_quiet_want
            refine ⟨.bool true, fun w0 hC => ?_, ?_⟩
            · clear hC
              go_simp
            simp only [Act.put, lq3, lq4, lq5]
            go_big_quiet_on
            go_big_quiet_skip
            go_big_quiet_skip
            go_big_quiet_skip
            go_big_quiet_skip
            go_big_quiet_skip
            go_big_quiet_want
            refine ⟨.bool true, fun w0 hC => ?_, ?_⟩
            · clear hC
              go_simp
            simp only [Act.put, lq3, lq4, lq5]
            go_big_quiet_on
            go_big_quiet_want
            refine ⟨.bool true, fun w0 hC => ?_, ?_⟩
            · clear hC
              go_simp
            simp only [Act.put, lq3, lq4, lq5]
            go_big_quiet_on
            go_big_quiet_skip
            go_big_quiet_skip
            go_big_quiet_skip
            go_big_quiet_skip
            go_big_quiet_skip
            go_big_quiet_want
            refine ⟨.bool true, fun w0 hC => ?_, ?_⟩
            · clear hC
              go_simp
            simp only [Act.put, lq3, lq4, lq5]
            go_big_quiet_on
            go_big_quiet_want
            refine ⟨.bool true, fun w0 hC => ?_, ?_⟩
            · clear hC
              go_simp
            simp only [Act.put, lq3, lq4, lq5]
            go_big_quiet_on
            go_big_quiet_skip
            go_big_quiet_skip
            go_big_quiet_skip
            go_big_quiet_skip
            go_big_quiet_skip
            go_big_quiet_want
            refine ⟨.bool true, fun w0 hC => ?_, ?_⟩
            · clear hC
              go_simp
            simp only [Act.put, lq3, lq4, lq5]
            go_big_quiet_on
            refine wpQuiet_nil ?_
            intro w' hC
            go_wp2_with fail
            go_ret
            rw [HR.out]
            exact ⟨rfl, by rw [HPE.out]; exact HB.out.trans (hC.mono hZ)⟩
        · have HD := Lib.hid h0
          have hR : sameB x y = false := by rw [← Bool.not_eq_true, same_all]; intro h; exact h0 h.1
          have HR := Lib.hid hR; clear hR h0
          go_upto_region 8 with fail
          refine wp_region_quiet (C := fun w' : World => Below W.heap.size W w') (by kernel_rfl) (by kernel_rfl) hC0 ?_
          show wpQuiet _ _ _ _ (_ :: _) _
          go_big_quiet_want
          refine ⟨.agg (noteA x sa sc), fun w0 hC => quiet_load43 (.tmp 2) rfl p rfl x sa sc (HX.out w0 hC), ?_⟩
          simp only [Act.put, lq3, lq4, lq5]
          go_big_quiet_on
          go_big_quiet_want
          refine ⟨.agg #[.int .i64 x.house, .int .i64 x.num], fun w0 hC => ?_, ?_⟩
          · go_simp
            refine (rNameOf_any x sa sc _).mono ?_; rintro e w1 ⟨rfl, b1⟩; exact ⟨rfl, hC.trans (b1.mono hC.size)⟩
          simp only [Act.put, lq3, lq4, lq5]
          go_big_quiet_on
          go_big_quiet_want
          refine ⟨.agg (noteA y ta tc), fun w0 hC => quiet_load43 (.tmp 3) rfl q rfl y ta tc (HY.out w0 hC), ?_⟩
          simp only [Act.put, lq3, lq4, lq5]
          go_big_quiet_on
          go_big_quiet_want
          refine ⟨.agg #[.int .i64 y.house, .int .i64 y.num], fun w0 hC => ?_, ?_⟩
          · go_simp
            refine (rNameOf_any y ta tc _).mono ?_; rintro e w1 ⟨rfl, b1⟩; exact ⟨rfl, hC.trans (b1.mono hC.size)⟩
          simp only [Act.put, lq3, lq4, lq5]
          go_big_quiet_on
          go_big_quiet_want
          refine ⟨.bool true, fun w0 hC => ?_, ?_⟩
          · clear hC
            go_simp
            by_cases h1 : x.house = y.house <;> by_cases h2 : x.num = y.num <;> simp [h1, h2]
            exact HD.out ⟨h1, h2⟩
          simp only [Act.put, lq3, lq4, lq5]
          go_big_quiet_on
          go_big_quiet_want
          refine ⟨.bool true, fun w0 hC => ?_, ?_⟩
          · clear hC
            go_simp
          simp only [Act.put, lq3, lq4, lq5]
          go_big_quiet_on
          go_big_quiet_skip
          go_big_quiet_skip
          go_big_quiet_skip
          go_big_quiet_skip
          go_big_quiet_skip
          go_big_quiet_want
          refine ⟨.bool true, fun w0 hC => ?_, ?_⟩
          · clear hC
            go_simp
          simp only [Act.put, lq3, lq4, lq5]
          go_big_quiet_on
          go_big_quiet_want
          refine ⟨.bool true, fun w0 hC => ?_, ?_⟩
          · clear hC
            go_simp
          simp only [Act.put, lq3, lq4, lq5]
          go_big_quiet_on
          go_big_quiet_skip
          go_big_quiet_skip
          go_big_quiet_skip
          go_big_quiet_skip
          go_big_quiet_skip
          go_big_quiet_want
          refine ⟨.bool true, fun w0 hC => ?_, ?_⟩
          · clear hC
            go_simp
          simp only [Act.put, lq3, lq4, lq5]
          go_big_quiet_on
          go_big_quiet_want
          refine ⟨.bool true, fun w0 hC => ?_, ?_⟩
          · clear hC
            go_simp
          simp only [Act.put, lq3, lq4, lq5]
          go_big_quiet_on
          go_big_quiet_skip
          go_big_quiet_skip
          go_big_quiet_skip
          go_big_quiet_skip
          go_big_quiet_skip
          go_big_quiet_want
          refine ⟨.bool true, fun w0 hC => ?_, ?_⟩
          · clear hC
            go_simp
          simp only [Act.put, lq3, lq4, lq5]
          go_big_quiet_on
          go_big_quiet_want
          refine ⟨.bool true, fun w0 hC => ?_, ?_⟩
          · clear hC
            go_simp
          simp only [Act.put, lq3, lq4, lq5]
          go_big_quiet_on
          go_big_quiet_skip
          go_big_quiet_skip
          go_big_quiet_skip
          go_big_quiet_skip
          go_big_quiet_skip
          go_big_quiet_want
          refine ⟨.bool true, fun w0 hC => ?_, ?_⟩
          · clear hC
            go_simp
          simp only [Act.put, lq3, lq4, lq5]
          go_big_quiet_on
          go_big_quiet_want
          refine ⟨.bool true, fun w0 hC => ?_, ?_⟩
          · clear hC
            go_simp
          simp only [Act.put, lq3, lq4, lq5]
          go_big_quiet_on
          go_big_quiet_skip
          go_big_quiet_skip
          go_big_quiet_skip
          go_big_quiet_skip
          go_big_quiet_skip
          go_big_quiet_want
          refine ⟨.bool true, fun w0 hC => ?_, ?_⟩
          · clear hC
            go_simp
          simp only [Act.put, lq3, lq4, lq5]
          go_big_quiet_on
          go_big_quiet_want
          refine ⟨.bool true, fun w0 hC => ?_, ?_⟩
          · clear hC
            go_simp
          simp only [Act.put, lq3, lq4, lq5]
          go_big_quiet_on
          go_big_quiet_skip
          go_big_quiet_skip
          go_big_quiet_skip
          go_big_quiet_skip
          go_big_quiet_skip
          go_big_quiet_want
          refine ⟨.bool true, fun w0 hC => ?_, ?_⟩
          · clear hC
            go_simp
          simp only [Act.put, lq3, lq4, lq5]
          go_big_quiet_on
          refine wpQuiet_nil ?_
          intro w' hC
          go_wp2_with fail
          go_ret
          rw [HR.out]
          exact ⟨rfl, by rw [HPE.out]; exact HB.out.trans (hC.mono hZ)⟩
  · have hbn : ((x.strokes.length : Int) != (y.strokes.length : Int)) = true := by simp; omega
    have hR : sameB x y = false := by rw [← Bool.not_eq_true, same_all]; intro h; exact hln (by rw [h.2.2.2.2.2.2.2])
    have HR := Lib.hid hR; clear hR hln
    go_wp2_with fail
    go_ret
    rw [HR.out]
    exact ⟨rfl, by rw [HPE.out]; exact HB.out⟩
end
end Go.Proofs.YtpjiakgfegnmcaaGreat
