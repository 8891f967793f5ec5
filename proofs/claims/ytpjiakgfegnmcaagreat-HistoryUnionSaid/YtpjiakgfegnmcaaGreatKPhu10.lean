/- Parts of the proof, in this order: The reference's SameNote; The reference's SameEvents and SameRegister say true of equal values; The plain law of sets: a part of a set is a set; What Fold and AsOf give back, as one predicate; registers of one value are the same; What every row of this work shares: a law of the template 'true whatever the input' holds where its call gives true and leaves all old memory; []byte arguments opened. -/
import Derived.Deep.Cut
import Derived.Test.YtpjiakgfegnmcaaGreatRows
import Derived.ProofKit
import Derived.OpenShut
import Derived.Test.YtpjiakgfegnmcaaGreatKPhu9
set_option linter.unusedSimpArgs false
set_option linter.unusedVariables false
open List renaming getElem_toArray → lq0, getElem_cons_succ → lq1, getElem_cons_zero → lq2, setIfInBounds_toArray → lq3, set_cons_zero → lq4, set_cons_succ → lq5
namespace Go.Proofs.YtpjiakgfegnmcaaGreat
open Go.RowKit

theorem same_all {x y : NoteV} : sameB x y = true ↔ (x.house = y.house ∧ x.num = y.num) ∧ (x.clock = y.clock ∧ x.day = y.day ∧ x.kind = y.kind ∧ x.stone = y.stone ∧ x.heap = y.heap ∧ x.turns = y.turns) ∧
    (x.hardLo = y.hardLo ∧ x.hardHi = y.hardHi) ∧ (x.diffLo = y.diffLo ∧ x.diffHi = y.diffHi) ∧ (x.a = y.a ∧ x.b = y.b ∧ x.ring = y.ring) ∧ (x.refH = y.refH ∧ x.refN = y.refN) ∧ x.fix = y.fix ∧ x.strokes = y.strokes := by
  simp only [sameB, nums14]
  grind
theorem bne_no {a b : Int} (h : a = b) : (a != b) = false := by simp [h]
theorem bne_yes {a b : Int} (h : ¬ a = b) : (a != b) = true := by simp [h]
theorem ints_ext {l m : List Int} (hl : l.length = m.length) (h : ∀ j, j < l.length → l[j]?.getD 0 = m[j]?.getD 0) : l = m := by
  apply List.ext_getElem hl
  intro i h1 h2
  have := h i h1
  simpa [List.getElem?_eq_getElem h1, List.getElem?_eq_getElem h2] using this
section
attribute [local go_sem] noteA_0 noteA_1 noteA_2 noteA_3 noteA_4 noteA_5 noteA_6 noteA_7 noteA_8 noteA_9 noteA_10 noteA_11 noteA_12 noteA_13 noteA_14 noteA_15 noteA_16 noteA_17 noteA_18
set_option maxRecDepth 100000 in
set_option maxHeartbeats 4000000 in
theorem rsame_any (x y : NoteV) (sa : Option Addr) (sc : Nat) (ta : Option Addr) (tc : Nat) (w : World) (hx : RdI w sa x.strokes.length sc x.strokes) (hy : RdI w ta y.strokes.length tc y.strokes) :
    Calls Tryz.prog 72 #[.agg (noteA x sa sc), .agg (noteA y ta tc)] w fun e w' => e = .returned (.bool (sameB x y)) ∧ Below w.heap.size w w' := by
  have hlast := heap_last w (.cells (noteA x sa sc) 51)
  have p0 := heap_before (w.alloc (.cells (noteA x sa sc) 51)) (.cells (noteA y ta tc) 51) _ _ hlast
  have q0 : ((w.alloc (.cells (noteA x sa sc) 51)).alloc (.cells (noteA y ta tc) 51)).heap[w.heap.size + 1]? = some (.cells (noteA y ta tc) 51) := by
    have := heap_last (w.alloc (.cells (noteA x sa sc) 51)) (.cells (noteA y ta tc) 51)
    simpa using this
  have hb : Below w.heap.size w ((w.alloc (.cells (noteA x sa sc) 51)).alloc (.cells (noteA y ta tc) 51)) := ((Below.refl _ _).alloc (Nat.le_refl _) _).alloc (by simp) _
  have hp : w.heap.size < ((w.alloc (.cells (noteA x sa sc) 51)).alloc (.cells (noteA y ta tc) 51)).heap.size := by simp; omega
  have hq : w.heap.size + 1 < ((w.alloc (.cells (noteA x sa sc) 51)).alloc (.cells (noteA y ta tc) 51)).heap.size := by simp
  clear hlast
  have H1 := Lib.hid p0; clear p0
  have H2 := Lib.hid q0; clear q0
  have HB := Lib.hid hb; clear hb
  have HP := Lib.hid hp; clear hp
  have HQ := Lib.hid hq; clear hq
  have hbx := hx.below HB.out
  have hby := hy.below HB.out
  have hmx := hx.maxn
  have hmy := hy.maxn
  have hu := Tryz.underlying51
  go_enter Tryz.func72, Tryz.ntmps72
  go_upto_region 1 with fail
  generalize (w.alloc (.cells (noteA x sa sc) 51)).alloc (.cells (noteA y ta tc) 51) = W at *
  generalize hpe : w.heap.size = p at *
  generalize hqe : p + 1 = q at *
  have HPE := Lib.hid hpe; clear hpe
  have HQE := Lib.hid hqe; clear hqe
  have HX := Lib.hid (show ∀ w0, Below W.heap.size W w0 → w0.heap[p]? = some (.cells (noteA x sa sc) 51 (0, 0)) from fun w0 h => (h.block p HP.out).trans H1.out)
  have HY := Lib.hid (show ∀ w0, Below W.heap.size W w0 → w0.heap[q]? = some (.cells (noteA y ta tc) 51 (0, 0)) from fun w0 h => (h.block q HQ.out).trans H2.out)
  have hZ : p ≤ W.heap.size := Nat.le_of_lt HP.out
  have c15 := note_cells (HX.out W (Below.refl _ _)) 15 _ rfl
  have d15 := note_cells (HY.out W (Below.refl _ _)) 15 _ rfl
  simp only [Nat.zero_add] at c15 d15
  have C15 := Lib.hid c15
  have D15 := Lib.hid d15
  by_cases hln : x.strokes.length = y.strokes.length
  · have hbn : ((x.strokes.length : Int) != (y.strokes.length : Int)) = false := by simp [hln]
    generalize hn : x.strokes.length = n at *
    have HN := Lib.hid hn
    have HM := Lib.hid hln
    have hln' : y.strokes.length = n := hln.symm
    rw [hln'] at hby d15
    clear hn hln hmy
    have D15' := Lib.hid d15
    go_wp2_with fail
    clear c15 d15
    go_loopw [5] (fun i wr => ∃ k : Nat, k ≤ n ∧ i = .int .i64 k ∧ Hid (∀ j, j < k → x.strokes[j]?.getD 0 = y.strokes[j]?.getD 0) ∧ Hid (Below W.heap.size W wr)) (fun i _ => n - (intOf i).toNat)
    case atStart => exact ⟨0, Nat.zero_le _, rfl, Lib.hid (fun j hj => by omega), Lib.hid (Below.refl _ _)⟩
    case round =>
      obtain ⟨k, hk, rfl, HRL, HW⟩ := hrel
      have c15 := ((HW.out.cell (p := ⟨p, 15, none⟩) HP.out).trans C15.out)
      have d15 := ((HW.out.cell (p := ⟨q, 15, none⟩) HQ.out).trans D15'.out)
      by_cases hlt : k < n
      · obtain ⟨b, off, rfl, hc⟩ := (hbx.below HW.out).at (by omega)
        obtain ⟨b', off', rfl, hc'⟩ := (hby.below HW.out).at (by omega)
        have e1 := hc k hlt
        have e2 := hc' k hlt
        clear hc hc' hbx hby
        have hk64 : (k : Int) ≤ 9223372036854775807 := by omega
        generalize hX : x.strokes[k]?.getD 0 = X at *
        generalize hY : y.strokes[k]?.getD 0 = Y at *
        have HX1 := Lib.hid hX; clear hX
        have HY1 := Lib.hid hY; clear hY
        by_cases he : X = Y
        · have hb := bne_no he
          have HE := Lib.hid he; clear he
          go_wp2_with fail
          go_quiet (fail)
          go_wp2_with fail
          go_roundw
          case rel => exact ⟨k + 1, by omega, by go_num, Lib.hid fun j hj => by
            rcases Nat.lt_succ_iff_lt_or_eq.1 hj with h | h
            · exact HRL.out j h
            · rw [h, HX1.out, HY1.out]; exact HE.out, Lib.hid (below_drewN HW.out _)⟩
          case measure => simp [intOf]; omega
        · have hb := bne_yes he
          have HE := Lib.hid he; clear he
          have hR : sameB x y = false := by
            rw [← Bool.not_eq_true, same_all]
            intro h
            apply HE.out
            rw [← HX1.out, ← HY1.out, h.2.2.2.2.2.2.2]
          have HR := Lib.hid hR; clear hR
          go_wp2_with fail
          go_quiet (fail)
          go_wp2_with fail
          go_ret
          rw [HR.out]
          exact ⟨rfl, by rw [HPE.out]; exact HB.out.trans ((below_drewN HW.out _).mono hZ)⟩
      · have hkn : k = n := by omega
        subst hkn
        have hst : x.strokes = y.strokes := ints_ext (by rw [HN.out, hln']) (fun j hj => HRL.out j (by rw [HN.out] at hj; exact hj))
        have HST := Lib.hid hst
        clear hst hbx hby
        have hC0 : Below W.heap.size W wr.drew := HW.out.drew
        by_cases h0 : x.house = y.house ∧ x.num = y.num
        · have HD := Lib.hid h0
          clear h0
          by_cases h1 : x.clock = y.clock
          · have q1 := bne_no h1
            have K1 := Lib.hid h1
            clear h1
            by_cases h2 : x.day = y.day
            · have q2 := bne_no h2
              have K2 := Lib.hid h2
              clear h2
              by_cases h3 : x.kind = y.kind
              · have q3 := bne_no h3
                have K3 := Lib.hid h3
                clear h3
                by_cases h4 : x.stone = y.stone
                · have q4 := bne_no h4
                  have K4 := Lib.hid h4
                  clear h4
                  by_cases h5 : x.heap = y.heap
                  · have q5 := bne_no h5
                    have K5 := Lib.hid h5
                    clear h5
                    by_cases h6 : x.turns = y.turns
                    · have q6 := bne_no h6
                      have K6 := Lib.hid h6
                      clear h6
                      go_upto_region 8 with fail
                      refine wp_region_quiet (C := fun w' : World => Below W.heap.size W w') (by kernel_rfl) (by kernel_rfl) hC0 ?_
                      show wpQuiet _ _ _ _ (_ :: _) _
                      go_big_quiet_want
                      refine ⟨.agg (noteA x sa sc), fun w0 hC => quiet_load43 (.tmp 2) rfl p rfl x sa sc (HX.out w0 hC), ?_⟩
                      simp only [Act.put, lq3, lq4, lq5]
                      go_big_quiet_on
                      go_big_quiet_want
                      refine ⟨.agg #[.int .i64 x.house, .int .i64 x.num], fun w0 hC => ?_, ?_⟩
                      · go_simp
                        refine (rNameOf_any x sa sc _).mono ?_; rintro e w1 ⟨rfl, b1⟩; exact ⟨rfl, hC.trans (b1.mono hC.size)⟩
                      simp only [Act.put, lq3, lq4, lq5]
                      go_big_quiet_on
                      go_big_quiet_want
                      refine ⟨.agg (noteA y ta tc), fun w0 hC => quiet_load43 (.tmp 3) rfl q rfl y ta tc (HY.out w0 hC), ?_⟩
                      simp only [Act.put, lq3, lq4, lq5]
                      go_big_quiet_on
                      go_big_quiet_want
                      refine ⟨.agg #[.int .i64 y.house, .int .i64 y.num], fun w0 hC => ?_, ?_⟩
                      · go_simp
                        refine (rNameOf_any y ta tc _).mono ?_; rintro e w1 ⟨rfl, b1⟩; exact ⟨rfl, hC.trans (b1.mono hC.size)⟩
                      simp only [Act.put, lq3, lq4, lq5]
                      go_big_quiet_on
                      go_big_quiet_want
                      refine ⟨.bool false, fun w0 hC => ?_, ?_⟩
                      · clear hC
                        go_simp
                        have h := HD.out
                        simp [h.1, h.2]
                      simp only [Act.put, lq3, lq4, lq5]
                      go_big_quiet_on
                      go_big_quiet_want
                      refine ⟨.bool false, fun w0 hC => ?_, ?_⟩
                      · clear hC
                        go_simp
                      simp only [Act.put, lq3, lq4, lq5]
                      go_big_quiet_on
                      go_big_quiet_want
                      refine ⟨.pointer (some ⟨p, 2, none⟩), fun w0 hC => ?_, ?_⟩
                      · clear hC
                        go_simp
                      simp only [Act.put, lq3, lq4, lq5]
                      go_big_quiet_on
                      go_big_quiet_want
                      refine ⟨.int .i64 x.clock, fun w0 hC => ?_, ?_⟩
                      · have c2 := note_cells (HX.out w0 hC) 2 _ rfl; simp only [Nat.zero_add] at c2
                        clear hC
                        go_simp
                      simp only [Act.put, lq3, lq4, lq5]
                      go_big_quiet_on
                      go_big_quiet_want
                      refine ⟨.pointer (some ⟨q, 2, none⟩), fun w0 hC => ?_, ?_⟩
                      · clear hC
                        go_simp
                      simp only [Act.put, lq3, lq4, lq5]
                      go_big_quiet_on
                      go_big_quiet_want
                      refine ⟨.int .i64 y.clock, fun w0 hC => ?_, ?_⟩
                      · have c2 := note_cells (HY.out w0 hC) 2 _ rfl; simp only [Nat.zero_add] at c2
                        clear hC
                        go_simp
                      simp only [Act.put, lq3, lq4, lq5]
                      go_big_quiet_on
                      go_big_quiet_want
                      refine ⟨.bool false, fun w0 hC => ?_, ?_⟩
                      · clear hC
                        go_simp
                      simp only [Act.put, lq3, lq4, lq5]
                      go_big_quiet_on
                      go_big_quiet_want
                      refine ⟨.bool false, fun w0 hC => ?_, ?_⟩
                      · clear hC
                        go_simp
                      simp only [Act.put, lq3, lq4, lq5]
                      go_big_quiet_on
                      go_big_quiet_want
                      refine ⟨.bool false, fun w0 hC => ?_, ?_⟩
                      · clear hC
                        go_simp
                      simp only [Act.put, lq3, lq4, lq5]
                      go_big_quiet_on
                      go_big_quiet_want
                      refine ⟨.pointer (some ⟨p, 3, none⟩), fun w0 hC => ?_, ?_⟩
                      · clear hC
                        go_simp
                      simp only [Act.put, lq3, lq4, lq5]
                      go_big_quiet_on
                      go_big_quiet_want
                      refine ⟨.int .i64 x.day, fun w0 hC => ?_, ?_⟩
                      · have c3 := note_cells (HX.out w0 hC) 3 _ rfl; simp only [Nat.zero_add] at c3
                        clear hC
                        go_simp
                      simp only [Act.put, lq3, lq4, lq5]
                      go_big_quiet_on
                      go_big_quiet_want
                      refine ⟨.pointer (some ⟨q, 3, none⟩), fun w0 hC => ?_, ?_⟩
                      · clear hC
                        go_simp
                      simp only [Act.put, lq3, lq4, lq5]
                      go_big_quiet_on
                      go_big_quiet_want
                      refine ⟨.int .i64 y.day, fun w0 hC => ?_, ?_⟩
                      · have c3 := note_cells (HY.out w0 hC) 3 _ rfl; simp only [Nat.zero_add] at c3
                        clear hC
                        go_simp
                      simp only [Act.put, lq3, lq4, lq5]
                      go_big_quiet_on
                      go_big_quiet_want
                      refine ⟨.bool false, fun w0 hC => ?_, ?_⟩
                      · clear hC
                        go_simp
                      simp only [Act.put, lq3, lq4, lq5]
                      go_big_quiet_on
                      go_big_quiet_want
                      refine ⟨.bool false, fun w0 hC => ?_, ?_⟩
                      · clear hC
                        go_simp
                      simp only [Act.put, lq3, lq4, lq5]
                      go_big_quiet_on
                      go_big_quiet_want
                      refine ⟨.bool false, fun w0 hC => ?_, ?_⟩
                      · clear hC
                        go_simp
                      simp only [Act.put, lq3, lq4, lq5]
                      go_big_quiet_on
                      go_big_quiet_want
                      refine ⟨.pointer (some ⟨p, 4, none⟩), fun w0 hC => ?_, ?_⟩
                      · clear hC
                        go_simp
                      simp only [Act.put, lq3, lq4, lq5]
                      go_big_quiet_on
                      go_big_quiet_want
                      refine ⟨.int .i64 x.kind, fun w0 hC => ?_, ?_⟩
                      · have c4 := note_cells (HX.out w0 hC) 4 _ rfl; simp only [Nat.zero_add] at c4
                        clear hC
                        go_simp
                      simp only [Act.put, lq3, lq4, lq5]
                      go_big_quiet_on
                      go_big_quiet_want
                      refine ⟨.pointer (some ⟨q, 4, none⟩), fun w0 hC => ?_, ?_⟩
                      · clear hC
                        go_simp
                      simp only [Act.put, lq3, lq4, lq5]
                      go_big_quiet_on
                      go_big_quiet_want
                      refine ⟨.int .i64 y.kind, fun w0 hC => ?_, ?_⟩
                      · have c4 := note_cells (HY.out w0 hC) 4 _ rfl; simp only [Nat.zero_add] at c4
                        clear hC
                        go_simp
                      simp only [Act.put, lq3, lq4, lq5]
                      go_big_quiet_on
                      go_big_quiet_want
                      refine ⟨.bool false, fun w0 hC => ?_, ?_⟩
                      · clear hC
                        go_simp
                      simp only [Act.put, lq3, lq4, lq5]
                      go_big_quiet_on
                      go_big_quiet_want
                      refine ⟨.bool false, fun w0 hC => ?_, ?_⟩
                      · clear hC
                        go_simp
                      simp only [Act.put, lq3, lq4, lq5]
                      go_big_quiet_on
                      go_big_quiet_want
                      refine ⟨.bool false, fun w0 hC => ?_, ?_⟩
                      · clear hC
                        go_simp
                      simp only [Act.put, lq3, lq4, lq5]
                      go_big_quiet_on
                      go_big_quiet_want
                      refine ⟨.pointer (some ⟨p, 5, none⟩), fun w0 hC => ?_, ?_⟩
                      · clear hC
                        go_simp
                      simp only [Act.put, lq3, lq4, lq5]
                      go_big_quiet_on
                      go_big_quiet_want
                      refine ⟨.int .i64 x.stone, fun w0 hC => ?_, ?_⟩
                      · have c5 := note_cells (HX.out w0 hC) 5 _ rfl; simp only [Nat.zero_add] at c5
                        clear hC
                        go_simp
                      simp only [Act.put, lq3, lq4, lq5]
                      go_big_quiet_on
                      go_big_quiet_want
                      refine ⟨.pointer (some ⟨q, 5, none⟩), fun w0 hC => ?_, ?_⟩
                      · clear hC
                        go_simp
                      simp only [Act.put, lq3, lq4, lq5]
                      go_big_quiet_on
                      go_big_quiet_want
                      refine ⟨.int .i64 y.stone, fun w0 hC => ?_, ?_⟩
                      · have c5 := note_cells (HY.out w0 hC) 5 _ rfl; simp only [Nat.zero_add] at c5
                        clear hC
                        go_simp
                      simp only [Act.put, lq3, lq4, lq5]
                      go_big_quiet_on
                      go_big_quiet_want
                      refine ⟨.bool false, fun w0 hC => ?_, ?_⟩
                      · clear hC
                        go_simp
                      simp only [Act.put, lq3, lq4, lq5]
                      go_big_quiet_on
                      go_big_quiet_want
                      refine ⟨.bool false, fun w0 hC => ?_, ?_⟩
                      · clear hC
                        go_simp
                      simp only [Act.put, lq3, lq4, lq5]
                      go_big_quiet_on
                      go_big_quiet_want
                      refine ⟨.bool false, fun w0 hC => ?_, ?_⟩
                      · clear hC
                        go_simp
                      simp only [Act.put, lq3, lq4, lq5]
                      go_big_quiet_on
                      go_big_quiet_want
                      refine ⟨.pointer (some ⟨p, 6, none⟩), fun w0 hC => ?_, ?_⟩
                      · clear hC
                        go_simp
                      simp only [Act.put, lq3, lq4, lq5]
                      go_big_quiet_on
                      go_big_quiet_want
                      refine ⟨.int .i64 x.heap, fun w0 hC => ?_, ?_⟩
                      · have c6 := note_cells (HX.out w0 hC) 6 _ rfl; simp only [Nat.zero_add] at c6
                        clear hC
                        go_simp
                      simp only [Act.put, lq3, lq4, lq5]
                      go_big_quiet_on
                      go_big_quiet_want
                      refine ⟨.pointer (some ⟨q, 6, none⟩), fun w0 hC => ?_, ?_⟩
                      · clear hC
                        go_simp
                      simp only [Act.put, lq3, lq4, lq5]
                      go_big_quiet_on
                      go_big_quiet_want
                      refine ⟨.int .i64 y.heap, fun w0 hC => ?_, ?_⟩
                      · have c6 := note_cells (HY.out w0 hC) 6 _ rfl; simp only [Nat.zero_add] at c6
                        clear hC
                        go_simp
                      simp only [Act.put, lq3, lq4, lq5]
                      go_big_quiet_on
                      go_big_quiet_want
                      refine ⟨.bool false, fun w0 hC => ?_, ?_⟩
                      · clear hC
                        go_simp
                      simp only [Act.put, lq3, lq4, lq5]
                      go_big_quiet_on
                      go_big_quiet_want
                      refine ⟨.bool false, fun w0 hC => ?_, ?_⟩
                      · clear hC
                        go_simp
                      simp only [Act.put, lq3, lq4, lq5]
                      go_big_quiet_on
                      go_big_quiet_want
                      refine ⟨.bool false, fun w0 hC => ?_, ?_⟩
                      · clear hC
                        go_simp
                      simp only [Act.put, lq3, lq4, lq5]
                      go_big_quiet_on
                      go_big_quiet_want
                      refine ⟨.pointer (some ⟨p, 7, none⟩), fun w0 hC => ?_, ?_⟩
                      · clear hC
                        go_simp
                      simp only [Act.put, lq3, lq4, lq5]
                      go_big_quiet_on
                      go_big_quiet_want
                      refine ⟨.int .i64 x.turns, fun w0 hC => ?_, ?_⟩
                      · have c7 := note_cells (HX.out w0 hC) 7 _ rfl; simp only [Nat.zero_add] at c7
                        clear hC
                        go_simp
                      simp only [Act.put, lq3, lq4, lq5]
                      go_big_quiet_on
                      go_big_quiet_want
                      refine ⟨.pointer (some ⟨q, 7, none⟩), fun w0 hC => ?_, ?_⟩
                      · clear hC
                        go_simp
                      simp only [Act.put, lq3, lq4, lq5]
                      go_big_quiet_on
                      go_big_quiet_want
                      refine ⟨.int .i64 y.turns, fun w0 hC => ?_, ?_⟩
                      · have c7 := note_cells (HY.out w0 hC) 7 _ rfl; simp only [Nat.zero_add] at c7
                        clear hC
                        go_simp
                      simp only [Act.put, lq3, lq4, lq5]
                      go_big_quiet_on
                      go_big_quiet_want
                      refine ⟨.bool false, fun w0 hC => ?_, ?_⟩
                      · clear hC
                        go_simp
                      simp only [Act.put, lq3, lq4, lq5]
                      go_big_quiet_on
                      go_big_quiet_want
                      refine ⟨.bool false, fun w0 hC => ?_, ?_⟩
                      · clear hC
                        go_simp
                      simp only [Act.put, lq3, lq4, lq5]
                      go_big_quiet_on
                      refine wpQuiet_nil ?_
                      intro w' hC
                      generalize hw9 : wr = w9 at *
                      have ch0 := note_cells (HX.out w' hC)
                      have dh0 := note_cells (HY.out w' hC)
                      have CH := Lib.hid ch0
                      have DH := Lib.hid dh0
                      clear ch0 dh0
                      have x8 := CH.out 8 _ rfl
                      have x9 := CH.out 9 _ rfl
                      have x10 := CH.out 10 _ rfl
                      have x11 := CH.out 11 _ rfl
                      have x12 := CH.out 12 _ rfl
                      have x13 := CH.out 13 _ rfl
                      have x14 := CH.out 14 _ rfl
                      have x16 := CH.out 16 _ rfl
                      have x17 := CH.out 17 _ rfl
                      have x18 := CH.out 18 _ rfl
                      have y8 := DH.out 8 _ rfl
                      have y9 := DH.out 9 _ rfl
                      have y10 := DH.out 10 _ rfl
                      have y11 := DH.out 11 _ rfl
                      have y12 := DH.out 12 _ rfl
                      have y13 := DH.out 13 _ rfl
                      have y14 := DH.out 14 _ rfl
                      have y16 := DH.out 16 _ rfl
                      have y17 := DH.out 17 _ rfl
                      have y18 := DH.out 18 _ rfl
                      simp only [Nat.zero_add] at x8 x9 x10 x11 x12 x13 x14 x16 x17 x18 y8 y9 y10 y11 y12 y13 y14 y16 y17 y18
                      have HBC := Lib.hid (HB.out.trans (hC.mono hZ))
                      clear hC
                      have hS : sameB x y = (decide (x.hardLo = y.hardLo ∧ x.hardHi = y.hardHi) && (decide (x.diffLo = y.diffLo ∧ x.diffHi = y.diffHi) && (decide (x.a = y.a) && (decide (x.b = y.b) && (decide (x.ring = y.ring) && (decide (x.refH = y.refH ∧ x.refN = y.refN) && decide (x.fix = y.fix))))))) := by
                        rw [Bool.eq_iff_iff, same_all]
                        simp [HD.out, HST.out, K1.out, K2.out, K3.out, K4.out, K5.out, K6.out]
                        grind
                      have HS := Lib.hid hS; clear hS
                      go_wp2_with fail
                      all_goals
                        go_ret
                        rw [HS.out]
                        refine ⟨?_, by rw [HPE.out]; exact HBC.out⟩
                        first | (simp_all only [decide_true, decide_false, Bool.true_and, Bool.false_and, Bool.and_true, Bool.and_false, and_true, true_and, and_false, false_and]; done) | (clear hu HX HY H1 H2 CH DH C15 D15 D15' hx hy; simp [*]; done) | (clear hu HX HY H1 H2 CH DH C15 D15 D15' hx hy; simp [*]; by_cases hh : x.fix = y.fix <;> simp [hh])
                    · have q6 := bne_yes h6
                      have hR : sameB x y = false := by rw [← Bool.not_eq_true, same_all]; intro h; exact h6 h.2.1.2.2.2.2.2
                      have HR := Lib.hid hR; clear hR h6
                      go_upto_region 8 with fail
                      refine wp_region_quiet (C := fun w' : World => Below W.heap.size W w') (by kernel_rfl) (by kernel_rfl) hC0 ?_
                      show wpQuiet _ _ _ _ (_ :: _) _
                      go_big_quiet_want
                      refine ⟨.agg (noteA x sa sc), fun w0 hC => quiet_load43 (.tmp 2) rfl p rfl x sa sc (HX.out w0 hC), ?_⟩
                      simp only [Act.put, lq3, lq4, lq5]
                      go_big_quiet_on
                      go_big_quiet_want
                      refine ⟨.agg #[.int .i64 x.house, .int .i64 x.num], fun w0 hC => ?_, ?_⟩
                      · go_simp
                        refine (rNameOf_any x sa sc _).mono ?_; rintro e w1 ⟨rfl, b1⟩; exact ⟨rfl, hC.trans (b1.mono hC.size)⟩
                      simp only [Act.put, lq3, lq4, lq5]
                      go_big_quiet_on
                      go_big_quiet_want
                      refine ⟨.agg (noteA y ta tc), fun w0 hC => quiet_load43 (.tmp 3) rfl q rfl y ta tc (HY.out w0 hC), ?_⟩
                      simp only [Act.put, lq3, lq4, lq5]
                      go_big_quiet_on
                      go_big_quiet_want
                      refine ⟨.agg #[.int .i64 y.house, .int .i64 y.num], fun w0 hC => ?_, ?_⟩
                      · go_simp
                        refine (rNameOf_any y ta tc _).mono ?_; rintro e w1 ⟨rfl, b1⟩; exact ⟨rfl, hC.trans (b1.mono hC.size)⟩
                      simp only [Act.put, lq3, lq4, lq5]
                      go_big_quiet_on
                      go_big_quiet_want
                      refine ⟨.bool false, fun w0 hC => ?_, ?_⟩
                      · clear hC
                        go_simp
                        have h := HD.out
                        simp [h.1, h.2]
                      simp only [Act.put, lq3, lq4, lq5]
                      go_big_quiet_on
                      go_big_quiet_want
                      refine ⟨.bool false, fun w0 hC => ?_, ?_⟩
                      · clear hC
                        go_simp
                      simp only [Act.put, lq3, lq4, lq5]
                      go_big_quiet_on
                      go_big_quiet_want
                      refine ⟨.pointer (some ⟨p, 2, none⟩), fun w0 hC => ?_, ?_⟩
                      · clear hC
                        go_simp
                      simp only [Act.put, lq3, lq4, lq5]
                      go_big_quiet_on
                      go_big_quiet_want
                      refine ⟨.int .i64 x.clock, fun w0 hC => ?_, ?_⟩
                      · have c2 := note_cells (HX.out w0 hC) 2 _ rfl; simp only [Nat.zero_add] at c2
                        clear hC
                        go_simp
                      simp only [Act.put, lq3, lq4, lq5]
                      go_big_quiet_on
                      go_big_quiet_want
                      refine ⟨.pointer (some ⟨q, 2, none⟩), fun w0 hC => ?_, ?_⟩
                      · clear hC
                        go_simp
                      simp only [Act.put, lq3, lq4, lq5]
                      go_big_quiet_on
                      go_big_quiet_want
                      refine ⟨.int .i64 y.clock, fun w0 hC => ?_, ?_⟩
                      · have c2 := note_cells (HY.out w0 hC) 2 _ rfl; simp only [Nat.zero_add] at c2
                        clear hC
                        go_simp
                      simp only [Act.put, lq3, lq4, lq5]
                      go_big_quiet_on
                      go_big_quiet_want
                      refine ⟨.bool false, fun w0 hC => ?_, ?_⟩
                      · clear hC
                        go_simp
                      simp only [Act.put, lq3, lq4, lq5]
                      go_big_quiet_on
                      go_big_quiet_want
                      refine ⟨.bool false, fun w0 hC => ?_, ?_⟩
                      · clear hC
                        go_simp
                      simp only [Act.put, lq3, lq4, lq5]
                      go_big_quiet_on
                      go_big_quiet_want
                      refine ⟨.bool false, fun w0 hC => ?_, ?_⟩
                      · clear hC
                        go_simp
                      simp only [Act.put, lq3, lq4, lq5]
                      go_big_quiet_on
                      go_big_quiet_want
                      refine ⟨.pointer (some ⟨p, 3, none⟩), fun w0 hC => ?_, ?_⟩
                      · clear hC
                        go_simp
                      simp only [Act.put, lq3, lq4, lq5]
                      go_big_quiet_on
                      go_big_quiet_want
                      refine ⟨.int .i64 x.day, fun w0 hC => ?_, ?_⟩
                      · have c3 := note_cells (HX.out w0 hC) 3 _ rfl; simp only [Nat.zero_add] at c3
                        clear hC
                        go_simp
                      simp only [Act.put, lq3, lq4, lq5]
                      go_big_quiet_on
                      go_big_quiet_want
                      refine ⟨.pointer (some ⟨q, 3, none⟩), fun w0 hC => ?_, ?_⟩
                      · clear hC
                        go_simp
                      simp only [Act.put, lq3, lq4, lq5]
                      go_big_quiet_on
                      go_big_quiet_want
                      refine ⟨.int .i64 y.day, fun w0 hC => ?_, ?_⟩
                      · have c3 := note_cells (HY.out w0 hC) 3 _ rfl; simp only [Nat.zero_add] at c3
                        clear hC
                        go_simp
                      simp only [Act.put, lq3, lq4, lq5]
                      go_big_quiet_on
                      go_big_quiet_want
                      refine ⟨.bool false, fun w0 hC => ?_, ?_⟩
                      · clear hC
                        go_simp
                      simp only [Act.put, lq3, lq4, lq5]
                      go_big_quiet_on
                      go_big_quiet_want
                      refine ⟨.bool false, fun w0 hC => ?_, ?_⟩
                      · clear hC
                        go_simp
                      simp only [Act.put, lq3, lq4, lq5]
                      go_big_quiet_on
                      go_big_quiet_want
                      refine ⟨.bool false, fun w0 hC => ?_, ?_⟩
                      · clear hC
                        go_simp
                      simp only [Act.put, lq3, lq4, lq5]
                      go_big_quiet_on
                      go_big_quiet_want
                      refine ⟨.pointer (some ⟨p, 4, none⟩), fun w0 hC => ?_, ?_⟩
                      · clear hC
                        go_simp
                      simp only [Act.put, lq3, lq4, lq5]
                      go_big_quiet_on
                      go_big_quiet_want
                      refine ⟨.int .i64 x.kind, fun w0 hC => ?_, ?_⟩
                      · have c4 := note_cells (HX.out w0 hC) 4 _ rfl; simp only [Nat.zero_add] at c4
                        clear hC
                        go_simp
                      simp only [Act.put, lq3, lq4, lq5]
                      go_big_quiet_on
                      go_big_quiet_want
                      refine ⟨.pointer (some ⟨q, 4, none⟩), fun w0 hC => ?_, ?_⟩
                      · clear hC
                        go_simp
                      simp only [Act.put, lq3, lq4, lq5]
                      go_big_quiet_on
                      go_big_quiet_want
                      refine ⟨.int .i64 y.kind, fun w0 hC => ?_, ?_⟩
                      · have c4 := note_cells (HY.out w0 hC) 4 _ rfl; simp only [Nat.zero_add] at c4
                        clear hC
                        go_simp
                      simp only [Act.put, lq3, lq4, lq5]
                      go_big_quiet_on
                      go_big_quiet_want
                      refine ⟨.bool false, fun w0 hC => ?_, ?_⟩
                      · clear hC
                        go_simp
                      simp only [Act.put, lq3, lq4, lq5]
                      go_big_quiet_on
                      go_big_quiet_want
                      refine ⟨.bool false, fun w0 hC => ?_, ?_⟩
                      · clear hC
                        go_simp
                      simp only [Act.put, lq3, lq4, lq5]
                      go_big_quiet_on
                      go_big_quiet_want
                      refine ⟨.bool false, fun w0 hC => ?_, ?_⟩
                      · clear hC
                        go_simp
                      simp only [Act.put, lq3, lq4, lq5]
                      go_big_quiet_on
                      go_big_quiet_want
                      refine ⟨.pointer (some ⟨p, 5, none⟩), fun w0 hC => ?_, ?_⟩
                      · clear hC
                        go_simp
                      simp only [Act.put, lq3, lq4, lq5]
                      go_big_quiet_on
                      go_big_quiet_want
                      refine ⟨.int .i64 x.stone, fun w0 hC => ?_, ?_⟩
                      · have c5 := note_cells (HX.out w0 hC) 5 _ rfl; simp only [Nat.zero_add] at c5
                        clear hC
                        go_simp
                      simp only [Act.put, lq3, lq4, lq5]
                      go_big_quiet_on
                      go_big_quiet_want
                      refine ⟨.pointer (some ⟨q, 5, none⟩), fun w0 hC => ?_, ?_⟩
                      · clear hC
                        go_simp
                      simp only [Act.put, lq3, lq4, lq5]
                      go_big_quiet_on
                      go_big_quiet_want
                      refine ⟨.int .i64 y.stone, fun w0 hC => ?_, ?_⟩
                      · have c5 := note_cells (HY.out w0 hC) 5 _ rfl; simp only [Nat.zero_add] at c5
                        clear hC
                        go_simp
                      simp only [Act.put, lq3, lq4, lq5]
                      go_big_quiet_on
                      go_big_quiet_want
                      refine ⟨.bool false, fun w0 hC => ?_, ?_⟩
                      · clear hC
                        go_simp
                      simp only [Act.put, lq3, lq4, lq5]
                      go_big_quiet_on
                      go_big_quiet_want
                      refine ⟨.bool false, fun w0 hC => ?_, ?_⟩
                      · clear hC
                        go_simp
                      simp only [Act.put, lq3, lq4, lq5]
                      go_big_quiet_on
                      go_big_quiet_want
                      refine ⟨.bool false, fun w0 hC => ?_, ?_⟩
                      · clear hC
                        go_simp
                      simp only [Act.put, lq3, lq4, lq5]
                      go_big_quiet_on
                      go_big_quiet_want
                      refine ⟨.pointer (some ⟨p, 6, none⟩), fun w0 hC => ?_, ?_⟩
                      · clear hC
                        go_simp
                      simp only [Act.put, lq3, lq4, lq5]
                      go_big_quiet_on
                      go_big_quiet_want
                      refine ⟨.int .i64 x.heap, fun w0 hC => ?_, ?_⟩
                      · have c6 := note_cells (HX.out w0 hC) 6 _ rfl; simp only [Nat.zero_add] at c6
                        clear hC
                        go_simp
                      simp only [Act.put, lq3, lq4, lq5]
                      go_big_quiet_on
                      go_big_quiet_want
                      refine ⟨.pointer (some ⟨q, 6, none⟩), fun w0 hC => ?_, ?_⟩
                      · clear hC
                        go_simp
                      simp only [Act.put, lq3, lq4, lq5]
                      go_big_quiet_on
                      go_big_quiet_want
                      refine ⟨.int .i64 y.heap, fun w0 hC => ?_, ?_⟩
                      · have c6 := note_cells (HY.out w0 hC) 6 _ rfl; simp only [Nat.zero_add] at c6
                        clear hC
                        go_simp
                      simp only [Act.put, lq3, lq4, lq5]
                      go_big_quiet_on
                      go_big_quiet_want
                      refine ⟨.bool false, fun w0 hC => ?_, ?_⟩
                      · clear hC
                        go_simp
                      simp only [Act.put, lq3, lq4, lq5]
                      go_big_quiet_on
                      go_big_quiet_want
                      refine ⟨.bool false, fun w0 hC => ?_, ?_⟩
                      · clear hC
                        go_simp
                      simp only [Act.put, lq3, lq4, lq5]
                      go_big_quiet_on
                      go_big_quiet_want
                      refine ⟨.bool false, fun w0 hC => ?_, ?_⟩
                      · clear hC
                        go_simp
                      simp only [Act.put, lq3, lq4, lq5]
                      go_big_quiet_on
                      go_big_quiet_want
                      refine ⟨.pointer (some ⟨p, 7, none⟩), fun w0 hC => ?_, ?_⟩
                      · clear hC
                        go_simp
                      simp only [Act.put, lq3, lq4, lq5]
                      go_big_quiet_on
                      go_big_quiet_want
                      refine ⟨.int .i64 x.turns, fun w0 hC => ?_, ?_⟩
                      · have c7 := note_cells (HX.out w0 hC) 7 _ rfl; simp only [Nat.zero_add] at c7
                        clear hC
                        go_simp
                      simp only [Act.put, lq3, lq4, lq5]
                      go_big_quiet_on
                      go_big_quiet_want
                      refine ⟨.pointer (some ⟨q, 7, none⟩), fun w0 hC => ?_, ?_⟩
                      · clear hC
                        go_simp
                      simp only [Act.put, lq3, lq4, lq5]
                      go_big_quiet_on
                      go_big_quiet_want
                      refine ⟨.int .i64 y.turns, fun w0 hC => ?_, ?_⟩
                      · have c7 := note_cells (HY.out w0 hC) 7 _ rfl; simp only [Nat.zero_add] at c7
                        clear hC
                        go_simp
                      simp only [Act.put, lq3, lq4, lq5]
                      go_big_quiet_on
                      go_big_quiet_want
                      refine ⟨.bool true, fun w0 hC => ?_, ?_⟩
                      · clear hC
                        go_simp
                      simp only [Act.put, lq3, lq4, lq5]
                      go_big_quiet_on
                      go_big_quiet_want
                      refine ⟨.bool true, fun w0 hC => ?_, ?_⟩
                      · clear hC
                        go_simp
                      simp only [Act.put, lq3, lq4, lq5]
                      go_big_quiet_on
                      refine wpQuiet_nil ?_
                      intro w' hC
                      go_wp2_with fail
                      go_ret
                      rw [HR.out]
                      exact ⟨rfl, by rw [HPE.out]; exact HB.out.trans (hC.mono hZ)⟩
                  · have q5 := bne_yes h5
                    have hR : sameB x y = false := by rw [← Bool.not_eq_true, same_all]; intro h; exact h5 h.2.1.2.2.2.2.1
                    have HR := Lib.hid hR; clear hR h5
                    go_upto_region 8 with fail
                    refine wp_region_quiet (C := fun w' : World => Below W.heap.size W w') (by kernel_rfl) (by kernel_rfl) hC0 ?_
                    show wpQuiet _ _ _ _ (_ :: _) _
                    go_big_quiet_want
                    refine ⟨.agg (noteA x sa sc), fun w0 hC => quiet_load43 (.tmp 2) rfl p rfl x sa sc (HX.out w0 hC), ?_⟩
                    simp only [Act.put, lq3, lq4, lq5]
                    go_big_quiet_on
                    go_big_quiet_want
                    refine ⟨.agg #[.int .i64 x.house, .int .i64 x.num], fun w0 hC => ?_, ?_⟩
                    · go_simp
                      refine (rNameOf_any x sa sc _).mono ?_; rintro e w1 ⟨rfl, b1⟩; exact ⟨rfl, hC.trans (b1.mono hC.size)⟩
                    simp only [Act.put, lq3, lq4, lq5]
                    go_big_quiet_on
                    go_big_quiet_want
                    refine ⟨.agg (noteA y ta tc), fun w0 hC => quiet_load43 (.tmp 3) rfl q rfl y ta tc (HY.out w0 hC), ?_⟩
                    simp only [Act.put, lq3, lq4, lq5]
                    go_big_quiet_on
                    go_big_quiet_want
                    refine ⟨.agg #[.int .i64 y.house, .int .i64 y.num], fun w0 hC => ?_, ?_⟩
                    · go_simp
                      refine (rNameOf_any y ta tc _).mono ?_; rintro e w1 ⟨rfl, b1⟩; exact ⟨rfl, hC.trans (b1.mono hC.size)⟩
                    simp only [Act.put, lq3, lq4, lq5]
                    go_big_quiet_on
                    go_big_quiet_want
                    refine ⟨.bool false, fun w0 hC => ?_, ?_⟩
                    · clear hC
                      go_simp
                      have h := HD.out
                      simp [h.1, h.2]
                    simp only [Act.put, lq3, lq4, lq5]
                    go_big_quiet_on
                    go_big_quiet_want
                    refine ⟨.bool false, fun w0 hC => ?_, ?_⟩
                    · clear hC
                      go_simp
                    simp only [Act.put, lq3, lq4, lq5]
                    go_big_quiet_on
                    go_big_quiet_want
                    refine ⟨.pointer (some ⟨p, 2, none⟩), fun w0 hC => ?_, ?_⟩
                    · clear hC
                      go_simp
                    simp only [Act.put, lq3, lq4, lq5]
                    go_big_quiet_on
                    go_big_quiet_want
                    refine ⟨.int .i64 x.clock, fun w0 hC => ?_, ?_⟩
                    · have c2 := note_cells (HX.out w0 hC) 2 _ rfl; simp only [Nat.zero_add] at c2
                      clear hC
                      go_simp
                    simp only [Act.put, lq3, lq4, lq5]
                    go_big_quiet_on
                    go_big_quiet_want
                    refine ⟨.pointer (some ⟨q, 2, none⟩), fun w0 hC => ?_, ?_⟩
                    · clear hC
                      go_simp
                    simp only [Act.put, lq3, lq4, lq5]
                    go_big_quiet_on
                    go_big_quiet_want
                    refine ⟨.int .i64 y.clock, fun w0 hC => ?_, ?_⟩
                    · have c2 := note_cells (HY.out w0 hC) 2 _ rfl; simp only [Nat.zero_add] at c2
                      clear hC
                      go_simp
                    simp only [Act.put, lq3, lq4, lq5]
                    go_big_quiet_on
                    go_big_quiet_want
                    refine ⟨.bool false, fun w0 hC => ?_, ?_⟩
                    · clear hC
                      go_simp
                    simp only [Act.put, lq3, lq4, lq5]
                    go_big_quiet_on
                    go_big_quiet_want
                    refine ⟨.bool false, fun w0 hC => ?_, ?_⟩
                    · clear hC
                      go_simp
                    simp only [Act.put, lq3, lq4, lq5]
                    go_big_quiet_on
                    go_big_quiet_want
                    refine ⟨.bool false, fun w0 hC => ?_, ?_⟩
                    · clear hC
                      go_simp
                    simp only [Act.put, lq3, lq4, lq5]
                    go_big_quiet_on
                    go_big_quiet_want
                    refine ⟨.pointer (some ⟨p, 3, none⟩), fun w0 hC => ?_, ?_⟩
                    · clear hC
                      go_simp
                    simp only [Act.put, lq3, lq4, lq5]
                    go_big_quiet_on
                    go_big_quiet_want
                    refine ⟨.int .i64 x.day, fun w0 hC => ?_, ?_⟩
                    · have c3 := note_cells (HX.out w0 hC) 3 _ rfl; simp only [Nat.zero_add] at c3
                      clear hC
                      go_simp
                    simp only [Act.put, lq3, lq4, lq5]
                    go_big_quiet_on
                    go_big_quiet_want
                    refine ⟨.pointer (some ⟨q, 3, none⟩), fun w0 hC => ?_, ?_⟩
                    · clear hC
                      go_simp
                    simp only [Act.put, lq3, lq4, lq5]
                    go_big_quiet_on
                    go_big_quiet_want
                    refine ⟨.int .i64 y.day, fun w0 hC => ?_, ?_⟩
                    · have c3 := note_cells (HY.out w0 hC) 3 _ rfl; simp only [Nat.zero_add] at c3
                      clear hC
                      go_simp
                    simp only [Act.put, lq3, lq4, lq5]
                    go_big_quiet_on
                    go_big_quiet_want
                    refine ⟨.bool false, fun w0 hC => ?_, ?_⟩
                    · clear hC
                      go_simp
                    simp only [Act.put, lq3, lq4, lq5]
                    go_big_quiet_on
                    go_big_quiet_want
                    refine ⟨.bool false, fun w0 hC => ?_, ?_⟩
                    · clear hC
                      go_simp
                    simp only [Act.put, lq3, lq4, lq5]
                    go_big_quiet_on
                    go_big_quiet_want
                    refine ⟨.bool false, fun w0 hC => ?_, ?_⟩
                    · clear hC
                      go_simp
                    simp only [Act.put, lq3, lq4, lq5]
                    go_big_quiet_on
                    go_big_quiet_want
                    refine ⟨.pointer (some ⟨p, 4, none⟩), fun w0 hC => ?_, ?_⟩
                    · clear hC
                      go_simp
                    simp only [Act.put, lq3, lq4, lq5]
                    go_big_quiet_on
                    go_big_quiet_want
                    refine ⟨.int .i64 x.kind, fun w0 hC => ?_, ?_⟩
                    · have c4 := note_cells (HX.out w0 hC) 4 _ rfl; simp only [Nat.zero_add] at c4
                      clear hC
                      go_simp
                    simp only [Act.put, lq3, lq4, lq5]
                    go_big_quiet_on
                    go_big_quiet_want
                    refine ⟨.pointer (some ⟨q, 4, none⟩), fun w0 hC => ?_, ?_⟩
                    · clear hC
                      go_simp
                    simp only [Act.put, lq3, lq4, lq5]
                    go_big_quiet_on
                    go_big_quiet_want
                    refine ⟨.int .i64 y.kind, fun w0 hC => ?_, ?_⟩
                    · have c4 := note_cells (HY.out w0 hC) 4 _ rfl; simp only [Nat.zero_add] at c4
                      clear hC
                      go_simp
                    simp only [Act.put, lq3, lq4, lq5]
                    go_big_quiet_on
                    go_big_quiet_want
                    refine ⟨.bool false, fun w0 hC => ?_, ?_⟩
                    · clear hC
                      go_simp
                    simp only [Act.put, lq3, lq4, lq5]
                    go_big_quiet_on
                    go_big_quiet_want
                    refine ⟨.bool false, fun w0 hC => ?_, ?_⟩
                    · clear hC
                      go_simp
                    simp only [Act.put, lq3, lq4, lq5]
                    go_big_quiet_on
                    go_big_quiet_want
                    refine ⟨.bool false, fun w0 hC => ?_, ?_⟩
                    · clear hC
                      go_simp
                    simp only [Act.put, lq3, lq4, lq5]
                    go_big_quiet_on
                    go_big_quiet_want
                    refine ⟨.pointer (some ⟨p, 5, none⟩), fun w0 hC => ?_, ?_⟩
                    · clear hC
                      go_simp
                    simp only [Act.put, lq3, lq4, lq5]
                    go_big_quiet_on
                    go_big_quiet_want
                    refine ⟨.int .i64 x.stone, fun w0 hC => ?_, ?_⟩
                    · have c5 := note_cells (HX.out w0 hC) 5 _ rfl; simp only [Nat.zero_add] at c5
                      clear hC
                      go_simp
                    simp only [Act.put, lq3, lq4, lq5]
                    go_big_quiet_on
                    go_big_quiet_want
                    refine ⟨.pointer (some ⟨q, 5, none⟩), fun w0 hC => ?_, ?_⟩
                    · clear hC
                      go_simp
                    simp only [Act.put, lq3, lq4, lq5]
                    go_big_quiet_on
                    go_big_quiet_want
                    refine ⟨.int .i64 y.stone, fun w0 hC => ?_, ?_⟩
                    · have c5 := note_cells (HY.out w0 hC) 5 _ rfl; simp only [Nat.zero_add] at c5
                      clear hC
                      go_simp
                    simp only [Act.put, lq3, lq4, lq5]
                    go_big_quiet_on
                    go_big_quiet_want
                    refine ⟨.bool false, fun w0 hC => ?_, ?_⟩
                    · clear hC
                      go_simp
                    simp only [Act.put, lq3, lq4, lq5]
                    go_big_quiet_on
                    go_big_quiet_want
                    refine ⟨.bool false, fun w0 hC => ?_, ?_⟩
                    · clear hC
                      go_simp
                    simp only [Act.put, lq3, lq4, lq5]
                    go_big_quiet_on
                    go_big_quiet_want
                    refine ⟨.bool false, fun w0 hC => ?_, ?_⟩
                    · clear hC
                      go_simp
                    simp only [Act.put, lq3, lq4, lq5]
                    go_big_quiet_on
                    go_big_quiet_want
                    refine ⟨.pointer (some ⟨p, 6, none⟩), fun w0 hC => ?_, ?_⟩
                    · clear hC
                      go_simp
                    simp only [Act.put, lq3, lq4, lq5]
                    go_big_quiet_on
                    go_big_quiet_want
                    refine ⟨.int .i64 x.heap, fun w0 hC => ?_, ?_⟩
                    · have c6 := note_cells (HX.out w0 hC) 6 _ rfl; simp only [Nat.zero_add] at c6
                      clear hC
                      go_simp
                    simp only [Act.put, lq3, lq4, lq5]
                    go_big_quiet_on
                    go_big_quiet_want
                    refine ⟨.pointer (some ⟨q, 6, none⟩), fun w0 hC => ?_, ?_⟩
                    · clear hC
                      go_simp
                    simp only [Act.put, lq3, lq4, lq5]
                    go_big_quiet_on
                    go_big_quiet_want
                    refine ⟨.int .i64 y.heap, fun w0 hC => ?_, ?_⟩
                    · have c6 := note_cells (HY.out w0 hC) 6 _ rfl; simp only [Nat.zero_add] at c6
                      clear hC
                      go_simp
                    simp only [Act.put, lq3, lq4, lq5]
                    go_big_quiet_on
                    go_big_quiet_want
                    refine ⟨.bool true, fun w0 hC => ?_, ?_⟩
                    · clear hC
                      go_simp
                    simp only [Act.put, lq3, lq4, lq5]
                    go_big_quiet_on
                    go_big_quiet_want
                    refine ⟨.bool true, fun w0 hC => ?_, ?_⟩
                    · clear hC
                      go_simp
                    simp only [Act.put, lq3, lq4, lq5]
                    go_big_quiet_on
                    go_big_quiet_want
                    refine ⟨.bool true, fun w0 hC => ?_, ?_⟩
                    · clear hC
                      go_simp
                    simp only [Act.put, lq3, lq4, lq5]
                    go_big_quiet_on
                    go_big_quiet_skip
                    go_big_quiet_skip
                    go_big_quiet_skip
                    go_big_quiet_skip
                    go_big_quiet_skip
                    go_big_quiet_want
                    refine ⟨.bool true, fun w0 hC => ?_, ?_⟩
                    · clear hC
                      go_simp
                    simp only [Act.put, lq3, lq4, lq5]
                    go_big_quiet_on
                    refine wpQuiet_nil ?_
                    intro w' hC
                    go_wp2_with fail
                    go_ret
                    rw [HR.out]
                    exact ⟨rfl, by rw [HPE.out]; exact HB.out.trans (hC.mono hZ)⟩
                · have q4 := bne_yes h4
                  have hR : sameB x y = false := by rw [← Bool.not_eq_true, same_all]; intro h; exact h4 h.2.1.2.2.2.1
                  have HR := Lib.hid hR; clear hR h4
                  go_upto_region 8 with fail
                  refine wp_region_quiet (C := fun w' : World => Below W.heap.size W w') (by kernel_rfl) (by kernel_rfl) hC0 ?_
                  show wpQuiet _ _ _ _ (_ :: _) _
                  go_big_quiet_want
                  refine ⟨.agg (noteA x sa sc), fun w0 hC => quiet_load43 (.tmp 2) rfl p rfl x sa sc (HX.out w0 hC), ?_⟩
                  simp only [Act.put, lq3, lq4, lq5]
                  go_big_quiet_on
                  go_big_quiet_want
                  refine ⟨.agg #[.int .i64 x.house, .int .i64 x.num], fun w0 hC => ?_, ?_⟩
                  · go_simp
                    refine (rNameOf_any x sa sc _).mono ?_; rintro e w1 ⟨rfl, b1⟩; exact ⟨rfl, hC.trans (b1.mono hC.size)⟩
                  simp only [Act.put, lq3, lq4, lq5]
                  go_big_quiet_on
                  go_big_quiet_want
                  refine ⟨.agg (noteA y ta tc), fun w0 hC => quiet_load43 (.tmp 3) rfl q rfl y ta tc (HY.out w0 hC), ?_⟩
                  simp only [Act.put, lq3, lq4, lq5]
                  go_big_quiet_on
                  go_big_quiet_want
                  refine ⟨.agg #[.int .i64 y.house, .int .i64 y.num], fun w0 hC => ?_, ?_⟩
                  · go_simp
                    refine (rNameOf_any y ta tc _).mono ?_; rintro e w1 ⟨rfl, b1⟩; exact ⟨rfl, hC.trans (b1.mono hC.size)⟩
                  simp only [Act.put, lq3, lq4, lq5]
                  go_big_quiet_on
                  go_big_quiet_want
                  refine ⟨.bool false, fun w0 hC => ?_, ?_⟩
                  · clear hC
                    go_simp
                    have h := HD.out
                    simp [h.1, h.2]
                  simp only [Act.put, lq3, lq4, lq5]
                  go_big_quiet_on
                  go_big_quiet_want
                  refine ⟨.bool false, fun w0 hC => ?_, ?_⟩
                  · clear hC
                    go_simp
                  simp only [Act.put, lq3, lq4, lq5]
                  go_big_quiet_on
                  go_big_quiet_want
                  refine ⟨.pointer (some ⟨p, 2, none⟩), fun w0 hC => ?_, ?_⟩
                  · clear hC
                    go_simp
                  simp only [Act.put, lq3, lq4, lq5]
                  go_big_quiet_on
                  go_big_quiet_want
                  refine ⟨.int .i64 x.clock, fun w0 hC => ?_, ?_⟩
                  · have c2 := note_cells (HX.out w0 hC) 2 _ rfl; simp only [Nat.zero_add] at c2
                    clear hC
                    go_simp
                  simp only [Act.put, lq3, lq4, lq5]
                  go_big_quiet_on
                  go_big_quiet_want
                  refine ⟨.pointer (some ⟨q, 2, none⟩), fun w0 hC => ?_, ?_⟩
                  · clear hC
                    go_simp
                  simp only [Act.put, lq3, lq4, lq5]
                  go_big_quiet_on
                  go_big_quiet_want
                  refine ⟨.int .i64 y.clock, fun w0 hC => ?_, ?_⟩
                  · have c2 := note_cells (HY.out w0 hC) 2 _ rfl; simp only [Nat.zero_add] at c2
                    clear hC
                    go_simp
                  simp only [Act.put, lq3, lq4, lq5]
                  go_big_quiet_on
                  go_big_quiet_want
                  refine ⟨.bool false, fun w0 hC => ?_, ?_⟩
                  · clear hC
                    go_simp
                  simp only [Act.put, lq3, lq4, lq5]
                  go_big_quiet_on
                  go_big_quiet_want
                  refine ⟨.bool false, fun w0 hC => ?_, ?_⟩
                  · clear hC
                    go_simp
                  simp only [Act.put, lq3, lq4, lq5]
                  go_big_quiet_on
                  go_big_quiet_want
                  refine ⟨.bool false, fun w0 hC => ?_, ?_⟩
                  · clear hC
                    go_simp
                  simp only [Act.put, lq3, lq4, lq5]
                  go_big_quiet_on
                  go_big_quiet_want
                  refine ⟨.pointer (some ⟨p, 3, none⟩), fun w0 hC => ?_, ?_⟩
                  · clear hC
                    go_simp
                  simp only [Act.put, lq3, lq4, lq5]
                  go_big_quiet_on
                  go_big_quiet_want
                  refine ⟨.int .i64 x.day, fun w0 hC => ?_, ?_⟩
                  · have c3 := note_cells (HX.out w0 hC) 3 _ rfl; simp only [Nat.zero_add] at c3
                    clear hC
                    go_simp
                  simp only [Act.put, lq3, lq4, lq5]
                  go_big_quiet_on
                  go_big_quiet_want
                  refine ⟨.pointer (some ⟨q, 3, none⟩), fun w0 hC => ?_, ?_⟩
                  · clear hC
                    go_simp
                  simp only [Act.put, lq3, lq4, lq5]
                  go_big_quiet_on
                  go_big_quiet_want
                  refine ⟨.int .i64 y.day, fun w0 hC => ?_, ?_⟩
                  · have c3 := note_cells (HY.out w0 hC) 3 _ rfl; simp only [Nat.zero_add] at c3
                    clear hC
                    go_simp
                  simp only [Act.put, lq3, lq4, lq5]
                  go_big_quiet_on
                  go_big_quiet_want
                  refine ⟨.bool false, fun w0 hC => ?_, ?_⟩
                  · clear hC
                    go_simp
                  simp only [Act.put, lq3, lq4, lq5]
                  go_big_quiet_on
                  go_big_quiet_want
                  refine ⟨.bool false, fun w0 hC => ?_, ?_⟩
                  · clear hC
                    go_simp
                  simp only [Act.put, lq3, lq4, lq5]
                  go_big_quiet_on
                  go_big_quiet_want
                  refine ⟨.bool false, fun w0 hC => ?_, ?_⟩
                  · clear hC
                    go_simp
                  simp only [Act.put, lq3, lq4, lq5]
                  go_big_quiet_on
                  go_big_quiet_want
                  refine ⟨.pointer (some ⟨p, 4, none⟩), fun w0 hC => ?_, ?_⟩
                  · clear hC
                    go_simp
                  simp only [Act.put, lq3, lq4, lq5]
                  go_big_quiet_on
                  go_big_quiet_want
                  refine ⟨.int .i64 x.kind, fun w0 hC => ?_, ?_⟩
                  · have c4 := note_cells (HX.out w0 hC) 4 _ rfl; simp only [Nat.zero_add] at c4
                    clear hC
                    go_simp
                  simp only [Act.put, lq3, lq4, lq5]
                  go_big_quiet_on
                  go_big_quiet_want
                  refine ⟨.pointer (some ⟨q, 4, none⟩), fun w0 hC => ?_, ?_⟩
                  · clear hC
                    go_simp
                  simp only [Act.put, lq3, lq4, lq5]
                  go_big_quiet_on
                  go_big_quiet_want
                  refine ⟨.int .i64 y.kind, fun w0 hC => ?_, ?_⟩
                  · have c4 := note_cells (HY.out w0 hC) 4 _ rfl; simp only [Nat.zero_add] at c4
                    clear hC
                    go_simp
                  simp only [Act.put, lq3, lq4, lq5]
                  go_big_quiet_on
                  go_big_quiet_want
                  refine ⟨.bool false, fun w0 hC => ?_, ?_⟩
                  · clear hC
                    go_simp
                  simp only [Act.put, lq3, lq4, lq5]
                  go_big_quiet_on
                  go_big_quiet_want
                  refine ⟨.bool false, fun w0 hC => ?_, ?_⟩
                  · clear hC
                    go_simp
                  simp only [Act.put, lq3, lq4, lq5]
                  go_big_quiet_on
                  go_big_quiet_want
                  refine ⟨.bool false, fun w0 hC => ?_, ?_⟩
                  · clear hC
                    go_simp
                  simp only [Act.put, lq3, lq4, lq5]
                  go_big_quiet_on
                  go_big_quiet_want
                  refine ⟨.pointer (some ⟨p, 5, none⟩), fun w0 hC => ?_, ?_⟩
                  · clear hC
                    go_simp
                  simp only [Act.put, lq3, lq4, lq5]
                  go_big_quiet_on
                  go_big_quiet_want
                  refine ⟨.int .i64 x.stone, fun w0 hC => ?_, ?_⟩
                  · have c5 := note_cells (HX.out w0 hC) 5 _ rfl; simp only [Nat.zero_add] at c5
                    clear hC
                    go_simp
                  simp only [Act.put, lq3, lq4, lq5]
                  go_big_quiet_on
                  go_big_quiet_want
                  refine ⟨.pointer (some ⟨q, 5, none⟩), fun w0 hC => ?_, ?_⟩
                  · clear hC
                    go_simp
                  simp only [Act.put, lq3, lq4, lq5]
                  go_big_quiet_on
                  go_big_quiet_want
                  refine ⟨.int .i64 y.stone, fun w0 hC => ?_, ?_⟩
                  · have c5 := note_cells (HY.out w0 hC) 5 _ rfl; simp only [Nat.zero_add] at c5
                    clear hC
                    go_simp
                  simp only [Act.put, lq3, lq4, lq5]
                  go_big_quiet_on
                  go_big_quiet_want
                  refine ⟨.bool true, fun w0 hC => ?_, ?_⟩
                  · clear hC
                    go_simp
                  simp only [Act.put, lq3, lq4, lq5]
                  go_big_quiet_on
                  go_big_quiet_want
                  refine ⟨.bool true, fun w0 hC => ?_, ?_⟩
                  · clear hC
                    go_simp
                  simp only [Act.put, lq3, lq4, lq5]
                  go_big_quiet_on
                  go_big_quiet_want
                  refine ⟨.bool true, fun w0 hC => ?_, ?_⟩
                  · clear hC
                    go_simp
                  simp only [Act.put, lq3, lq4, lq5]
                  go_big_quiet_on
                  go_big_quiet_skip
                  go_big_quiet_skip
                  go_big_quiet_skip
                  go_big_quiet_skip
                  go_big_quiet_skip
                  go_big_quiet_want
                  refine ⟨.bool true, fun w0 hC => ?_, ?_⟩
                  · clear hC
                    go_simp
                  simp only [Act.put, lq3, lq4, lq5]
                  go_big_quiet_on
                  go_big_quiet_want
                  refine ⟨.bool true, fun w0 hC => ?_, ?_⟩
                  · clear hC
                    go_simp
                  simp only [Act.put, lq3, lq4, lq5]
                  go_big_quiet_on
                  go_big_quiet_skip
                  go_big_quiet_skip
                  go_big_quiet_skip
                  go_big_quiet_skip
                  go_big_quiet_skip
                  go_big_quiet_want
                  refine ⟨.bool true, fun w0 hC => ?_, ?_⟩
                  · clear hC
                    go_simp
                  simp only [Act.put, lq3, lq4, lq5]
                  go_big_quiet_on
                  refine wpQuiet_nil ?_
                  intro w' hC
                  go_wp2_with fail
                  go_ret
                  rw [HR.out]
                  exact ⟨rfl, by rw [HPE.out]; exact HB.out.trans (hC.mono hZ)⟩
              · have q3 := bne_yes h3
                have hR : sameB x y = false := by rw [← Bool.not_eq_true, same_all]; intro h; exact h3 h.2.1.2.2.1
                have HR := Lib.hid hR; clear hR h3
                go_upto_region 8 with fail
                refine wp_region_quiet (C := fun w' : World => Below W.heap.size W w') (by kernel_rfl) (by kernel_rfl) hC0 ?_
                show wpQuiet _ _ _ _ (_ :: _) _
                go_big_quiet_want
                refine ⟨.agg (noteA x sa sc), fun w0 hC => quiet_load43 (.tmp 2) rfl p rfl x sa sc (HX.out w0 hC), ?_⟩
                simp only [Act.put, lq3, lq4, lq5]
                go_big_quiet_on
                go_big_quiet_want
                refine ⟨.agg #[.int .i64 x.house, .int .i64 x.num], fun w0 hC => ?_, ?_⟩
                · go_simp
                  refine (rNameOf_any x sa sc _).mono ?_; rintro e w1 ⟨rfl, b1⟩; exact ⟨rfl, hC.trans (b1.mono hC.size)⟩
                simp only [Act.put, lq3, lq4, lq5]
                go_big_quiet_on
                go_big_quiet_want
                refine ⟨.agg (noteA y ta tc), fun w0 hC => quiet_load43 (.tmp 3) rfl q rfl y ta tc (HY.out w0 hC), ?_⟩
                simp only [Act.put, lq3, lq4, lq5]
                go_big_quiet_on
                go_big_quiet_want
                refine ⟨.agg #[.int .i64 y.house, .int .i64 y.num], fun w0 hC => ?_, ?_⟩
                · go_simp
                  refine (rNameOf_any y ta tc _).mono ?_; rintro e w1 ⟨rfl, b1⟩; exact ⟨rfl, hC.trans (b1.mono hC.size)⟩
                simp only [Act.put, lq3, lq4, lq5]
                go_big_quiet_on
                go_big_quiet_want
                refine ⟨.bool false, fun w0 hC => ?_, ?_⟩
                · clear hC
                  go_simp
                  have h := HD.out
                  simp [h.1, h.2]
                simp only [Act.put, lq3, lq4, lq5]
                go_big_quiet_on
                go_big_quiet_want
                refine ⟨.bool false, fun w0 hC => ?_, ?_⟩
                · clear hC
                  go_simp
                simp only [Act.put, lq3, lq4, lq5]
                go_big_quiet_on
                go_big_quiet_want
                refine ⟨.pointer (some ⟨p, 2, none⟩), fun w0 hC => ?_, ?_⟩
                · clear hC
                  go_simp
                simp only [Act.put, lq3, lq4, lq5]
                go_big_quiet_on
                go_big_quiet_want
                refine ⟨.int .i64 x.clock, fun w0 hC => ?_, ?_⟩
                · have c2 := note_cells (HX.out w0 hC) 2 _ rfl; simp only [Nat.zero_add] at c2
                  clear hC
                  go_simp
                simp only [Act.put, lq3, lq4, lq5]
                go_big_quiet_on
                go_big_quiet_want
                refine ⟨.pointer (some ⟨q, 2, none⟩), fun w0 hC => ?_, ?_⟩
                · clear hC
                  go_simp
                simp only [Act.put, lq3, lq4, lq5]
                go_big_quiet_on
                go_big_quiet_want
                refine ⟨.int .i64 y.clock, fun w0 hC => ?_, ?_⟩
                · have c2 := note_cells (HY.out w0 hC) 2 _ rfl; simp only [Nat.zero_add] at c2
                  clear hC
                  go_simp
                simp only [Act.put, lq3, lq4, lq5]
                go_big_quiet_on
                go_big_quiet_want
                refine ⟨.bool false, fun w0 hC => ?_, ?_⟩
                · clear hC
                  go_simp
                simp only [Act.put, lq3, lq4, lq5]
                go_big_quiet_on
                go_big_quiet_want
                refine ⟨.bool false, fun w0 hC => ?_, ?_⟩
                · clear hC
                  go_simp
                simp only [Act.put, lq3, lq4, lq5]
                go_big_quiet_on
                go_big_quiet_want
                refine ⟨.bool false, fun w0 hC => ?_, ?_⟩
                · clear hC
                  go_simp
                simp only [Act.put, lq3, lq4, lq5]
                go_big_quiet_on
                go_big_quiet_want
                refine ⟨.pointer (some ⟨p, 3, none⟩), fun w0 hC => ?_, ?_⟩
                · clear hC
                  go_simp
                simp only [Act.put, lq3, lq4, lq5]
                go_big_quiet_on
                go_big_quiet_want
                refine ⟨.int .i64 x.day, fun w0 hC => ?_, ?_⟩
                · have c3 := note_cells (HX.out w0 hC) 3 _ rfl; simp only [Nat.zero_add] at c3
                  clear hC
                  go_simp
                simp only [Act.put, lq3, lq4, lq5]
                go_big_quiet_on
                go_big_quiet_want
                refine ⟨.pointer (some ⟨q, 3, none⟩), fun w0 hC => ?_, ?_⟩
                · clear hC
                  go_simp
                simp only [Act.put, lq3, lq4, lq5]
                go_big_quiet_on
                go_big_quiet_want
                refine ⟨.int .i64 y.day, fun w0 hC => ?_, ?_⟩
                · have c3 := note_cells (HY.out w0 hC) 3 _ rfl; simp only [Nat.zero_add] at c3
                  clear hC
                  go_simp
                simp only [Act.put, lq3, lq4, lq5]
                go_big_quiet_on
                go_big_quiet_want
                refine ⟨.bool false, fun w0 hC => ?_, ?_⟩
                · clear hC
                  go_simp
                simp only [Act.put, lq3, lq4, lq5]
                go_big_quiet_on
                go_big_quiet_want
                refine ⟨.bool false, fun w0 hC => ?_, ?_⟩
                · clear hC
                  go_simp
                simp only [Act.put, lq3, lq4, lq5]
                go_big_quiet_on
                go_big_quiet_want
                refine ⟨.bool false, fun w0 hC => ?_, ?_⟩
                · clear hC
                  go_simp
                simp only [Act.put, lq3, lq4, lq5]
                go_big_quiet_on
                go_big_quiet_want
                refine ⟨.pointer (some ⟨p, 4, none⟩), fun w0 hC => ?_, ?_⟩
                · clear hC
                  go_simp
                simp only [Act.put, lq3, lq4, lq5]
                go_big_quiet_on
                go_big_quiet_want
                refine ⟨.int .i64 x.kind, fun w0 hC => ?_, ?_⟩
                · have c4 := note_cells (HX.out w0 hC) 4 _ rfl; simp only [Nat.zero_add] at c4
                  clear hC
                  go_simp
                simp only [Act.put, lq3, lq4, lq5]
                go_big_quiet_on
                go_big_quiet_want
                refine ⟨.pointer (some ⟨q, 4, none⟩), fun w0 hC => ?_, ?_⟩
                · clear hC
                  go_simp
                simp only [Act.put, lq3, lq4, lq5]
                go_big_quiet_on
                go_big_quiet_want
                refine ⟨.int .i64 y.kind, fun w0 hC => ?_, ?_⟩
                · have c4 := note_cells (HY.out w0 hC) 4 _ rfl; simp only [Nat.zero_add] at c4
                  clear hC
                  go_simp
                simp only [Act.put, lq3, lq4, lq5]
                go_big_quiet_on
                go_big_quiet_want
                refine ⟨.bool true, fun w0 hC => ?_, ?_⟩
                · clear hC
                  go_simp
                simp only [Act.put, lq3, lq4, lq5]
                go_big_quiet_on
                go_big_quiet_want
                refine ⟨.bool true, fun w0 hC => ?_, ?_⟩
                · clear hC
                  go_simp
                simp only [Act.put, lq3, lq4, lq5]
                go_big_quiet_on
                go_big_quiet_want
                refine ⟨.bool true, fun w0 hC => ?_, ?_⟩
                · clear hC
                  go_simp
                simp only [Act.put, lq3, lq4, lq5]
                go_big_quiet_on
                go_big_quiet_skip
                go_big_quiet_skip
                go_big_quiet_skip
                go_big_quiet_skip
                go_big_quiet_skip
                go_big_quiet_want
                refine ⟨.bool true, fun w0 hC => ?_, ?_⟩
                · clear hC
                  go_simp
                simp only [Act.put, lq3, lq4, lq5]
                go_big_quiet_on
                go_big_quiet_want
                refine ⟨.bool true, fun w0 hC => ?_, ?_⟩
                · clear hC
                  go_simp
                simp only [Act.put, lq3, lq4, lq5]
                go_big_quiet_on
                go_big_quiet_skip
                go_big_quiet_skip
                go_big_quiet_skip
                go_big_quiet_skip
                go_big_quiet_skip
                go_big_quiet_want
                refine ⟨.bool true, fun w0 hC => ?_, ?_⟩
                · clear hC
                  go_simp
                simp only [Act.put, lq3, lq4, lq5]
                go_big_quiet_on
                go_big_quiet_want
                refine ⟨.bool true, fun w0 hC => ?_, ?_⟩
                · clear hC
                  go_simp
                simp only [Act.put, lq3, lq4, lq5]
                go_big_quiet_on
                go_big_quiet_skip
                go_big_quiet_skip
                go_big_quiet_skip
                go_big_quiet_skip
                go_big_quiet_skip
                go_big_quiet_want
                refine ⟨.bool true, fun w0 hC => ?_, ?_⟩
                · clear hC
                  go_simp
                simp only [Act.put, lq3, lq4, lq5]
                go_big_quiet_on
                refine wpQuiet_nil ?_
                intro w' hC
                go_wp2_with fail
                go_ret
                rw [HR.out]
                exact ⟨rfl, by rw [HPE.out]; exact HB.out.trans (hC.mono hZ)⟩
            · have q2 := bne_yes h2
              have hR : sameB x y = false := by rw [← Bool.not_eq_true, same_all]; intro h; exact h2 h.2.1.2.1
              have HR := Lib.hid hR; clear hR h2
              go_upto_region 8 with fail
              refine wp_region_quiet (C := fun w' : World => Below W.heap.size W w') (by kernel_rfl) (by kernel_rfl) hC0 ?_
              show wpQuiet _ _ _ _ (_ :: _) _
              go_big_quiet_want
              refine ⟨.agg (noteA x sa sc), fun w0 hC => quiet_load43 (.tmp 2) rfl p rfl x sa sc (HX.out w0 hC), ?_⟩
              simp only [Act.put, lq3, lq4, lq5]
              go_big_quiet_on
              go_big_quiet_want
              refine ⟨.agg #[.int .i64 x.house, .int .i64 x.num], fun w0 hC => ?_, ?_⟩
              · go_simp
                refine (rNameOf_any x sa sc _).mono ?_; rintro e w1 ⟨rfl, b1⟩; exact ⟨rfl, hC.trans (b1.mono hC.size)⟩
              simp only [Act.put, lq3, lq4, lq5]
              go_big_quiet_on
              go_big_quiet_want
              refine ⟨.agg (noteA y ta tc), fun w0 hC => quiet_load43 (.tmp 3) rfl q rfl y ta tc (HY.out w0 hC), ?_⟩
              simp only [Act.put, lq3, lq4, lq5]
              go_big_quiet_on
              go_big_quiet_want
              refine ⟨.agg #[.int .i64 y.house, .int .i64 y.num], fun w0 hC => ?_, ?_⟩
              · go_simp
                refine (rNameOf_any y ta tc _).mono ?_; rintro e w1 ⟨rfl, b1⟩; exact ⟨rfl, hC.trans (b1.mono hC.size)⟩
              simp only [Act.put, lq3, lq4, lq5]
              go_big_quiet_on
              go_big_quiet_want
              refine ⟨.bool false, fun w0 hC => ?_, ?_⟩
              · clear hC
                go_simp
                have h := HD.out
                simp [h.1, h.2]
              simp only [Act.put, lq3, lq4, lq5]
              go_big_quiet_on
              go_big_quiet_want
              refine ⟨.bool false, fun w0 hC => ?_, ?_⟩
              · clear hC
                go_simp
              simp only [Act.put, lq3, lq4, lq5]
              go_big_quiet_on
              go_big_quiet_want
              refine ⟨.pointer (some ⟨p, 2, none⟩), fun w0 hC => ?_, ?_⟩
              · clear hC
                go_simp
              simp only [Act.put, lq3, lq4, lq5]
              go_big_quiet_on
              go_big_quiet_want
              refine ⟨.int .i64 x.clock, fun w0 hC => ?_, ?_⟩
              · have c2 := note_cells (HX.out w0 hC) 2 _ rfl; simp only [Nat.zero_add] at c2
                clear hC
                go_simp
              simp only [Act.put, lq3, lq4, lq5]
              go_big_quiet_on
              go_big_quiet_want
              refine ⟨.pointer (some ⟨q, 2, none⟩), fun w0 hC => ?_, ?_⟩
              · clear hC
                go_simp
              simp only [Act.put, lq3, lq4, lq5]
              go_big_quiet_on
              go_big_quiet_want
              refine ⟨.int .i64 y.clock, fun w0 hC => ?_, ?_⟩
              · have c2 := note_cells (HY.out w0 hC) 2 _ rfl; simp only [Nat.zero_add] at c2
                clear hC
                go_simp
              simp only [Act.put, lq3, lq4, lq5]
              go_big_quiet_on
              go_big_quiet_want
              refine ⟨.bool false, fun w0 hC => ?_, ?_⟩
              · clear hC
                go_simp
              simp only [Act.put, lq3, lq4, lq5]
              go_big_quiet_on
              go_big_quiet_want
              refine ⟨.bool false, fun w0 hC => ?_, ?_⟩
              · clear hC
                go_simp
              simp only [Act.put, lq3, lq4, lq5]
              go_big_quiet_on
              go_big_quiet_want
              refine ⟨.bool false, fun w0 hC => ?_, ?_⟩
              · clear hC
                go_simp
              simp only [Act.put, lq3, lq4, lq5]
              go_big_quiet_on
              go_big_quiet_want
              refine ⟨.pointer (some ⟨p, 3, none⟩), fun w0 hC => ?_, ?_⟩
              · clear hC
                go_simp
              simp only [Act.put, lq3, lq4, lq5]
              go_big_quiet_on
              go_big_quiet_want
              refine ⟨.int .i64 x.day, fun w0 hC => ?_, ?_⟩
              · have c3 := note_cells (HX.out w0 hC) 3 _ rfl; simp only [Nat.zero_add] at c3
                clear hC
                go_simp
              simp only [Act.put, lq3, lq4, lq5]
              go_big_quiet_on
              go_big_quiet_want
              refine ⟨.pointer (some ⟨q, 3, none⟩), fun w0 hC => ?_, ?_⟩
              · clear hC
                go_simp
              simp only [Act.put, lq3, lq4, lq5]
              go_big_quiet_on
              go_big_quiet_want
              refine ⟨.int .i64 y.day, fun w0 hC => ?_, ?_⟩
              · have c3 := note_cells (HY.out w0 hC) 3 _ rfl; simp only [Nat.zero_add] at c3
                clear hC
                go_simp
              simp only [Act.put, lq3, lq4, lq5]
              go_big_quiet_on
              go_big_quiet_want
              refine ⟨.bool true, fun w0 hC => ?_, ?_⟩
              · clear hC
                go_simp
              simp only [Act.put, lq3, lq4, lq5]
              go_big_quiet_on
              go_big_quiet_want
              refine ⟨.bool true, fun w0 hC => ?_, ?_⟩
              · clear hC
                go_simp
              simp only [Act.put, lq3, lq4, lq5]
              go_big_quiet_on
              go_big_quiet_want
              refine ⟨.bool true, fun w0 hC => ?_, ?_⟩
              · clear hC
                go_simp
              simp only [Act.put, lq3, lq4, lq5]
              go_big_quiet_on
              go_big_quiet_skip
              go_big_quiet_skip
              go_big_quiet_skip
              go_big_quiet_skip
              go_big_quiet_skip
              go_big_quiet_want
              refine ⟨.bool true, fun w0 hC => ?_, ?_⟩
              · clear hC
                go_simp
              simp only [Act.put, lq3, lq4, lq5]
              go_big_quiet_on
              go_big_quiet_want
              refine ⟨.bool true, fun w0 hC => ?_, ?_⟩
              · clear hC
                go_simp
              simp only [Act.put, lq3, lq4, lq5]
              go_big_quiet_on
              go_big_quiet_skip
              go_big_quiet_skip
              go_big_quiet_skip
              go_big_quiet_skip
              go_big_quiet_skip
              go_big_quiet_want
              refine ⟨.bool true, fun w0 hC => ?_, ?_⟩
              · clear hC
                go_simp
              simp only [Act.put, lq3, lq4, lq5]
              go_big_quiet_on
              go_big_quiet_want
              refine ⟨.bool true, fun w0 hC => ?_, ?_⟩
              · clear hC
                go_simp
              simp only [Act.put, lq3, lq4, lq5]
              go_big_quiet_on
              go_big_quiet_skip
              go_big_quiet_skip
              go_big_quiet_skip
              go_big_quiet_skip
              go_big_quiet_skip
              go_big_quiet_want
              refine ⟨.bool true, fun w0 hC => ?_, ?_⟩
              · clear hC
                go_simp
              simp only [Act.put, lq3, lq4, lq5]
              go_big_quiet_on
              go_big_quiet_want
              refine ⟨.bool true, fun w0 hC => ?_, ?_⟩
              · clear hC
                go_simp
              simp only [Act.put, lq3, lq4, lq5]
              go_big_quiet_on
              go_big_quiet_skip
              go_big_quiet_skip
              go_big_quiet_skip
              go_big_quiet_skip
              go_big_quiet_skip
              go_big_quiet_want
              refine ⟨.bool true, fun w0 hC => ?_, ?_⟩
              · clear hC
                go_simp
              simp only [Act.put, lq3, lq4, lq5]
              go_big_quiet_on
              refine wpQuiet_nil ?_
              intro w' hC
              go_wp2_with fail
              go_ret
              rw [HR.out]
              exact ⟨rfl, by rw [HPE.out]; exact HB.out.trans (hC.mono hZ)⟩
          · have q1 := bne_yes h1
            have hR : sameB x y = false := by rw [← Bool.not_eq_true, same_all]; intro h; exact h1 h.2.1.1
            have HR := Lib.hid hR; clear hR h1
            go_upto_region 8 with fail
            refine wp_region_quiet (C := fun w' : World => Below W.heap.size W w') (by kernel_rfl) (by kernel_rfl) hC0 ?_
            show wpQuiet _ _ _ _ (_ :: _) _
            go_big_quiet_want
            refine ⟨.agg (noteA x sa sc), fun w0 hC => quiet_load43 (.tmp 2) rfl p rfl x sa sc (HX.out w0 hC), ?_⟩
            simp only [Act.put, lq3, lq4, lq5]
            go_big_quiet_on
            go_big_quiet_want
            refine ⟨.agg #[.int .i64 x.house, .int .i64 x.num], fun w0 hC => ?_, ?_⟩
            · go_simp
              refine (rNameOf_any x sa sc _).mono ?_; rintro e w1 ⟨rfl, b1⟩; exact ⟨rfl, hC.trans (b1.mono hC.size)⟩
            simp only [Act.put, lq3, lq4, lq5]
            go_big_quiet_on
            go_big_quiet_want
            refine ⟨.agg (noteA y ta tc), fun w0 hC => quiet_load43 (.tmp 3) rfl q rfl y ta tc (HY.out w0 hC), ?_⟩
            simp only [Act.put, lq3, lq4, lq5]
            go_big_quiet_on
            go_big_quiet_want
            refine ⟨.agg #[.int .i64 y.house, .int .i64 y.num], fun w0 hC => ?_, ?_⟩
            · go_simp
              refine (rNameOf_any y ta tc _).mono ?_; rintro e w1 ⟨rfl, b1⟩; exact ⟨rfl, hC.trans (b1.mono hC.size)⟩
            simp only [Act.put, lq3, lq4, lq5]
            go_big_quiet_on
            go_big_quiet_want
            refine ⟨.bool false, fun w0 hC => ?_, ?_⟩
            · clear hC
              go_simp
              have h := HD.out
              simp [h.1, h.2]
            simp only [Act.put, lq3, lq4, lq5]
            go_big_quiet_on
            go_big_quiet_want
            refine ⟨.bool false, fun w0 hC => ?_, ?_⟩
            · clear hC
              go_simp
            simp only [Act.put, lq3, lq4, lq5]
            go_big_quiet_on
            go_big_quiet_want
            refine ⟨.pointer (some ⟨p, 2, none⟩), fun w0 hC => ?_, ?_⟩
            · clear hC
              go_simp
            simp only [Act.put, lq3, lq4, lq5]
            go_big_quiet_on
            go_big_quiet_want
            refine ⟨.int .i64 x.clock, fun w0 hC => ?_, ?_⟩
            · have c2 := note_cells (HX.out w0 hC) 2 _ rfl; simp only [Nat.zero_add] at c2
              clear hC
              go_simp
            simp only [Act.put, lq3, lq4, lq5]
            go_big_quiet_on
            go_big_quiet_want
            refine ⟨.pointer (some ⟨q, 2, none⟩), fun w0 hC => ?_, ?_⟩
            · clear hC
              go_simp
            simp only [Act.put, lq3, lq4, lq5]
            go_big_quiet_on
            go_big_quiet_want
            refine ⟨.int .i64 y.clock, fun w0 hC => ?_, ?_⟩
            · have c2 := note_cells (HY.out w0 hC) 2 _ rfl; simp only [Nat.zero_add] at c2
              clear hC
              go_simp
            simp only [Act.put, lq3, lq4, lq5]
            go_big_quiet_on
            go_big_quiet_want
            refine ⟨.bool true, fun w0 hC => ?_, ?_⟩
            · clear hC
              go_simp
            simp only [Act.put, lq3, lq4, lq5]
            go_big_quiet_on
            go_big_quiet_want
            refine ⟨.bool true, fun w0 hC => ?_, ?_⟩
            · clear hC
              go_simp
            simp only [Act.put, lq3, lq4, lq5]
            go_big_quiet_on
            go_big_quiet_want
            refine ⟨.bool true, fun w0 hC => ?_, ?_⟩
            · clear hC
              go_simp
            simp only [Act.put, lq3, lq4, lq5]
            go_big_quiet_on
            go_big_quiet_skip
            go_big_quiet_skip
            go_big_quiet_skip
            go_big_quiet_skip
            go_big_quiet_skip
            go_big_quiet_want
            refine ⟨.bool true, fun w0 hC => ?_, ?_⟩
            · clear hC
              go_simp
            simp only [Act.put, lq3, lq4, lq5]
            go_big_quiet_on
            go_big_quiet_want
            refine ⟨.bool true, fun w0 hC => ?_, ?_⟩
            · clear hC
              go_simp
            simp only [Act.put, lq3, lq4, lq5]
            go_big_quiet_on
            go_big_quiet_skip
            go_big_quiet_skip
            go_big_quiet_skip
            go_big_quiet_skip
            go_big_quiet_skip
            go_big_quiet_want
            refine ⟨.bool true, fun w0 hC => ?_, ?_⟩
            · clear hC
              go_simp
            simp only [Act.put, lq3, lq4, lq5]
            go_big_quiet_on
            go_big_quiet_want
            refine ⟨.bool true, fun w0 hC => ?_, ?_⟩
            · clear hC
              go_simp
            simp only [Act.put, lq3, lq4, lq5]
            go_big_quiet_on
            go_big_quiet_skip
            go_big_quiet_skip
            go_big_quiet_skip
            go_big_quiet_skip
            go_big_quiet_skip
            go_big_quiet_want
            refine ⟨.bool true, fun w0 hC => ?_, ?_⟩
            · clear hC
              go_simp
            simp only [Act.put, lq3, lq4, lq5]
            go_big_quiet_on
            go_big_quiet_want
            refine ⟨.bool true, fun w0 hC => ?_, ?_⟩
            · clear hC
              go_simp
            simp only [Act.put, lq3, lq4, lq5]
            go_big_quiet_on
            go_big_quiet_skip
            go_big_quiet_skip
            go_big_quiet_skip
            go_big_quiet_skip
            go_big_quiet_skip
            go_big_quiet_want
            refine ⟨.bool true, fun w0 hC => ?_, ?_⟩
            · clear hC
              go_simp
            simp only [Act.put, lq3, lq4, lq5]
            go_big_quiet_on
            go_big_quiet_want
            refine ⟨.bool true, fun w0 hC => ?_, ?_⟩
            · clear hC
              go_simp
            simp only [Act.put, lq3, lq4, lq5]
            go_big_quiet_on
            go_big_quiet_skip
            go_big_quiet_skip
            go_big_quiet_skip
            go_big_quiet_skip
            go_big_quiet_skip
            go_big_quiet_want
            refine ⟨.bool true, fun w0 hC => ?_, ?_⟩
            · clear hC
              go_simp
            simp only [Act.put, lq3, lq4, lq5]
            go_big_quiet_on
            refine wpQuiet_nil ?_
            intro w' hC
            go_wp2_with fail
            go_ret
            rw [HR.out]
            exact ⟨rfl, by rw [HPE.out]; exact HB.out.trans (hC.mono hZ)⟩
        · have HD := Lib.hid h0
          have hR : sameB x y = false := by rw [← Bool.not_eq_true, same_all]; intro h; exact h0 h.1
          have HR := Lib.hid hR; clear hR h0
          go_upto_region 8 with fail
          refine wp_region_quiet (C := fun w' : World => Below W.heap.size W w') (by kernel_rfl) (by kernel_rfl) hC0 ?_
          show wpQuiet _ _ _ _ (_ :: _) _
          go_big_quiet_want
          refine ⟨.agg (noteA x sa sc), fun w0 hC => quiet_load43 (.tmp 2) rfl p rfl x sa sc (HX.out w0 hC), ?_⟩
          simp only [Act.put, lq3, lq4, lq5]
          go_big_quiet_on
          go_big_quiet_want
          refine ⟨.agg #[.int .i64 x.house, .int .i64 x.num], fun w0 hC => ?_, ?_⟩
          · go_simp
            refine (rNameOf_any x sa sc _).mono ?_; rintro e w1 ⟨rfl, b1⟩; exact ⟨rfl, hC.trans (b1.mono hC.size)⟩
          simp only [Act.put, lq3, lq4, lq5]
          go_big_quiet_on
          go_big_quiet_want
          refine ⟨.agg (noteA y ta tc), fun w0 hC => quiet_load43 (.tmp 3) rfl q rfl y ta tc (HY.out w0 hC), ?_⟩
          simp only [Act.put, lq3, lq4, lq5]
          go_big_quiet_on
          go_big_quiet_want
          refine ⟨.agg #[.int .i64 y.house, .int .i64 y.num], fun w0 hC => ?_, ?_⟩
          · go_simp
            refine (rNameOf_any y ta tc _).mono ?_; rintro e w1 ⟨rfl, b1⟩; exact ⟨rfl, hC.trans (b1.mono hC.size)⟩
          simp only [Act.put, lq3, lq4, lq5]
          go_big_quiet_on
          go_big_quiet_want
          refine ⟨.bool true, fun w0 hC => ?_, ?_⟩
          · clear hC
            go_simp
            by_cases h1 : x.house = y.house <;> by_cases h2 : x.num = y.num <;> simp [h1, h2]
            exact HD.out ⟨h1, h2⟩
          simp only [Act.put, lq3, lq4, lq5]
          go_big_quiet_on
          go_big_quiet_want
          refine ⟨.bool true, fun w0 hC => ?_, ?_⟩
          · clear hC
            go_simp
          simp only [Act.put, lq3, lq4, lq5]
          go_big_quiet_on
          go_big_quiet_skip
          go_big_quiet_skip
          go_big_quiet_skip
          go_big_quiet_skip
          go_big_quiet_skip
          go_big_quiet_want
          refine ⟨.bool true, fun w0 hC => ?_, ?_⟩
          · clear hC
            go_simp
          simp only [Act.put, lq3, lq4, lq5]
          go_big_quiet_on
          go_big_quiet_want
          refine ⟨.bool true, fun w0 hC => ?_, ?_⟩
          · clear hC
            go_simp
          simp only [Act.put, lq3, lq4, lq5]
          go_big_quiet_on
          go_big_quiet_skip
          go_big_quiet_skip
          go_big_quiet_skip
          go_big_quiet_skip
          go_big_quiet_skip
          go_big_quiet_want
          refine ⟨.bool true, fun w0 hC => ?_, ?_⟩
          · clear hC
            go_simp
          simp only [Act.put, lq3, lq4, lq5]
          go_big_quiet_on
          go_big_quiet_want
          refine ⟨.bool true, fun w0 hC => ?_, ?_⟩
          · clear hC
            go_simp
          simp only [Act.put, lq3, lq4, lq5]
          go_big_quiet_on
          go_big_quiet_skip
          go_big_quiet_skip
          go_big_quiet_skip
          go_big_quiet_skip
          go_big_quiet_skip
          go_big_quiet_want
          refine ⟨.bool true, fun w0 hC => ?_, ?_⟩
          · clear hC
            go_simp
          simp only [Act.put, lq3, lq4, lq5]
          go_big_quiet_on
          go_big_quiet_want
          refine ⟨.bool true, fun w0 hC => ?_, ?_⟩
          · clear hC
            go_simp
          simp only [Act.put, lq3, lq4, lq5]
          go_big_quiet_on
          go_big_quiet_skip
          go_big_quiet_skip
          go_big_quiet_skip
          go_big_quiet_skip
          go_big_quiet_skip
          go_big_quiet_want
          refine ⟨.bool true, fun w0 hC => ?_, ?_⟩
          · clear hC
            go_simp
          simp only [Act.put, lq3, lq4, lq5]
          go_big_quiet_on
          go_big_quiet_want
          refine ⟨.bool true, fun w0 hC => ?_, ?_⟩
          · clear hC
            go_simp
          simp only [Act.put, lq3, lq4, lq5]
          go_big_quiet_on
          go_big_quiet_skip
          go_big_quiet_skip
          go_big_quiet_skip
          go_big_quiet_skip
          go_big_quiet_skip
          go_big_quiet_want
          refine ⟨.bool true, fun w0 hC => ?_, ?_⟩
          · clear hC
            go_simp
          simp only [Act.put, lq3, lq4, lq5]
          go_big_quiet_on
          go_big_quiet_want
          refine ⟨.bool true, fun w0 hC => ?_, ?_⟩
          · clear hC
            go_simp
          simp only [Act.put, lq3, lq4, lq5]
          go_big_quiet_on
          go_big_quiet_skip
          go_big_quiet_skip
          go_big_quiet_skip
          go_big_quiet_skip
          go_big_quiet_skip
          go_big_quiet_want
          refine ⟨.bool true, fun w0 hC => ?_, ?_⟩
          · clear hC
            go_simp
          simp only [Act.put, lq3, lq4, lq5]
          go_big_quiet_on
          refine wpQuiet_nil ?_
          intro w' hC
          go_wp2_with fail
          go_ret
          rw [HR.out]
          exact ⟨rfl, by rw [HPE.out]; exact HB.out.trans (hC.mono hZ)⟩
  · have hbn : ((x.strokes.length : Int) != (y.strokes.length : Int)) = true := by simp; omega
    have hR : sameB x y = false := by rw [← Bool.not_eq_true, same_all]; intro h; exact hln (by rw [h.2.2.2.2.2.2.2])
    have HR := Lib.hid hR; clear hR hln
    go_wp2_with fail
    go_ret
    rw [HR.out]
    exact ⟨rfl, by rw [HPE.out]; exact HB.out⟩
end
end Go.Proofs.YtpjiakgfegnmcaaGreat
namespace Go.Proofs.YtpjiakgfegnmcaaGreat
set_option linter.unusedSimpArgs false
open Go.RowKit

def evC (e : EvV) : Nm × NoteV := (e.nm, e.x.n)
theorem sameB_self (n : NoteV) : sameB n n = true := by simp [sameB]
end Go.Proofs.YtpjiakgfegnmcaaGreat
namespace Go.Proofs.YtpjiakgfegnmcaaGreat
set_option linter.unusedSimpArgs false

theorem setGo_all {f : FrV} {l : List NoteV} : ∀ (n k : Nat), (∀ i, k ≤ i → i < k + n → setAt f l i = none) → setGo f l n k = (0, 0)
  | 0, _, _ => rfl
  | n + 1, k, h => by
    rw [setGo, h k (Nat.le_refl _) (by omega)]
    exact setGo_all n (k + 1) (fun i h1 h2 => h i (by omega) (by omega))
theorem set_mk {f : FrV} {l : List NoteV} (hv : f.valid = true) (h4 : l.length ≤ 400) (hf : ∀ x ∈ l, formedB f x = true) (hp : l.Pairwise (fun x y => nmLt (nmOf x) (nmOf y) = true)) : (checkSetP f l).1 = 0 := by
  unfold checkSetP
  rw [if_neg (by rw [hv]; decide), if_neg (by omega), setGo_all]
  intro i _ hi
  rw [Nat.zero_add] at hi
  unfold setAt
  rw [List.getElem?_eq_getElem hi]
  simp only
  rw [if_neg (by rw [hf _ (List.getElem_mem hi)]; decide)]
  by_cases h0 : i = 0
  · rw [if_pos h0]
  · rw [if_neg h0, List.getElem?_eq_getElem (by omega : i - 1 < l.length)]
    simp only
    have h1 := List.pairwise_iff_getElem.1 hp (i - 1) i (by omega) hi (by omega)
    rw [nmLt, decide_eq_true_eq] at h1
    have h2 : namesC l[i - 1].house l[i - 1].num l[i].house l[i].num < 0 := h1
    rw [if_neg (by omega), if_neg (by omega)]
end Go.Proofs.YtpjiakgfegnmcaaGreat
namespace Go.Proofs.YtpjiakgfegnmcaaGreat
set_option linter.unusedSimpArgs false
open Go.RowKit

abbrev RegT := List NoteV × List NoteV × List Nm
def evP (n : NoteV) : Nm × NoteV := (nmOf n, n)
def RegOut (W : World) (v : Value) (T : RegT) : Prop :=
  ∃ (ha : Option Addr) (hn hc : Nat) (ea : Option Addr) (en ec : Nat) (ca : Option Addr) (cn cc : Nat) (hs es : List EvV), v = .agg #[.slice ha hn hc, .slice ea en ec, .slice ca cn cc] ∧
    RdEs W ha hn hc hs ∧ RdEs W ea en ec es ∧ RdA W 2 ca cn cc (nmCells T.2.2) ∧ (∀ e ∈ hs ++ es, e.x.ok W) ∧ hs.map evC = T.1.map evP ∧ es.map evC = T.2.1.map evP
theorem RegOut.below {W W' : World} {v : Value} {T : RegT} (h : RegOut W v T) (hb : Below W.heap.size W W') : RegOut W' v T := by
  obtain ⟨ha, hn, hc, ea, en, ec, ca, cn, cc, hs, es, rfl, h1, h2, h3, h4, h5, h6⟩ := h
  exact ⟨ha, hn, hc, ea, en, ec, ca, cn, cc, hs, es, rfl, h1.below hb, h2.below hb, h3.below hb, fun e he => (h4 e he).below hb, h5, h6⟩
theorem RegOut.empty (W : World) : RegOut W (.agg #[.slice none 0 0, .slice none 0 0, .slice none 0 0]) ([], [], []) :=
  ⟨none, 0, 0, none, 0, 0, none, 0, 0, [], [], rfl, ⟨rfl, Nat.le_refl _, Nat.zero_le _, .inl rfl⟩, ⟨rfl, Nat.le_refl _, Nat.zero_le _, .inl rfl⟩, RdA.nil _ _, fun e he => by simp at he, rfl, rfl⟩
structure NlAt (V W : World) (a : Option Addr) (c n : Nat) (ys : List LN) : Prop where
  bel : Below V.heap.size V W
  own : W.ownsRow V.heap.size 51 19 (.slice a n c) n (lnCells ys)
theorem NlAt.start (V : World) : NlAt V V none 0 0 [] := ⟨Below.refl _ _, World.ownsRow_nil _ _ _ _⟩
theorem NlAt.below {V W W' : World} {a : Option Addr} {c n : Nat} {ys : List LN} (h : NlAt V W a c n ys) (hb : Below W.heap.size W W') : NlAt V W' a c n ys := ⟨h.bel.trans (hb.mono h.bel.size), own_below h.own hb⟩
theorem NlAt.add {V W W' : World} {a a' : Option Addr} {c c' n : Nat} {ys : List LN} {x : LN} (h : NlAt V W a c n ys) (ho : W'.ownsRow V.heap.size 51 19 (.slice a' (n + 1) c') (n + 1) (lnCells ys ++ x.n.cells x.sa x.sc)) (hg : (W.alloc (.cells (noteA x.n x.sa x.sc) 51)).grownBy W' (Value.ownBlock (.slice a n c))) : NlAt V W' a' c' (n + 1) (ys ++ [x]) := by
  have bn : Below W.heap.size W (W.alloc (.cells (noteA x.n x.sa x.sc) 51)) := (Below.refl _ _).alloc (Nat.le_refl _) _
  have h2 := h.below bn
  exact ⟨h2.bel.grown hg h2.bel.size (fun k hk => (h2.own.lt k hk).1), by rw [lnCells_snoc]; exact ho⟩
theorem wpList_build_note {ops : Array Oper} {rest : List Oper} {op : Oper} {a : Act} {w : World} {Q : Exit → Act → World → Prop} (hgd : op.guard = none) (x : Operand) (ho : op.op = .buildSlice 43 1 #[(0, x)]) (n : NoteV) (sa : Option Addr) (sc : Nat) (hx : a.eval x = .agg (noteA n sa sc))
    (h : wpList Tryz.prog ops Q rest (a.put op.dst (.slice (some ⟨w.heap.size, 0, none⟩) 1 1)) (w.alloc (.cells (noteA n sa sc) 51))) : wpList Tryz.prog ops Q (op :: rest) a w :=
  wpList_plain hgd fun _ hK => oper_build_note x ho n sa sc hx (hK _ _ h)
theorem ls_ok {W : World} {a : Option Addr} {n c : Nat} {xs : List LN} (h : RdLs W a n c xs) {x : LN} (hx : x ∈ xs) : x.ok W := by
  have h0 : 0 < n := by have := List.length_pos_of_mem hx; have := h.1; omega
  obtain ⟨b, off, rfl, hat⟩ := h.at h0
  obtain ⟨i, hi⟩ := List.getElem?_of_mem hx
  exact (hat i x hi).2
end Go.Proofs.YtpjiakgfegnmcaaGreat
namespace Go.Proofs.YtpjiakgfegnmcaaGreat
open Go.ChangeShapes Go.WideShapes Go.ChangeAt Go.RowKit

theorem Tryz.own : ownKnob Tryz.prog.godebug = none := by kernel_rfl
theorem Tryz.laidOut : laidOutB Tryz.prog = true := by kernel_rfl

theorem below_trodAll {H : Type} {enc : TypeId × Value → H} {P : Program} (hl : laidOutB P = true) {W W' : World} (hb : Below W.heap.size W W') :
    ∀ (ts : List TypeId) {vs : List Value} {ds : List (DataW H)} {ps : List MemPlace}, ts.all (fun t => P.readableRec t && decide (t < P.types.size)) = true → (∀ x ∈ ps, x.block < W.heap.size) →
      DataW.TrodAll enc P W 0 (fun _ => true) true ts vs ds ps → DataW.TrodAll enc P W' 0 (fun b => decide (b < W.heap.size)) true ts vs ds ps
  | [], [], [], _, _, _, h => h
  | [], _ :: _, _, _, _, _, h => h.elim
  | [], [], _ :: _, _, _, _, h => h.elim
  | _ :: _, [], _, _, _, _, h => h.elim
  | _ :: _, _ :: _, [], _, _, _, h => h.elim
  | t :: ts, v :: vs, d :: ds, ps, hr, hlt, h => by
    obtain ⟨p, q, h1, h2, rfl⟩ := h
    simp only [List.all_cons, Bool.and_eq_true, decide_eq_true_eq] at hr
    exact ⟨p, q, Below.trod hl hr.1.1 hr.1.2 h1 hb (fun x hx => hlt x (List.mem_append_left _ hx)), below_trodAll hl hb ts hr.2 (fun x hx => hlt x (List.mem_append_right _ hx)) h2, rfl⟩

theorem post_of_law {H : Type} {enc : TypeId × Value → H} {P : Program} (hl : laidOutB P = true) {t : TypeId} (ht : P.underlying t = some .bool) {f : Func} {s : ChangeSpec} {W W' : World} {args : Array Value} {ds : List (DataW H)} {ps : List MemPlace}
    (hv : s.vars = []) (hf : f.resultTypes = #[t]) (hr : f.params.toList.all (fun t => P.readableRec t && decide (t < P.types.size)) = true)
    (hW : DataW.Whole enc P f.params.toList s.vars false W args.toList ds [] ps) (hA : DataW.TrodAll enc P W 0 (fun _ => true) true f.params.toList args.toList ds ps)
    (hs : s.fn H (ds ++ []) = { results := [.lit (.bool true)], args := ds }) (hb : Below W.heap.size W W') : s.post enc P f false true false false W args (.bool true) W' := by
  refine ⟨ds, [], ps, [], ps, [], hW, ?_, ?_, ?_, hb.frame _, fun h => by cases h⟩
  · rw [hs, hf]
    exact trodAll_mk1 (shut_bool ht _)
  · rw [hs]
    exact below_trodAll hl hb _ hr hW.lt hA
  · rw [hs, hv]
    rfl

end Go.Proofs.YtpjiakgfegnmcaaGreat
