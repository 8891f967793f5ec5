/- Parts of the proof, in this order: The program's formed: whether a note is well-formed; The program's CheckNote; The program's encoded and Encode; The reference's Numbers; The reference's fields and encode; The reference's encode; The program's reader: number; Plain laws of reading a note; the program's length. -/
import Derived.Deep.RegionHeld3
import Derived.WalkLawsBesides
import Derived.Test.YtlnhppgfhkkidaaGreatKPpw3
set_option linter.unusedSimpArgs false
set_option linter.unusedVariables false
open List renaming getElem_toArray → lq0, getElem_cons_succ → lq1, getElem_cons_zero → lq2, setIfInBounds_toArray → lq3, set_cons_zero → lq4, set_cons_succ → lq5
namespace Go.Proofs.YtlnhppgfhkkidaaGreat
open Go.RowKit
section
attribute [local go_sem] noteA_0 noteA_1 noteA_2 noteA_3 noteA_4 noteA_5 noteA_6 noteA_7 noteA_8 noteA_9 noteA_10 noteA_11 noteA_12 noteA_13 noteA_14 noteA_15 noteA_16 noteA_17 noteA_18 noteA_s0 noteA_s1 noteA_s2 noteA_s3 noteA_s4 noteA_s5 noteA_s6 noteA_s7 noteA_s8 noteA_s9 noteA_s10 noteA_s11 noteA_s12 noteA_s13 noteA_s14 noteA_s15 noteA_s16 noteA_s17 noteA_s18
variable (f : FrV) (n : NoteV) (sa : Option Addr) (sc : Nat) (w : World)
set_option maxHeartbeats 20000000 in
set_option maxRecDepth 100000 in
theorem formed_o (hv : f.valid = true) (hs : RdI w sa n.strokes.length sc n.strokes) (k2 : n.kind ≠ 2) (k5 : n.kind ≠ 5) :
    Calls Tryz.prog 114 #[f.val, .agg (noteA n sa sc)] w fun e w' => e = .returned (.bool (formedB f n)) ∧ Below w.heap.size w w' := by
  have I43 := Lib.hid (show ∀ (m : NoteV) (a : Option Addr) (c : Nat), (Tryz.prog.info? 47).map (·.size) = some (noteA m a c).size from fun m a c => by kernel_rfl)
  have g1 := heap_at (w.alloc (.cells #[.int .i64 f.rings, .int .i64 f.sectors, .int .i64 f.wide] 174)) (.cells (noteA n sa sc) 47) (w.heap.size + 1) (by simp)
  have g0 := heap_before (w.alloc (.cells #[.int .i64 f.rings, .int .i64 f.sectors, .int .i64 f.wide] 174)) (.cells (noteA n sa sc) 47) _ _ (heap_at w (.cells #[.int .i64 f.rings, .int .i64 f.sectors, .int .i64 f.wide] 174) _ rfl)
  have bb : Below w.heap.size w ((w.alloc (.cells #[.int .i64 f.rings, .int .i64 f.sectors, .int .i64 f.wide] 174)).alloc (.cells (noteA n sa sc) 47)) := ((Below.refl _ _).alloc (Nat.le_refl _) _).alloc (by simp) _
  have G1 := Lib.hid g1; clear g1
  have G0 := Lib.hid g0; clear g0
  have BB := Lib.hid bb; clear bb
  go_enter Tryz.func114, Tryz.ntmps114
  unfold FrV.val
  go_wp2_with (refine wpList_load_row rfl 47 _ rfl (w.heap.size + 1) rfl 47 (noteA n sa sc) (0, 0) _ G1.out Tryz.underlying47 rfl (I43.out _ _ _) ?_)
  refine (said_any f n sa sc _ hv (hs.below BB.out) n.kind).mono ?_
  rintro e w1 ⟨ta, tc, rfl, hrd, b1⟩
  have SR := Lib.hid hrd; clear hrd
  have l1 := (Array.getElem?_eq_some_iff.1 G1.out).1
  have z1 := b1.size
  have L1 : Loc3 w (w1.alloc (.cells (noteA (saidN n.kind n) ta tc) 47)) w.heap.size (w.heap.size + 1) w1.heap.size f n sa sc (noteA (saidN n.kind n) ta tc) :=
    ⟨heap_before _ _ _ _ ((b1.block _ (by omega)).trans G0.out), heap_before _ _ _ _ ((b1.block _ (by omega)).trans G1.out), heap_last _ _, (BB.out.trans (b1.mono BB.out.size)).alloc (by omega) _, by omega⟩
  have LL1 := Lib.hid L1; clear L1 l1 z1 b1
  have one1 := noteA_one (saidN n.kind n) ta tc
  have k4 := note_cells LL1.out.e1 4 _ rfl
  simp only [Nat.zero_add] at k4
  have q2 : (n.kind == 2) = false := by simp [k2]
  have q2' : decide (n.kind = 2) = false := by simp [k2]
  have q5 : (n.kind == 5) = false := by simp [k5]
  have q5' : decide (n.kind = 5) = false := by simp [k5]
  have hkind : n.kind ≠ 2 ∧ n.kind ≠ 5 := ⟨k2, k5⟩
  have HK := Lib.hid hkind; clear hkind k2 k5
  go_upto_region 11 with (refine wpList_store_newp w1 rfl 47 _ _ rfl w1.heap.size rfl _ (noteA (saidN n.kind n) ta tc) rfl rfl (I43.out _ _ _) rfl one1 ?_)
  generalize hW2 : w1.alloc (.cells (noteA (saidN n.kind n) ta tc) 47) = W2 at *
  generalize hp0 : w.heap.size = p0 at *
  generalize hp1 : p0 + 1 = p1 at *
  generalize hp2 : w1.heap.size = p2 at *
  have RDb := Lib.hid (show ∀ W', Below p0 w W' → RdI W' ta (saidN n.kind n).strokes.length tc (saidN n.kind n).strokes from fun W' h => said_rd SR.out (hs.below (by rw [hp0]; exact h)))
  have HP0 := Lib.hid hp0; clear hp0 hp1 hp2 hW2 G0 G1 BB SR k4
  have j0 := note_cells LL1.out.e2 0 _ rfl
  simp only [Nat.zero_add] at j0
  have z0 := note_frozen LL1.out.e2 0
  have j1 := note_cells LL1.out.e2 1 _ rfl
  simp only [Nat.zero_add] at j1
  have z1 := note_frozen LL1.out.e2 1
  have j2 := note_cells LL1.out.e2 2 _ rfl
  simp only [Nat.zero_add] at j2
  have z2 := note_frozen LL1.out.e2 2
  have j3 := note_cells LL1.out.e2 3 _ rfl
  simp only [Nat.zero_add] at j3
  have z3 := note_frozen LL1.out.e2 3
  have j4 := note_cells LL1.out.e2 4 _ rfl
  simp only [Nat.zero_add] at j4
  have z4 := note_frozen LL1.out.e2 4
  obtain ⟨N9, HN9⟩ : ∃ N9 : NoteV, Hid (N9 = { saidN n.kind n with house := 0, num := 0, clock := 0, day := 0, kind := 0 }) := ⟨_, Lib.hid rfl⟩
  go_upto_region 12 with fail
  generalize hW : (((((W2.setCell ⟨p2, 0, none⟩ (.int .i64 0)).setCell ⟨p2, 1, none⟩ (.int .i64 0)).setCell ⟨p2, 2, none⟩ (.int .i64 0)).setCell ⟨p2, 3, none⟩ (.int .i64 0)).setCell ⟨p2, 4, none⟩ (.int .i64 0)) = Wf1 at *
  have Lf2 := Lib.hid (show Loc3 w Wf1 p0 p1 p2 f n sa sc (noteA N9 ta tc) from by rw [HN9.out, ← hW]; exact (((((LL1.out.set 0 (.int .i64 0)).set 1 (.int .i64 0)).set 2 (.int .i64 0)).set 3 (.int .i64 0)).set 4 (.int .i64 0)))
  have RDf3 := Lib.hid (show RdI Wf1 ta N9.strokes.length tc N9.strokes from by rw [HN9.out]; exact RDb.out _ Lf2.out.b)
  clear hW
  clear j0 z0 j1 z1 j2 z2 j3 z3 j4 z4
  cases hok : saidB f n.kind n
  · have hR : formedB f n = false := by simp only [formedB, okB, if_neg HK.out.1, if_neg HK.out.2]; simp [HK.out, hok]
    have HRX := Lib.hid hR; clear hR
    go_wp2_with fail
    go_ret
    rw [HRX.out]
    exact ⟨rfl, by rw [HP0.out]; exact Lf2.out.b⟩
  · go_wp2_with (first
      | (refine wpList_load_row rfl 47 _ rfl p1 rfl 47 (noteA n sa sc) (0, 0) _ Lf2.out.e1 Tryz.underlying47 rfl (I43.out _ _ _) ?_)
      | (refine wpList_load_rowG ?hw 47 _ rfl p1 rfl 47 (noteA n sa sc) (0, 0) _ Lf2.out.e1 Tryz.underlying47 rfl (I43.out _ _ _) ?_; case hw => rfl))
    refine (nameOf_any n sa sc _).mono ?_
    rintro e wn4 ⟨rfl, b2⟩
    have LN6 := Lib.hid (Lf2.out.below b2)
    have RD3 := Lib.hid (RDf3.out.below b2)
    clear b2
    go_wp2_with fail
    refine (rightName_any n.house n.num _).mono ?_
    rintro e wr5 ⟨rfl, b2⟩
    have LR7 := Lib.hid (LN6.out.below b2)
    have RD4 := Lib.hid (RD3.out.below b2)
    clear b2 RD3
    cases hrn : rightNameB n.house n.num
    · have hR : formedB f n = false := by simp only [formedB, okB, if_neg HK.out.1, if_neg HK.out.2]; simp [HK.out, hok, hrn]
      have HRX := Lib.hid hR; clear hR
      go_wp2_with fail
      go_ret
      rw [HRX.out]
      exact ⟨rfl, by rw [HP0.out]; exact LR7.out.b⟩
    · have HRN := Lib.hid hrn
      have k2 := note_cells LR7.out.e1 2 _ rfl
      simp only [Nat.zero_add] at k2
      have k3 := note_cells LR7.out.e1 3 _ rfl
      simp only [Nat.zero_add] at k3
      go_wp2_with fail
      refine (hin_any n.clock 1 1099511627776 _).mono ?_
      rintro e w' ⟨rfl, rfl⟩
      cases hcl : inB n.clock 1 1099511627776
      · have hR : formedB f n = false := by simp only [formedB, okB, if_neg HK.out.1, if_neg HK.out.2]; simp [HK.out, hok, hrn, hcl]
        have HRX := Lib.hid hR; clear hR
        go_wp2_with fail
        go_ret
        rw [HRX.out]
        exact ⟨rfl, by rw [HP0.out]; exact LR7.out.b⟩
      · have HCL := Lib.hid hcl
        go_wp2_with fail
        refine (hin_any n.day 0 99999 _).mono ?_
        rintro e w' ⟨rfl, rfl⟩
        cases hda : inB n.day 0 99999
        · have hR : formedB f n = false := by simp only [formedB, okB, if_neg HK.out.1, if_neg HK.out.2]; simp [HK.out, hok, hrn, hcl, hda]
          have HRX := Lib.hid hR; clear hR
          go_wp2_with fail
          go_ret
          rw [HRX.out]
          exact ⟨rfl, by rw [HP0.out]; exact LR7.out.b⟩
        · have HDA := Lib.hid hda
          go_wp2_with (first
            | (refine wpList_load_row rfl 47 _ rfl p2 rfl 47 (noteA N9 ta tc) (0, 0) _ LR7.out.e2 Tryz.underlying47 rfl (I43.out _ _ _) ?_)
            | (refine wpList_load_rowG ?hw 47 _ rfl p2 rfl 47 (noteA N9 ta tc) (0, 0) _ LR7.out.e2 Tryz.underlying47 rfl (I43.out _ _ _) ?_; case hw => rfl))
          refine (same_any N9 zeroN ta tc none 0 _ RD4.out (RdA.nil _ 1)).mono ?_
          rintro e ws ⟨rfl, b2⟩
          have hR : formedB f n = sameB (bareN n) zeroN := by simp only [formedB, okB, if_neg HK.out.1, if_neg HK.out.2]; simp [HK.out, hok, hrn, hcl, hda]
          have hN : bareN n = N9 := by rw [HN9.out]; unfold bareN leftN; rw [if_neg HK.out.1, if_neg HK.out.2]
          have HRX := Lib.hid hR; clear hR
          have HNX := Lib.hid hN; clear hN
          go_wp2_with fail
          go_ret
          rw [HRX.out, HNX.out]
          exact ⟨rfl, by rw [HP0.out]; exact (LR7.out.below b2).b⟩
set_option maxHeartbeats 20000000 in
set_option maxRecDepth 100000 in
theorem formed_2 (hv : f.valid = true) (hs : RdI w sa n.strokes.length sc n.strokes) (k2 : n.kind = 2) :
    Calls Tryz.prog 114 #[f.val, .agg (noteA n sa sc)] w fun e w' => e = .returned (.bool (formedB f n)) ∧ Below w.heap.size w w' := by
  have HK := Lib.hid k2; clear k2
  have I43 := Lib.hid (show ∀ (m : NoteV) (a : Option Addr) (c : Nat), (Tryz.prog.info? 47).map (·.size) = some (noteA m a c).size from fun m a c => by kernel_rfl)
  have g1 := heap_at (w.alloc (.cells #[.int .i64 f.rings, .int .i64 f.sectors, .int .i64 f.wide] 174)) (.cells (noteA n sa sc) 47) (w.heap.size + 1) (by simp)
  have g0 := heap_before (w.alloc (.cells #[.int .i64 f.rings, .int .i64 f.sectors, .int .i64 f.wide] 174)) (.cells (noteA n sa sc) 47) _ _ (heap_at w (.cells #[.int .i64 f.rings, .int .i64 f.sectors, .int .i64 f.wide] 174) _ rfl)
  have bb : Below w.heap.size w ((w.alloc (.cells #[.int .i64 f.rings, .int .i64 f.sectors, .int .i64 f.wide] 174)).alloc (.cells (noteA n sa sc) 47)) := ((Below.refl _ _).alloc (Nat.le_refl _) _).alloc (by simp) _
  have G1 := Lib.hid g1; clear g1
  have G0 := Lib.hid g0; clear g0
  have BB := Lib.hid bb; clear bb
  go_enter Tryz.func114, Tryz.ntmps114
  unfold FrV.val
  go_wp2_with (refine wpList_load_row rfl 47 _ rfl (w.heap.size + 1) rfl 47 (noteA n sa sc) (0, 0) _ G1.out Tryz.underlying47 rfl (I43.out _ _ _) ?_)
  refine (said_any f n sa sc _ hv (hs.below BB.out) n.kind).mono ?_
  rintro e w1 ⟨ta, tc, rfl, hrd, b1⟩
  have SR := Lib.hid hrd; clear hrd
  have l1 := (Array.getElem?_eq_some_iff.1 G1.out).1
  have z1 := b1.size
  have L1 : Loc3 w (w1.alloc (.cells (noteA (saidN n.kind n) ta tc) 47)) w.heap.size (w.heap.size + 1) w1.heap.size f n sa sc (noteA (saidN n.kind n) ta tc) :=
    ⟨heap_before _ _ _ _ ((b1.block _ (by omega)).trans G0.out), heap_before _ _ _ _ ((b1.block _ (by omega)).trans G1.out), heap_last _ _, (BB.out.trans (b1.mono BB.out.size)).alloc (by omega) _, by omega⟩
  have LL1 := Lib.hid L1; clear L1 l1 z1 b1
  have one1 := noteA_one (saidN n.kind n) ta tc
  have k4 : (w1.alloc (.cells (noteA (saidN n.kind n) ta tc) 47)).cell? ⟨w.heap.size + 1, 4, none⟩ = some (.int .i64 2) := by
    have h := note_cells LL1.out.e1 4 _ rfl
    simp only [Nat.zero_add] at h
    rw [h]
    exact congrArg (fun z => some (Value.int .i64 z)) HK.out
  go_upto_region 4 with (refine wpList_store_newp w1 rfl 47 _ _ rfl w1.heap.size rfl _ (noteA (saidN n.kind n) ta tc) rfl rfl (I43.out _ _ _) rfl one1 ?_)
  generalize hW2 : w1.alloc (.cells (noteA (saidN n.kind n) ta tc) 47) = W2 at *
  generalize hp0 : w.heap.size = p0 at *
  generalize hp1 : p0 + 1 = p1 at *
  generalize hp2 : w1.heap.size = p2 at *
  have RDb := Lib.hid (show ∀ W', Below p0 w W' → RdI W' ta (saidN n.kind n).strokes.length tc (saidN n.kind n).strokes from fun W' h => said_rd SR.out (hs.below (by rw [hp0]; exact h)))
  have HP0 := Lib.hid hp0; clear hp0 hp1 hp2 hW2 G0 G1 BB SR k4
  generalize hm : saidN n.kind n = m at *
  have HM := Lib.hid hm; clear hm
  have j16 := note_cells LL1.out.e2 16 _ rfl
  simp only [Nat.zero_add] at j16
  have z16 := note_frozen LL1.out.e2 16
  have j17 := note_cells LL1.out.e2 17 _ rfl
  simp only [Nat.zero_add] at j17
  have z17 := note_frozen LL1.out.e2 17
  go_upto_region 5 with fail
  generalize hW : ((W2.setCell ⟨p2, 16, none⟩ (.int .i64 0)).setCell ⟨p2, 17, none⟩ (.int .i64 0)) = W3 at *
  have L3 := Lib.hid (show Loc3 w W3 p0 p1 p2 f n sa sc (noteA { m with refH := 0, refN := 0 } ta tc) from by rw [← hW]; exact ((LL1.out.set 16 (.int .i64 0)).set 17 (.int .i64 0)))
  clear hW j16 z16 j17 z17
  cases hok0 : saidB f n.kind n
  · go_upto_region 11 with fail
    have j0 := note_cells L3.out.e2 0 _ rfl
    simp only [Nat.zero_add] at j0
    have z0 := note_frozen L3.out.e2 0
    have j1 := note_cells L3.out.e2 1 _ rfl
    simp only [Nat.zero_add] at j1
    have z1 := note_frozen L3.out.e2 1
    have j2 := note_cells L3.out.e2 2 _ rfl
    simp only [Nat.zero_add] at j2
    have z2 := note_frozen L3.out.e2 2
    have j3 := note_cells L3.out.e2 3 _ rfl
    simp only [Nat.zero_add] at j3
    have z3 := note_frozen L3.out.e2 3
    have j4 := note_cells L3.out.e2 4 _ rfl
    simp only [Nat.zero_add] at j4
    have z4 := note_frozen L3.out.e2 4
    obtain ⟨N9, HN9⟩ : ∃ N9 : NoteV, Hid (N9 = { { m with refH := 0, refN := 0 } with house := 0, num := 0, clock := 0, day := 0, kind := 0 }) := ⟨_, Lib.hid rfl⟩
    go_upto_region 12 with fail
    generalize hW : (((((W3.setCell ⟨p2, 0, none⟩ (.int .i64 0)).setCell ⟨p2, 1, none⟩ (.int .i64 0)).setCell ⟨p2, 2, none⟩ (.int .i64 0)).setCell ⟨p2, 3, none⟩ (.int .i64 0)).setCell ⟨p2, 4, none⟩ (.int .i64 0)) = Wf8 at *
    have Lf9 := Lib.hid (show Loc3 w Wf8 p0 p1 p2 f n sa sc (noteA N9 ta tc) from by rw [HN9.out, ← hW]; exact (((((L3.out.set 0 (.int .i64 0)).set 1 (.int .i64 0)).set 2 (.int .i64 0)).set 3 (.int .i64 0)).set 4 (.int .i64 0)))
    have RDf10 := Lib.hid (show RdI Wf8 ta N9.strokes.length tc N9.strokes from by rw [HN9.out]; exact RDb.out _ Lf9.out.b)
    clear hW
    clear j0 z0 j1 z1 j2 z2 j3 z3 j4 z4
    have hR : formedB f n = false := by simp only [formedB, okB, if_pos HK.out]; simp [hok0]
    have HRX := Lib.hid hR; clear hR
    go_wp2_with fail
    go_ret
    rw [HRX.out]
    exact ⟨rfl, by rw [HP0.out]; exact Lf9.out.b⟩
  · have HO0 := Lib.hid hok0
    have k16 := note_cells L3.out.e1 16 _ rfl
    simp only [Nat.zero_add] at k16
    have k17 := note_cells L3.out.e1 17 _ rfl
    simp only [Nat.zero_add] at k17
    go_wp2_with fail
    refine (rightName_any n.refH n.refN _).mono ?_
    rintro e W4 ⟨rfl, b2⟩
    have L4 := Lib.hid (L3.out.below b2)
    clear b2 k16 k17
    go_upto_region 11 with fail
    have j0 := note_cells L4.out.e2 0 _ rfl
    simp only [Nat.zero_add] at j0
    have z0 := note_frozen L4.out.e2 0
    have j1 := note_cells L4.out.e2 1 _ rfl
    simp only [Nat.zero_add] at j1
    have z1 := note_frozen L4.out.e2 1
    have j2 := note_cells L4.out.e2 2 _ rfl
    simp only [Nat.zero_add] at j2
    have z2 := note_frozen L4.out.e2 2
    have j3 := note_cells L4.out.e2 3 _ rfl
    simp only [Nat.zero_add] at j3
    have z3 := note_frozen L4.out.e2 3
    have j4 := note_cells L4.out.e2 4 _ rfl
    simp only [Nat.zero_add] at j4
    have z4 := note_frozen L4.out.e2 4
    obtain ⟨N9, HN9⟩ : ∃ N9 : NoteV, Hid (N9 = { { m with refH := 0, refN := 0 } with house := 0, num := 0, clock := 0, day := 0, kind := 0 }) := ⟨_, Lib.hid rfl⟩
    go_upto_region 12 with fail
    generalize hW : (((((W4.setCell ⟨p2, 0, none⟩ (.int .i64 0)).setCell ⟨p2, 1, none⟩ (.int .i64 0)).setCell ⟨p2, 2, none⟩ (.int .i64 0)).setCell ⟨p2, 3, none⟩ (.int .i64 0)).setCell ⟨p2, 4, none⟩ (.int .i64 0)) = Wf11 at *
    have Lf12 := Lib.hid (show Loc3 w Wf11 p0 p1 p2 f n sa sc (noteA N9 ta tc) from by rw [HN9.out, ← hW]; exact (((((L4.out.set 0 (.int .i64 0)).set 1 (.int .i64 0)).set 2 (.int .i64 0)).set 3 (.int .i64 0)).set 4 (.int .i64 0)))
    have RDf13 := Lib.hid (show RdI Wf11 ta N9.strokes.length tc N9.strokes from by rw [HN9.out]; exact RDb.out _ Lf12.out.b)
    clear hW
    clear j0 z0 j1 z1 j2 z2 j3 z3 j4 z4
    cases hok : rightNameB n.refH n.refN
    · have hR : formedB f n = false := by simp only [formedB, okB, if_pos HK.out]; simp [hok0, hok]
      have HRX := Lib.hid hR; clear hR
      go_wp2_with fail
      go_ret
      rw [HRX.out]
      exact ⟨rfl, by rw [HP0.out]; exact Lf12.out.b⟩
    · go_wp2_with (first
        | (refine wpList_load_row rfl 47 _ rfl p1 rfl 47 (noteA n sa sc) (0, 0) _ Lf12.out.e1 Tryz.underlying47 rfl (I43.out _ _ _) ?_)
        | (refine wpList_load_rowG ?hw 47 _ rfl p1 rfl 47 (noteA n sa sc) (0, 0) _ Lf12.out.e1 Tryz.underlying47 rfl (I43.out _ _ _) ?_; case hw => rfl))
      refine (nameOf_any n sa sc _).mono ?_
      rintro e wn14 ⟨rfl, b2⟩
      have LN16 := Lib.hid (Lf12.out.below b2)
      have RD3 := Lib.hid (RDf13.out.below b2)
      clear b2
      go_wp2_with fail
      refine (rightName_any n.house n.num _).mono ?_
      rintro e wr15 ⟨rfl, b2⟩
      have LR17 := Lib.hid (LN16.out.below b2)
      have RD4 := Lib.hid (RD3.out.below b2)
      clear b2 RD3
      cases hrn : rightNameB n.house n.num
      · have hR : formedB f n = false := by simp only [formedB, okB, if_pos HK.out]; simp [hok0, hok, hrn]
        have HRX := Lib.hid hR; clear hR
        go_wp2_with fail
        go_ret
        rw [HRX.out]
        exact ⟨rfl, by rw [HP0.out]; exact LR17.out.b⟩
      · have HRN := Lib.hid hrn
        have k2 := note_cells LR17.out.e1 2 _ rfl
        simp only [Nat.zero_add] at k2
        have k3 := note_cells LR17.out.e1 3 _ rfl
        simp only [Nat.zero_add] at k3
        go_wp2_with fail
        refine (hin_any n.clock 1 1099511627776 _).mono ?_
        rintro e w' ⟨rfl, rfl⟩
        cases hcl : inB n.clock 1 1099511627776
        · have hR : formedB f n = false := by simp only [formedB, okB, if_pos HK.out]; simp [hok0, hok, hrn, hcl]
          have HRX := Lib.hid hR; clear hR
          go_wp2_with fail
          go_ret
          rw [HRX.out]
          exact ⟨rfl, by rw [HP0.out]; exact LR17.out.b⟩
        · have HCL := Lib.hid hcl
          go_wp2_with fail
          refine (hin_any n.day 0 99999 _).mono ?_
          rintro e w' ⟨rfl, rfl⟩
          cases hda : inB n.day 0 99999
          · have hR : formedB f n = false := by simp only [formedB, okB, if_pos HK.out]; simp [hok0, hok, hrn, hcl, hda]
            have HRX := Lib.hid hR; clear hR
            go_wp2_with fail
            go_ret
            rw [HRX.out]
            exact ⟨rfl, by rw [HP0.out]; exact LR17.out.b⟩
          · have HDA := Lib.hid hda
            go_wp2_with (first
              | (refine wpList_load_row rfl 47 _ rfl p2 rfl 47 (noteA N9 ta tc) (0, 0) _ LR17.out.e2 Tryz.underlying47 rfl (I43.out _ _ _) ?_)
              | (refine wpList_load_rowG ?hw 47 _ rfl p2 rfl 47 (noteA N9 ta tc) (0, 0) _ LR17.out.e2 Tryz.underlying47 rfl (I43.out _ _ _) ?_; case hw => rfl))
            refine (same_any N9 zeroN ta tc none 0 _ RD4.out (RdA.nil _ 1)).mono ?_
            rintro e ws ⟨rfl, b2⟩
            have hR : formedB f n = sameB (bareN n) zeroN := by simp only [formedB, okB, if_pos HK.out]; simp [hok0, hok, hrn, hcl, hda]
            have hN : bareN n = N9 := by rw [HN9.out]; unfold bareN leftN; rw [if_pos HK.out, HM.out]
            have HRX := Lib.hid hR; clear hR
            have HNX := Lib.hid hN; clear hN
            go_wp2_with fail
            go_ret
            rw [HRX.out, HNX.out]
            exact ⟨rfl, by rw [HP0.out]; exact (LR17.out.below b2).b⟩
set_option maxHeartbeats 20000000 in
set_option maxRecDepth 100000 in
theorem formed_5 (hv : f.valid = true) (hs : RdI w sa n.strokes.length sc n.strokes) (k2 : n.kind = 5) :
    Calls Tryz.prog 114 #[f.val, .agg (noteA n sa sc)] w fun e w' => e = .returned (.bool (formedB f n)) ∧ Below w.heap.size w w' := by
  have HK := Lib.hid k2; clear k2
  have I43 := Lib.hid (show ∀ (m : NoteV) (a : Option Addr) (c : Nat), (Tryz.prog.info? 47).map (·.size) = some (noteA m a c).size from fun m a c => by kernel_rfl)
  have g1 := heap_at (w.alloc (.cells #[.int .i64 f.rings, .int .i64 f.sectors, .int .i64 f.wide] 174)) (.cells (noteA n sa sc) 47) (w.heap.size + 1) (by simp)
  have g0 := heap_before (w.alloc (.cells #[.int .i64 f.rings, .int .i64 f.sectors, .int .i64 f.wide] 174)) (.cells (noteA n sa sc) 47) _ _ (heap_at w (.cells #[.int .i64 f.rings, .int .i64 f.sectors, .int .i64 f.wide] 174) _ rfl)
  have bb : Below w.heap.size w ((w.alloc (.cells #[.int .i64 f.rings, .int .i64 f.sectors, .int .i64 f.wide] 174)).alloc (.cells (noteA n sa sc) 47)) := ((Below.refl _ _).alloc (Nat.le_refl _) _).alloc (by simp) _
  have G1 := Lib.hid g1; clear g1
  have G0 := Lib.hid g0; clear g0
  have BB := Lib.hid bb; clear bb
  go_enter Tryz.func114, Tryz.ntmps114
  unfold FrV.val
  go_wp2_with (refine wpList_load_row rfl 47 _ rfl (w.heap.size + 1) rfl 47 (noteA n sa sc) (0, 0) _ G1.out Tryz.underlying47 rfl (I43.out _ _ _) ?_)
  refine (said_any f n sa sc _ hv (hs.below BB.out) n.kind).mono ?_
  rintro e w1 ⟨ta, tc, rfl, hrd, b1⟩
  have SR := Lib.hid hrd; clear hrd
  have l1 := (Array.getElem?_eq_some_iff.1 G1.out).1
  have z1 := b1.size
  have L1 : Loc3 w (w1.alloc (.cells (noteA (saidN n.kind n) ta tc) 47)) w.heap.size (w.heap.size + 1) w1.heap.size f n sa sc (noteA (saidN n.kind n) ta tc) :=
    ⟨heap_before _ _ _ _ ((b1.block _ (by omega)).trans G0.out), heap_before _ _ _ _ ((b1.block _ (by omega)).trans G1.out), heap_last _ _, (BB.out.trans (b1.mono BB.out.size)).alloc (by omega) _, by omega⟩
  have LL1 := Lib.hid L1; clear L1 l1 z1 b1
  have one1 := noteA_one (saidN n.kind n) ta tc
  have k4 : (w1.alloc (.cells (noteA (saidN n.kind n) ta tc) 47)).cell? ⟨w.heap.size + 1, 4, none⟩ = some (.int .i64 5) := by
    have h := note_cells LL1.out.e1 4 _ rfl
    simp only [Nat.zero_add] at h
    rw [h]
    exact congrArg (fun z => some (Value.int .i64 z)) HK.out
  go_upto_region 7 with (refine wpList_store_newp w1 rfl 47 _ _ rfl w1.heap.size rfl _ (noteA (saidN n.kind n) ta tc) rfl rfl (I43.out _ _ _) rfl one1 ?_)
  generalize hW2 : w1.alloc (.cells (noteA (saidN n.kind n) ta tc) 47) = W2 at *
  generalize hp0 : w.heap.size = p0 at *
  generalize hp1 : p0 + 1 = p1 at *
  generalize hp2 : w1.heap.size = p2 at *
  have RDb := Lib.hid (show ∀ W', Below p0 w W' → RdI W' ta (saidN n.kind n).strokes.length tc (saidN n.kind n).strokes from fun W' h => said_rd SR.out (hs.below (by rw [hp0]; exact h)))
  have HP0 := Lib.hid hp0; clear hp0 hp1 hp2 hW2 G0 G1 BB SR k4
  generalize hm : saidN n.kind n = m at *
  have HM := Lib.hid hm; clear hm
  have k18 := note_cells LL1.out.e1 18 _ rfl
  simp only [Nat.zero_add] at k18
  have c0 : W2.cell? ⟨p0, 0, none⟩ = some (.int .i64 f.rings) := by simp [World.cell?, LL1.out.e0]
  have c1 : W2.cell? ⟨p0, 1, none⟩ = some (.int .i64 f.sectors) := by simp [World.cell?, LL1.out.e0]
  have c2 : W2.cell? ⟨p0, 2, none⟩ = some (.int .i64 f.wide) := by simp [World.cell?, LL1.out.e0]
  go_wp2_with (refine wpList_load_row rfl 47 _ rfl p2 rfl 47 (noteA m ta tc) (0, 0) _ LL1.out.e2 Tryz.underlying47 rfl (I43.out _ _ _) ?_)
  refine (said_any f m ta tc _ hv (RDb.out _ LL1.out.b) n.fix).mono ?_
  rintro e w3 ⟨ua, uc, rfl, hrd, b3⟩
  have RDc := Lib.hid (show ∀ W', Below p0 w W' → RdI W' ua (saidN n.fix m).strokes.length uc (saidN n.fix m).strokes from fun W' h => said_rd hrd (RDb.out W' h))
  clear hrd k18 c0 c1 c2
  generalize hm2 : saidN n.fix m = m2 at *
  have HM2 := Lib.hid hm2; clear hm2
  have L3 := Lib.hid (LL1.out.below b3)
  clear b3
  have one2 := noteA_one m2 ua uc
  have g2 := heap_before w3 (.cells (noteA m2 ua uc) 47) _ _ L3.out.e2
  have G2 := Lib.hid g2; clear g2
  go_upto_region 9 with (first
    | (refine wpList_store_newp w3 rfl 47 _ _ rfl w3.heap.size rfl _ (noteA m2 ua uc) rfl rfl (I43.out _ _ _) rfl one2 ?_)
    | (refine wpList_load_row rfl 47 _ rfl w3.heap.size rfl 47 (noteA m2 ua uc) (0, 0) _ (heap_last _ _) Tryz.underlying47 rfl (I43.out _ _ _) ?_)
    | (refine wpList_store_rowN rfl 47 _ _ rfl p2 (noteA m ta tc) (noteA m2 ua uc) 47 rfl rfl G2.out (I43.out _ _ _) rfl one2 ?_))
  have L4 := Lib.hid ((L3.out.alloc (.cells (noteA m2 ua uc) 47)).setRow (noteA m2 ua uc))
  generalize (w3.alloc (.cells (noteA m2 ua uc) 47)).setRow p2 (noteA m2 ua uc) = W4 at *
  clear G2
  cases hok0 : saidB f n.kind n
  · go_upto_region 10 with fail
    have j18 := note_cells L4.out.e2 18 _ rfl
    simp only [Nat.zero_add] at j18
    have z18 := note_frozen L4.out.e2 18
    go_upto_region 11 with fail
    generalize hW : (W4.setCell ⟨p2, 18, none⟩ (.int .i64 0)) = W5 at *
    have L5 := Lib.hid (show Loc3 w W5 p0 p1 p2 f n sa sc (noteA { m2 with fix := 0 } ua uc) from by rw [← hW]; exact (L4.out.set 18 (.int .i64 0)))
    clear hW j18 z18
    have j0 := note_cells L5.out.e2 0 _ rfl
    simp only [Nat.zero_add] at j0
    have z0 := note_frozen L5.out.e2 0
    have j1 := note_cells L5.out.e2 1 _ rfl
    simp only [Nat.zero_add] at j1
    have z1 := note_frozen L5.out.e2 1
    have j2 := note_cells L5.out.e2 2 _ rfl
    simp only [Nat.zero_add] at j2
    have z2 := note_frozen L5.out.e2 2
    have j3 := note_cells L5.out.e2 3 _ rfl
    simp only [Nat.zero_add] at j3
    have z3 := note_frozen L5.out.e2 3
    have j4 := note_cells L5.out.e2 4 _ rfl
    simp only [Nat.zero_add] at j4
    have z4 := note_frozen L5.out.e2 4
    obtain ⟨N9, HN9⟩ : ∃ N9 : NoteV, Hid (N9 = { { m2 with fix := 0 } with house := 0, num := 0, clock := 0, day := 0, kind := 0 }) := ⟨_, Lib.hid rfl⟩
    go_upto_region 12 with fail
    generalize hW : (((((W5.setCell ⟨p2, 0, none⟩ (.int .i64 0)).setCell ⟨p2, 1, none⟩ (.int .i64 0)).setCell ⟨p2, 2, none⟩ (.int .i64 0)).setCell ⟨p2, 3, none⟩ (.int .i64 0)).setCell ⟨p2, 4, none⟩ (.int .i64 0)) = Wf18 at *
    have Lf19 := Lib.hid (show Loc3 w Wf18 p0 p1 p2 f n sa sc (noteA N9 ua uc) from by rw [HN9.out, ← hW]; exact (((((L5.out.set 0 (.int .i64 0)).set 1 (.int .i64 0)).set 2 (.int .i64 0)).set 3 (.int .i64 0)).set 4 (.int .i64 0)))
    have RDf20 := Lib.hid (show RdI Wf18 ua N9.strokes.length uc N9.strokes from by rw [HN9.out]; exact RDc.out _ Lf19.out.b)
    clear hW
    clear j0 z0 j1 z1 j2 z2 j3 z3 j4 z4
    have hR : formedB f n = false := by simp only [formedB, okB, if_neg (show ¬ n.kind = 2 by rw [HK.out]; decide), if_pos HK.out]; simp [hok0]
    have HRX := Lib.hid hR; clear hR
    go_wp2_with fail
    go_ret
    rw [HRX.out]
    exact ⟨rfl, by rw [HP0.out]; exact Lf19.out.b⟩
  · have HO0 := Lib.hid hok0
    cases hfi : saidB f n.fix m
    · go_upto_region 10 with fail
      have j18 := note_cells L4.out.e2 18 _ rfl
      simp only [Nat.zero_add] at j18
      have z18 := note_frozen L4.out.e2 18
      go_upto_region 11 with fail
      generalize hW : (W4.setCell ⟨p2, 18, none⟩ (.int .i64 0)) = W5 at *
      have L5 := Lib.hid (show Loc3 w W5 p0 p1 p2 f n sa sc (noteA { m2 with fix := 0 } ua uc) from by rw [← hW]; exact (L4.out.set 18 (.int .i64 0)))
      clear hW j18 z18
      have j0 := note_cells L5.out.e2 0 _ rfl
      simp only [Nat.zero_add] at j0
      have z0 := note_frozen L5.out.e2 0
      have j1 := note_cells L5.out.e2 1 _ rfl
      simp only [Nat.zero_add] at j1
      have z1 := note_frozen L5.out.e2 1
      have j2 := note_cells L5.out.e2 2 _ rfl
      simp only [Nat.zero_add] at j2
      have z2 := note_frozen L5.out.e2 2
      have j3 := note_cells L5.out.e2 3 _ rfl
      simp only [Nat.zero_add] at j3
      have z3 := note_frozen L5.out.e2 3
      have j4 := note_cells L5.out.e2 4 _ rfl
      simp only [Nat.zero_add] at j4
      have z4 := note_frozen L5.out.e2 4
      obtain ⟨N9, HN9⟩ : ∃ N9 : NoteV, Hid (N9 = { { m2 with fix := 0 } with house := 0, num := 0, clock := 0, day := 0, kind := 0 }) := ⟨_, Lib.hid rfl⟩
      go_upto_region 12 with fail
      generalize hW : (((((W5.setCell ⟨p2, 0, none⟩ (.int .i64 0)).setCell ⟨p2, 1, none⟩ (.int .i64 0)).setCell ⟨p2, 2, none⟩ (.int .i64 0)).setCell ⟨p2, 3, none⟩ (.int .i64 0)).setCell ⟨p2, 4, none⟩ (.int .i64 0)) = Wf21 at *
      have Lf22 := Lib.hid (show Loc3 w Wf21 p0 p1 p2 f n sa sc (noteA N9 ua uc) from by rw [HN9.out, ← hW]; exact (((((L5.out.set 0 (.int .i64 0)).set 1 (.int .i64 0)).set 2 (.int .i64 0)).set 3 (.int .i64 0)).set 4 (.int .i64 0)))
      have RDf23 := Lib.hid (show RdI Wf21 ua N9.strokes.length uc N9.strokes from by rw [HN9.out]; exact RDc.out _ Lf22.out.b)
      clear hW
      clear j0 z0 j1 z1 j2 z2 j3 z3 j4 z4
      have hR : formedB f n = false := by simp only [formedB, okB, if_neg (show ¬ n.kind = 2 by rw [HK.out]; decide), if_pos HK.out]; simp [hok0, HM.out, hfi]
      have HRX := Lib.hid hR; clear hR
      go_wp2_with fail
      go_ret
      rw [HRX.out]
      exact ⟨rfl, by rw [HP0.out]; exact Lf22.out.b⟩
    · have HFI := Lib.hid hfi
      have k18 := note_cells L4.out.e1 18 _ rfl
      simp only [Nat.zero_add] at k18
      go_wp2_with fail
      refine (hin_any n.fix 1 4 _).mono ?_
      rintro e W6 ⟨rfl, rfl⟩
      clear k18
      go_upto_region 10 with fail
      have j18 := note_cells L4.out.e2 18 _ rfl
      simp only [Nat.zero_add] at j18
      have z18 := note_frozen L4.out.e2 18
      go_upto_region 11 with fail
      generalize hW : (W4.setCell ⟨p2, 18, none⟩ (.int .i64 0)) = W5 at *
      have L5 := Lib.hid (show Loc3 w W5 p0 p1 p2 f n sa sc (noteA { m2 with fix := 0 } ua uc) from by rw [← hW]; exact (L4.out.set 18 (.int .i64 0)))
      clear hW j18 z18
      have j0 := note_cells L5.out.e2 0 _ rfl
      simp only [Nat.zero_add] at j0
      have z0 := note_frozen L5.out.e2 0
      have j1 := note_cells L5.out.e2 1 _ rfl
      simp only [Nat.zero_add] at j1
      have z1 := note_frozen L5.out.e2 1
      have j2 := note_cells L5.out.e2 2 _ rfl
      simp only [Nat.zero_add] at j2
      have z2 := note_frozen L5.out.e2 2
      have j3 := note_cells L5.out.e2 3 _ rfl
      simp only [Nat.zero_add] at j3
      have z3 := note_frozen L5.out.e2 3
      have j4 := note_cells L5.out.e2 4 _ rfl
      simp only [Nat.zero_add] at j4
      have z4 := note_frozen L5.out.e2 4
      obtain ⟨N9, HN9⟩ : ∃ N9 : NoteV, Hid (N9 = { { m2 with fix := 0 } with house := 0, num := 0, clock := 0, day := 0, kind := 0 }) := ⟨_, Lib.hid rfl⟩
      go_upto_region 12 with fail
      generalize hW : (((((W5.setCell ⟨p2, 0, none⟩ (.int .i64 0)).setCell ⟨p2, 1, none⟩ (.int .i64 0)).setCell ⟨p2, 2, none⟩ (.int .i64 0)).setCell ⟨p2, 3, none⟩ (.int .i64 0)).setCell ⟨p2, 4, none⟩ (.int .i64 0)) = Wf24 at *
      have Lf25 := Lib.hid (show Loc3 w Wf24 p0 p1 p2 f n sa sc (noteA N9 ua uc) from by rw [HN9.out, ← hW]; exact (((((L5.out.set 0 (.int .i64 0)).set 1 (.int .i64 0)).set 2 (.int .i64 0)).set 3 (.int .i64 0)).set 4 (.int .i64 0)))
      have RDf26 := Lib.hid (show RdI Wf24 ua N9.strokes.length uc N9.strokes from by rw [HN9.out]; exact RDc.out _ Lf25.out.b)
      clear hW
      clear j0 z0 j1 z1 j2 z2 j3 z3 j4 z4
      cases hok : inB n.fix 1 4
      · have hR : formedB f n = false := by simp only [formedB, okB, if_neg (show ¬ n.kind = 2 by rw [HK.out]; decide), if_pos HK.out]; simp [hok0, HM.out, hfi, hok]
        have HRX := Lib.hid hR; clear hR
        go_wp2_with fail
        go_ret
        rw [HRX.out]
        exact ⟨rfl, by rw [HP0.out]; exact Lf25.out.b⟩
      · go_wp2_with (first
          | (refine wpList_load_row rfl 47 _ rfl p1 rfl 47 (noteA n sa sc) (0, 0) _ Lf25.out.e1 Tryz.underlying47 rfl (I43.out _ _ _) ?_)
          | (refine wpList_load_rowG ?hw 47 _ rfl p1 rfl 47 (noteA n sa sc) (0, 0) _ Lf25.out.e1 Tryz.underlying47 rfl (I43.out _ _ _) ?_; case hw => rfl))
        refine (nameOf_any n sa sc _).mono ?_
        rintro e wn27 ⟨rfl, b2⟩
        have LN29 := Lib.hid (Lf25.out.below b2)
        have RD3 := Lib.hid (RDf26.out.below b2)
        clear b2
        go_wp2_with fail
        refine (rightName_any n.house n.num _).mono ?_
        rintro e wr28 ⟨rfl, b2⟩
        have LR30 := Lib.hid (LN29.out.below b2)
        have RD4 := Lib.hid (RD3.out.below b2)
        clear b2 RD3
        cases hrn : rightNameB n.house n.num
        · have hR : formedB f n = false := by simp only [formedB, okB, if_neg (show ¬ n.kind = 2 by rw [HK.out]; decide), if_pos HK.out]; simp [hok0, HM.out, hfi, hok, hrn]
          have HRX := Lib.hid hR; clear hR
          go_wp2_with fail
          go_ret
          rw [HRX.out]
          exact ⟨rfl, by rw [HP0.out]; exact LR30.out.b⟩
        · have HRN := Lib.hid hrn
          have k2 := note_cells LR30.out.e1 2 _ rfl
          simp only [Nat.zero_add] at k2
          have k3 := note_cells LR30.out.e1 3 _ rfl
          simp only [Nat.zero_add] at k3
          go_wp2_with fail
          refine (hin_any n.clock 1 1099511627776 _).mono ?_
          rintro e w' ⟨rfl, rfl⟩
          cases hcl : inB n.clock 1 1099511627776
          · have hR : formedB f n = false := by simp only [formedB, okB, if_neg (show ¬ n.kind = 2 by rw [HK.out]; decide), if_pos HK.out]; simp [hok0, HM.out, hfi, hok, hrn, hcl]
            have HRX := Lib.hid hR; clear hR
            go_wp2_with fail
            go_ret
            rw [HRX.out]
            exact ⟨rfl, by rw [HP0.out]; exact LR30.out.b⟩
          · have HCL := Lib.hid hcl
            go_wp2_with fail
            refine (hin_any n.day 0 99999 _).mono ?_
            rintro e w' ⟨rfl, rfl⟩
            cases hda : inB n.day 0 99999
            · have hR : formedB f n = false := by simp only [formedB, okB, if_neg (show ¬ n.kind = 2 by rw [HK.out]; decide), if_pos HK.out]; simp [hok0, HM.out, hfi, hok, hrn, hcl, hda]
              have HRX := Lib.hid hR; clear hR
              go_wp2_with fail
              go_ret
              rw [HRX.out]
              exact ⟨rfl, by rw [HP0.out]; exact LR30.out.b⟩
            · have HDA := Lib.hid hda
              go_wp2_with (first
                | (refine wpList_load_row rfl 47 _ rfl p2 rfl 47 (noteA N9 ua uc) (0, 0) _ LR30.out.e2 Tryz.underlying47 rfl (I43.out _ _ _) ?_)
                | (refine wpList_load_rowG ?hw 47 _ rfl p2 rfl 47 (noteA N9 ua uc) (0, 0) _ LR30.out.e2 Tryz.underlying47 rfl (I43.out _ _ _) ?_; case hw => rfl))
              refine (same_any N9 zeroN ua uc none 0 _ RD4.out (RdA.nil _ 1)).mono ?_
              rintro e ws ⟨rfl, b2⟩
              have hR : formedB f n = sameB (bareN n) zeroN := by simp only [formedB, okB, if_neg (show ¬ n.kind = 2 by rw [HK.out]; decide), if_pos HK.out]; simp [hok0, HM.out, hfi, hok, hrn, hcl, hda]
              have hN : bareN n = N9 := by rw [HN9.out]; unfold bareN leftN; rw [if_neg (show ¬ n.kind = 2 by rw [HK.out]; decide), if_pos HK.out, HM.out, HM2.out]
              have HRX := Lib.hid hR; clear hR
              have HNX := Lib.hid hN; clear hN
              go_wp2_with fail
              go_ret
              rw [HRX.out, HNX.out]
              exact ⟨rfl, by rw [HP0.out]; exact (LR30.out.below b2).b⟩
end
theorem formed_any (f : FrV) (n : NoteV) (sa : Option Addr) (sc : Nat) (w : World) (hv : f.valid = true) (hs : RdI w sa n.strokes.length sc n.strokes) :
    Calls Tryz.prog 114 #[f.val, .agg (noteA n sa sc)] w fun e w' => e = .returned (.bool (formedB f n)) ∧ Below w.heap.size w w' := by
  by_cases k2 : n.kind = 2
  · exact formed_2 f n sa sc w hv hs k2
  · by_cases k5 : n.kind = 5
    · exact formed_5 f n sa sc w hv hs k5
    · exact formed_o f n sa sc w hv hs k2 k5
end Go.Proofs.YtlnhppgfhkkidaaGreat
namespace Go.Proofs.YtlnhppgfhkkidaaGreat
open Go.RowKit

def checkN (f : FrV) (n : NoteV) : Int := if f.valid then if formedB f n then 0 else 80 else 1
section
attribute [local go_sem] noteA_0
variable (f : FrV) (n : NoteV) (sa : Option Addr) (sc : Nat) (w : World)
set_option maxHeartbeats 2000000 in
set_option maxRecDepth 100000 in
theorem checkNote_any (hs : RdI w sa n.strokes.length sc n.strokes) :
    Calls Tryz.prog 56 #[f.val, .agg (noteA n sa sc)] w fun e w' => e = .returned (.int .i64 (checkN f n)) ∧ Below w.heap.size w w' := by
  have I43 := Lib.hid (show (Tryz.prog.info? 47).map (·.size) = some (noteA n sa sc).size by kernel_rfl)
  have g1 := heap_at (w.alloc (.cells #[.int .i64 f.rings, .int .i64 f.sectors, .int .i64 f.wide] 23)) (.cells (noteA n sa sc) 47) (w.heap.size + 1) (by simp)
  have g2 := heap_before _ (.cells #[.int .i64 f.rings, .int .i64 f.sectors, .int .i64 f.wide] 174) _ _ g1
  have b0 : Below w.heap.size w (((w.alloc (.cells #[.int .i64 f.rings, .int .i64 f.sectors, .int .i64 f.wide] 23)).alloc (.cells (noteA n sa sc) 47)).alloc (.cells #[.int .i64 f.rings, .int .i64 f.sectors, .int .i64 f.wide] 174)) :=
    (((Below.refl _ _).alloc (Nat.le_refl _) _).alloc (by simp) _).alloc (by simp; omega) _
  have g3 := heap_at ((w.alloc (.cells #[.int .i64 f.rings, .int .i64 f.sectors, .int .i64 f.wide] 23)).alloc (.cells (noteA n sa sc) 47)) (.cells #[.int .i64 f.rings, .int .i64 f.sectors, .int .i64 f.wide] 174) (w.heap.size + 1 + 1) (by simp)
  have G2 := Lib.hid g2; clear g1 g2
  have G3 := Lib.hid g3; clear g3
  have B0 := Lib.hid b0; clear b0
  unfold FrV.val
  go_enter Tryz.func56, Tryz.ntmps56
  go_wp2_with fail
  generalize ((w.alloc (.cells #[.int .i64 f.rings, .int .i64 f.sectors, .int .i64 f.wide] 23)).alloc (.cells (noteA n sa sc) 47)).alloc (.cells #[.int .i64 f.rings, .int .i64 f.sectors, .int .i64 f.wide] 174) = W0 at *
  refine (valid_any f.rings f.sectors f.wide _).mono ?_
  rintro e w1 ⟨rfl, b1⟩
  have hz := (Array.getElem?_eq_some_iff.1 G3.out).1
  have h1 := (b1.block _ (by omega)).trans G2.out
  have h2 := (b1.block _ hz).trans G3.out
  have B1 := Lib.hid (B0.out.trans (b1.mono B0.out.size)); clear b1
  cases hv : f.valid
  · have hR : checkN f n = 1 := by unfold checkN; rw [hv]; rfl
    have HR := Lib.hid hR; clear hR hv
    go_wp2_with fail
    go_ret
    rw [HR.out]
    exact ⟨rfl, B1.out⟩
  · have c0 : w1.cell? ⟨w.heap.size + 1 + 1, 0, none⟩ = some (.int .i64 f.rings) := by simp [World.cell?, h2]
    have c1 : w1.cell? ⟨w.heap.size + 1 + 1, 1, none⟩ = some (.int .i64 f.sectors) := by simp [World.cell?, h2]
    have c2 : w1.cell? ⟨w.heap.size + 1 + 1, 2, none⟩ = some (.int .i64 f.wide) := by simp [World.cell?, h2]
    have HV := Lib.hid hv; clear hv
    have H1 := Lib.hid h1; clear h1 h2
    go_wp2_with (refine wpList_load_row rfl 47 _ rfl (w.heap.size + 1) rfl 47 (noteA n sa sc) (0, 0) _ H1.out Tryz.underlying47 rfl I43.out ?_)
    refine (formed_any f n sa sc _ HV.out (hs.below B1.out)).mono ?_
    rintro e w2 ⟨rfl, b2⟩
    have B2 := Lib.hid (B1.out.trans (b2.mono B1.out.size)); clear b2
    cases hf : formedB f n
    · have hR : checkN f n = 80 := by unfold checkN; rw [HV.out, hf]; rfl
      have HR := Lib.hid hR; clear hR hf
      go_wp2_with fail
      go_ret
      rw [HR.out]
      exact ⟨rfl, B2.out⟩
    · have hR : checkN f n = 0 := by unfold checkN; rw [HV.out, hf]; rfl
      have HR := Lib.hid hR; clear hR hf
      go_wp2_with fail
      go_ret
      rw [HR.out]
      exact ⟨rfl, B2.out⟩
end
end Go.Proofs.YtlnhppgfhkkidaaGreat
namespace Go.Proofs.YtlnhppgfhkkidaaGreat
open Go.RowKit

theorem cell_of {W : World} {p : Nat} {A : Array Value} {t : TypeId} {sp : Nat × Nat} (h : W.heap[p]? = some (.cells A t sp)) (j : Nat) (v : Value) (hv : A[j]? = some v) : W.cell? ⟨p, j, none⟩ = some v := by
  simp [World.cell?, h, hv]
theorem ahead_cell (n : NoteV) (sa : Option Addr) (sc : Nat) : ∀ k, k < 15 → (noteA n sa sc)[k]? = some (.int .i64 ((aheadN n)[k]?.getD 0))
  | 0, _ => rfl
  | 1, _ => rfl
  | 2, _ => rfl
  | 3, _ => rfl
  | 4, _ => rfl
  | 5, _ => rfl
  | 6, _ => rfl
  | 7, _ => rfl
  | 8, _ => rfl
  | 9, _ => rfl
  | 10, _ => rfl
  | 11, _ => rfl
  | 12, _ => rfl
  | 13, _ => rfl
  | 14, _ => rfl
  | k + 15, h => absurd h (by omega)
theorem behind_cell (n : NoteV) (sa : Option Addr) (sc : Nat) : ∀ k, k < 3 → (noteA n sa sc)[16 + k]? = some (.int .i64 ((behindN n)[k]?.getD 0))
  | 0, _ => rfl
  | 1, _ => rfl
  | 2, _ => rfl
  | k + 3, h => absurd h (by omega)
theorem aheadP_cell (p : Nat) : ∀ k, k < 15 → (ptrL p aheadK).toArray[k]? = some (.pointer (some ⟨p, k, none⟩))
  | 0, _ => rfl
  | 1, _ => rfl
  | 2, _ => rfl
  | 3, _ => rfl
  | 4, _ => rfl
  | 5, _ => rfl
  | 6, _ => rfl
  | 7, _ => rfl
  | 8, _ => rfl
  | 9, _ => rfl
  | 10, _ => rfl
  | 11, _ => rfl
  | 12, _ => rfl
  | 13, _ => rfl
  | 14, _ => rfl
  | k + 15, h => absurd h (by omega)
theorem behindP_cell (p : Nat) : ∀ k, k < 3 → (ptrL p behindK).toArray[k]? = some (.pointer (some ⟨p, 16 + k, none⟩))
  | 0, _ => rfl
  | 1, _ => rfl
  | 2, _ => rfl
  | k + 3, h => absurd h (by omega)
theorem smallI {z : Int} (h : SmallZ z) : I64 z := by
  unfold SmallZ far at h
  unfold I64
  omega
theorem one_rd (w : World) (z : Int) : RdI (w.alloc (.cells #[.int .i64 z] 3)) (some ⟨w.heap.size, 0, none⟩) 1 1 [z] :=
  RdA.of_own (World.ownsRow_lit (base := w.heap.size) (e := 3) (size := 1) w #[.int .i64 z] 1 (Nat.le_refl _) (by unfold maxLen; omega) rfl)
theorem one_apart (base : Nat) (w : World) (z : Int) : Apart base (w.alloc (.cells #[.int .i64 z] 3)) (some ⟨w.heap.size, 0, none⟩) := by
  intro b off e _
  cases e
  exact not_U8 (heap_last w _) (by decide)
theorem encN_len (n : NoteV) (h : SmallN n) : (encN n).length ≤ 190 + 10 * n.strokes.length := by
  obtain ⟨h1, h2, h3, h4⟩ := h
  have g1 := encL_len (aheadN n) (fun z hz => smallI (h1 z hz))
  have g2 := encL_len n.strokes (fun z hz => smallI (h2 z hz))
  have g3 := encL_len (behindN n) (fun z hz => smallI (h3 z hz))
  have g4 := encZ_len (smallI h4)
  have e1 : (aheadN n).length = 15 := rfl
  have e3 : (behindN n).length = 3 := rfl
  unfold encN
  simp only [List.length_append]
  omega
section
variable (n : NoteV) (sa : Option Addr) (sc : Nat) (w : World)
set_option maxHeartbeats 4000000 in
set_option maxRecDepth 100000 in
theorem encoded_any (hs : RdI w sa n.strokes.length sc n.strokes) (hsm : SmallN n) (hlen : n.strokes.length ≤ 1000000) :
    Calls Tryz.prog 117 #[.agg (noteA n sa sc)] w fun e w' => ∃ a' c', e = .returned (.slice a' (encN n).length c') ∧
      w'.ownsRow w.heap.size 5 1 (.slice a' (encN n).length c') (encN n).length ((encN n).map byteV) ∧ Below w.heap.size w w' := by
  obtain ⟨xs, hxs⟩ : ∃ xs : List UInt8, Hid (xs = []) := ⟨_, Lib.hid rfl⟩
  have hN := encN_len n hsm
  have hT : encN n = xs ++ encL (aheadN n) ++ encL [(n.strokes.length : Int)] ++ encL n.strokes ++ encL (behindN n) := by
    rw [hxs.out, encL_one]
    unfold encN
    simp only [List.nil_append, List.append_assoc]
  rw [hT] at hN
  have HLP : Hid ((xs ++ encL (aheadN n)).length ≤ 140737488355328) := Lib.hid (by simp only [List.length_append] at hN ⊢; omega)
  have HL1 : Hid ((xs ++ encL (aheadN n) ++ encL [(n.strokes.length : Int)]).length ≤ 140737488355328) := Lib.hid (by simp only [List.length_append] at hN ⊢; omega)
  have HL2 : Hid ((xs ++ encL (aheadN n) ++ encL [(n.strokes.length : Int)] ++ encL n.strokes).length ≤ 140737488355328) := Lib.hid (by simp only [List.length_append] at hN ⊢; omega)
  have HL3 : Hid ((xs ++ encL (aheadN n) ++ encL [(n.strokes.length : Int)] ++ encL n.strokes ++ encL (behindN n)).length ≤ 140737488355328) := Lib.hid (by omega)
  clear hN hT
  have hlast := heap_last w (.cells (noteA n sa sc) 47)
  have bb : Below w.heap.size w (w.alloc (.cells (noteA n sa sc) 47)) := (Below.refl _ _).alloc (Nat.le_refl _) _
  have hlt : w.heap.size < (w.alloc (.cells (noteA n sa sc) 47)).heap.size := by simp
  have AP := Lib.hid (show ∀ W : World, 0 < n.strokes.length → Apart w.heap.size W sa from fun W h0 => Apart.old fun b off e => by
    obtain ⟨b', off', e', hc⟩ := RdA.at hs h0
    rw [e] at e'
    cases e'
    exact World.block_lt_of_cell? w _ (hc 0 _ (List.getElem?_eq_getElem (by have := hs.1; omega))))
  have H0 := Lib.hid (And.intro hlast (And.intro bb hlt)); clear hlast bb hlt
  go_enter Tryz.func117, Tryz.ntmps117
  go_wp2_with fail
  generalize w.alloc (.cells (noteA n sa sc) 47) = w0 at *
  refine (fields_any w.heap.size w0).mono ?_
  rintro e wf ⟨rfl, g1, g2, b1⟩
  obtain ⟨base, hbase⟩ : ∃ base, Hid (w.heap.size = base) := ⟨_, Lib.hid rfl⟩
  obtain ⟨P, hP⟩ : ∃ P, Hid (w0.heap.size = P) := ⟨_, Lib.hid rfl⟩
  obtain ⟨Q, hQ⟩ : ∃ Q, Hid (w0.heap.size + 1 = Q) := ⟨_, Lib.hid rfl⟩
  rw [hbase.out, hP.out] at g1
  rw [hbase.out, hQ.out] at g2
  have AW : Hid (AppB base w wf) := Lib.hid ⟨(b1.mono (Nat.le_of_lt H0.out.2.2)).os.trans H0.out.2.1.os, (b1.mono (Nat.le_of_lt H0.out.2.2)).tape.trans H0.out.2.1.tape, (b1.mono (Nat.le_of_lt H0.out.2.2)).output.trans H0.out.2.1.output, Nat.le_trans H0.out.2.1.size b1.size, fun k hk _ => (b1.block k (Nat.lt_trans hk H0.out.2.2)).trans (H0.out.2.1.block k hk)⟩
  have hn1 := (b1.block _ H0.out.2.2).trans H0.out.1
  rw [hbase.out] at hn1
  have LN := Lib.hid (And.intro (show base < wf.heap.size from (Array.getElem?_eq_some_iff.1 hn1).1) (And.intro (show ¬ U8 base wf base from not_U8 hn1 (by decide)) hn1))
  have LP := Lib.hid (And.intro (show P < wf.heap.size from (Array.getElem?_eq_some_iff.1 g1).1) (And.intro (show ¬ U8 base wf P from not_U8 g1 (by decide)) g1))
  have LQ := Lib.hid (And.intro (show Q < wf.heap.size from (Array.getElem?_eq_some_iff.1 g2).1) (And.intro (show ¬ U8 base wf Q from not_U8 g2 (by decide)) g2))
  have HB : Hid (base ≤ wf.heap.size) := Lib.hid (Nat.le_of_lt LN.out.1)
  have hbw : Hid (base ≤ w.heap.size) := Lib.hid (by rw [hbase.out]; exact Nat.le_refl _)
  rw [hbase.out] at AP
  rw [hQ.out, hP.out, hbase.out]
  clear g1 g2 hn1 b1 H0
  go_wp2_with fail
  go_loopw [5, 7, 16] (fun b _ i wr => ∃ (k m : Nat) (a' : Option Addr) (c' : Nat), b = .slice a' m c' ∧ k ≤ 15 ∧ i = .int .i64 k ∧ Hid (wr.ownsRow base 5 1 (.slice a' m c') m ((xs ++ encL ((aheadN n).take k)).map byteV)) ∧ Hid (AppB base wf wr)) (fun _ _ i _ => 15 - (intOf i).toNat)
  case atStart => exact ⟨0, 0, none, 0, rfl, Nat.zero_le _, rfl, Lib.hid (by rw [hxs.out]; exact World.ownsRow_nil _ _ _ _), Lib.hid (AppB.refl _ _)⟩
  case round =>
    obtain ⟨k, m, a', c', rfl, hk, rfl, HW, HA⟩ := hrel
    by_cases hlt : k < 15
    · have e1 : wr.cell? ⟨P, k, none⟩ = some (.pointer (some ⟨base, k, none⟩)) := cell_of ((HA.out.block _ LP.out.1 LP.out.2.1).trans LP.out.2.2) _ _ (aheadP_cell base k hlt)
      have e2 : wr.cell? ⟨base, k, none⟩ = some (.int .i64 ((aheadN n)[k]?.getD 0)) := cell_of ((HA.out.block _ LN.out.1 LN.out.2.1).trans LN.out.2.2) _ _ (ahead_cell n sa sc k hlt)
      have hzk : I64 ((aheadN n)[k]?.getD 0) := smallI (hsm.1 _ (by rw [List.getElem?_eq_getElem (show k < (aheadN n).length from hlt), Option.getD_some]; exact List.getElem_mem _))
      have HT := Lib.hid (encL_take (l := aheadN n) (k := k) hlt)
      have hz63 : (k : Int) ≤ 9223372036854775807 := by omega
      have hln : ((xs ++ encL ((aheadN n).take k)) ++ encL [(aheadN n)[k]?.getD 0]).length ≤ 140737488355328 := by
        have h1 := HLP.out
        have h2 := encL_le (aheadN n) (k + 1)
        rw [encL_one, List.append_assoc, ← HT.out]
        simp only [List.length_append] at h1 ⊢
        omega
      have HLN := Lib.hid hln; clear hln
      have HZK := Lib.hid hzk; clear hzk
      have HSB := Lib.hid (Nat.le_trans HB.out HA.out.size)
      generalize (aheadN n)[k]?.getD 0 = z at *
      go_wp2_with fail
      refine (putn_any base _ _ _ (xs ++ encL ((aheadN n).take k)) _ 1 1 [z] _ ?_ (own_below HW.out ((Below.refl _ _).alloc (Nat.le_refl _) _)) (one_rd wr z) (fun _ => one_apart base wr z) (by simpa using HZK.out) HLN.out).mono ?_
      · simp; exact Nat.le_succ_of_le HSB.out
      rintro e w3 ⟨a3, c3, rfl, h1, h2⟩
      have HE : Hid (xs ++ encL ((aheadN n).take k) ++ encL [z] = xs ++ encL ((aheadN n).take (k + 1))) := Lib.hid (by rw [encL_one, List.append_assoc, ← HT.out])
      rw [HE.out] at h1
      rw [HE.out]
      obtain ⟨m3, HM3⟩ : ∃ m3, Hid (m3 = (xs ++ encL ((aheadN n).take (k + 1))).length) := ⟨_, Lib.hid rfl⟩
      rw [← HM3.out] at h1 ⊢
      have H1 := Lib.hid h1; clear h1
      have H2 := Lib.hid (HA.out.trans ((AppB.of_below ((Below.refl _ _).alloc (Nat.le_refl _) _)).trans h2)); clear h2
      go_wp2_with fail
      go_roundw
      case rel => exact ⟨k + 1, _, a3, c3, rfl, by omega, by go_num, H1, H2⟩
      case measure => simp [intOf]; omega
    · have hkn : k = 15 := by omega
      subst hkn
      have HX : Hid ((aheadN n).take 15 = aheadN n) := Lib.hid rfl
      rw [HX.out] at HW
      have hm : m = (xs ++ encL (aheadN n)).length := by
        have := HW.out.1
        simpa using this.symm
      have e15 : wr.cell? ⟨base, 15, none⟩ = some (.slice sa n.strokes.length sc) := cell_of ((HA.out.block _ LN.out.1 LN.out.2.1).trans LN.out.2.2) _ _ rfl
      have HSB := Lib.hid (Nat.le_trans HB.out HA.out.size)
      have HM := Lib.hid hm; clear hm
      go_wp2_with fail
      refine (putn_any base _ _ _ (xs ++ encL (aheadN n)) _ 1 1 [(n.strokes.length : Int)] _ ?_ (own_below HW.out ((Below.refl _ _).alloc (Nat.le_refl _) _)) (one_rd wr _) (fun _ => one_apart base wr _) (by simpa using smallI hsm.2.2.2) HL1.out).mono ?_
      · simp; exact Nat.le_succ_of_le HSB.out
      rintro e w2 ⟨a2, c2, rfl, h1, h2⟩
      obtain ⟨m2, HM2⟩ : ∃ m2, Hid (m2 = (xs ++ encL (aheadN n) ++ encL [(n.strokes.length : Int)]).length) := ⟨_, Lib.hid rfl⟩
      rw [← HM2.out] at h1 ⊢
      have H2 := Lib.hid h1; clear h1
      have A2 := Lib.hid (HA.out.trans ((AppB.of_below ((Below.refl _ _).alloc (Nat.le_refl _) _)).trans h2)); clear h2 e15
      have e15 : w2.cell? ⟨base, 15, none⟩ = some (.slice sa n.strokes.length sc) := cell_of ((A2.out.block _ LN.out.1 LN.out.2.1).trans LN.out.2.2) _ _ rfl
      go_wp2_with fail
      refine (putn_any base _ _ _ (xs ++ encL (aheadN n) ++ encL [(n.strokes.length : Int)]) _ _ _ n.strokes _ (Nat.le_trans HB.out A2.out.size) H2.out (hs.below (by rw [hbase.out]; exact (AW.out.below hbw.out).trans (A2.out.below HB.out))) (fun h0 => AP.out _ h0) (fun z hz => smallI (hsm.2.1 z hz)) HL2.out).mono ?_
      rintro e w3 ⟨a3, c3, rfl, h1, h2⟩
      have H3 := Lib.hid h1; clear h1
      have A3 := Lib.hid (A2.out.trans h2); clear h2 e15
      obtain ⟨X, HXX⟩ : ∃ X, Hid (X = xs ++ encL (aheadN n) ++ encL [(n.strokes.length : Int)] ++ encL n.strokes) := ⟨_, Lib.hid rfl⟩
      rw [← HXX.out] at H3 ⊢
      obtain ⟨m3, HM3⟩ : ∃ m3, Hid (m3 = X.length) := ⟨_, Lib.hid rfl⟩
      rw [← HM3.out] at H3 ⊢
      have HLQ : Hid ((X ++ encL (behindN n)).length ≤ 140737488355328) := Lib.hid (by rw [HXX.out]; exact HL3.out)
      go_wp2_with fail
      go_loopw [5, 9, 39] (fun b _ i wr => ∃ (k m : Nat) (a' : Option Addr) (c' : Nat), b = .slice a' m c' ∧ k ≤ 3 ∧ i = .int .i64 k ∧ Hid (wr.ownsRow base 5 1 (.slice a' m c') m ((X ++ encL ((behindN n).take k)).map byteV)) ∧ Hid (AppB base wf wr)) (fun _ _ i _ => 3 - (intOf i).toNat)
      case atStart => exact ⟨0, _, a3, c3, rfl, Nat.zero_le _, rfl, Lib.hid (by simpa [encL] using H3.out), A3⟩
      case round =>
        obtain ⟨k, m, a', c', rfl, hk, rfl, HW, HA⟩ := hrel
        by_cases hlt : k < 3
        · have e1 : wr.cell? ⟨Q, k, none⟩ = some (.pointer (some ⟨base, 16 + k, none⟩)) := cell_of ((HA.out.block _ LQ.out.1 LQ.out.2.1).trans LQ.out.2.2) _ _ (behindP_cell base k hlt)
          have e2 : wr.cell? ⟨base, 16 + k, none⟩ = some (.int .i64 ((behindN n)[k]?.getD 0)) := cell_of ((HA.out.block _ LN.out.1 LN.out.2.1).trans LN.out.2.2) _ _ (behind_cell n sa sc k hlt)
          have hzk : I64 ((behindN n)[k]?.getD 0) := smallI (hsm.2.2.1 _ (by rw [List.getElem?_eq_getElem (show k < (behindN n).length from hlt), Option.getD_some]; exact List.getElem_mem _))
          have HT := Lib.hid (encL_take (l := behindN n) (k := k) hlt)
          have hz63 : (k : Int) ≤ 9223372036854775807 := by omega
          have hln : ((X ++ encL ((behindN n).take k)) ++ encL [(behindN n)[k]?.getD 0]).length ≤ 140737488355328 := by
            have h1 := HLQ.out
            have h2 := encL_le (behindN n) (k + 1)
            rw [encL_one, List.append_assoc, ← HT.out]
            simp only [List.length_append] at h1 ⊢
            omega
          have HLN := Lib.hid hln; clear hln
          have HZK := Lib.hid hzk; clear hzk
          have HSB := Lib.hid (Nat.le_trans HB.out HA.out.size)
          generalize (behindN n)[k]?.getD 0 = z at *
          go_wp2_with fail
          refine (putn_any base _ _ _ (X ++ encL ((behindN n).take k)) _ 1 1 [z] _ ?_ (own_below HW.out ((Below.refl _ _).alloc (Nat.le_refl _) _)) (one_rd wr z) (fun _ => one_apart base wr z) (by simpa using HZK.out) HLN.out).mono ?_
          · simp; exact Nat.le_succ_of_le HSB.out
          rintro e w3 ⟨a3, c3, rfl, h1, h2⟩
          have HE : Hid (X ++ encL ((behindN n).take k) ++ encL [z] = X ++ encL ((behindN n).take (k + 1))) := Lib.hid (by rw [encL_one, List.append_assoc, ← HT.out])
          rw [HE.out] at h1
          rw [HE.out]
          obtain ⟨m3, HM3⟩ : ∃ m3, Hid (m3 = (X ++ encL ((behindN n).take (k + 1))).length) := ⟨_, Lib.hid rfl⟩
          rw [← HM3.out] at h1 ⊢
          have H1 := Lib.hid h1; clear h1
          have H2 := Lib.hid (HA.out.trans ((AppB.of_below ((Below.refl _ _).alloc (Nat.le_refl _) _)).trans h2)); clear h2
          go_wp2_with fail
          go_roundw
          case rel => exact ⟨k + 1, _, a3, c3, rfl, by omega, by go_num, H1, H2⟩
          case measure => simp [intOf]; omega
        · have hkn : k = 3 := by omega
          subst hkn
          have HX : Hid ((behindN n).take 3 = behindN n) := Lib.hid rfl
          rw [HX.out] at HW
          have hm : m = (X ++ encL (behindN n)).length := by
            have := HW.out.1
            simpa using this.symm
          have hX : X ++ encL (behindN n) = encN n := by
            rw [HXX.out, hxs.out, encL_one]
            unfold encN
            simp only [List.nil_append, List.append_assoc]
          rw [hX] at hm HW
          subst hm
          go_wp2_with fail
          go_ret
          exact ⟨_, _, rfl, by rw [hbase.out]; exact HW.out, by rw [hbase.out]; exact (AW.out.below hbw.out).trans (HA.out.below HB.out)⟩
end
end Go.Proofs.YtlnhppgfhkkidaaGreat
namespace Go.Proofs.YtlnhppgfhkkidaaGreat
open Go.RowKit

theorem rzig_neg {z : Int} (h : I64 z) (hn : z < 0) : IntKind.u64.wrap (IntKind.u64.wrap (2 * IntKind.u64.wrap (wrap64 (-wrap64 (z + 1)))) + 1) = (zig z : Int) := by
  unfold I64 at h
  rw [show wrap64 (z + 1) = z + 1 by unfold wrap64; omega, show wrap64 (-(z + 1)) = -(z + 1) by unfold wrap64; omega]
  simp only [IntKind.wrap_u64]
  unfold zig
  rw [if_neg (by omega)]
  omega
set_option maxHeartbeats 2000000 in
theorem rnumber_any (z : Int) (hz : I64 z) (w : World) :
    Calls Tryz.prog 98 #[.int .i64 z] w fun e w' => ∃ a' c', e = .returned (.slice a' (encZ z).length c') ∧
      w'.ownsRow w.heap.size 5 1 (.slice a' (encZ z).length c') (encZ z).length ((encZ z).map byteV) ∧ Below w.heap.size w w' := by
  have HZ := Lib.hid hz
  obtain ⟨base, hbase⟩ : ∃ base, Hid (w.heap.size = base) := ⟨_, Lib.hid rfl⟩
  rw [hbase.out]
  have hsg : IntKind.u64.signed = false := rfl
  have hL := encZ_len hz
  by_cases hneg : z < 0
  · have hu : Hid (IntKind.u64.wrap (IntKind.u64.wrap (2 * IntKind.u64.wrap (wrap64 (-wrap64 (z + 1)))) + 1) = (zig z : Int)) := Lib.hid (rzig_neg hz hneg)
    go_enter Tryz.func98, Tryz.ntmps98
    go_wp2_with fail
    go_loopw [3, 4] (fun u b wi => ∃ (v m2 : Nat) (ys : List UInt8) (a2 : Option Addr) (c2 : Nat), u = .int .u64 v ∧ b = .slice a2 m2 c2 ∧ v < 18446744073709551616 ∧ Hid (ys ++ encU v = encZ z) ∧ Hid (wi.ownsRow base 5 1 (.slice a2 m2 c2) m2 (ys.map byteV)) ∧ Hid (AppB base w wi)) (fun u _ _ => (intOf u).toNat)
    case atStart => exact ⟨zig z, 0, [], none, 0, congrArg (Value.int .u64) hu.out, rfl, zig_lt HZ.out, Lib.hid rfl, Lib.hid (World.ownsRow_nil _ _ _ _), Lib.hid (AppB.refl _ _)⟩
    case round =>
      obtain ⟨v, m2, ys, a2, c2, rfl, rfl, hv, HY, HW2, HA2⟩ := hrel
      have hm2 : m2 = ys.length := by have := HW2.out.1; simpa using this.symm
      have hle : m2 + (encU v).length ≤ 10 := by
        have h1 := congrArg List.length HY.out
        simp only [List.length_append] at h1
        omega
      have hps := encU_pos v
      subst hm2
      obtain ⟨cb, hcb⟩ : ∃ cb, Hid (cb = UInt8.ofNat (v % 128 + 128)) := ⟨_, Lib.hid rfl⟩
      obtain ⟨cd, hcd⟩ : ∃ cd, Hid (cd = UInt8.ofNat v) := ⟨_, Lib.hid rfl⟩
      have hb2 : base ≤ wr.heap.size := by rw [← hbase.out]; exact HA2.out.size
      by_cases hge : (128 : Int) ≤ v
      · have hq : IntKind.u64.wrap ((v : Int) / 128) = ((v / 128 : Nat) : Int) := by rw [IntKind.wrap_u64]; omega
        go_wp2_with (at_builtin; refine app_one _ rfl _ _ rfl base _ _ _ ys rfl HW2.out cb _ (by rw [hcb.out, toNat_of (by omega)]; first | omega | rfl) rfl (by omega) hb2 ?_)
        intro a3 c3 w3 h1 h2
        have H1 := Lib.hid h1; clear h1
        go_wp2_with fail
        go_roundw
        case rel => exact ⟨v / 128, ys.length + 1, ys ++ [cb], a3, c3, by go_num, rfl, by omega, Lib.hid (by rw [List.append_assoc, List.singleton_append, hcb.out, ← encU_ge (by omega)]; exact HY.out), Lib.hid (by rw [List.map_append]; exact H1.out), Lib.hid (HA2.out.trans h2)⟩
        case measure => simp [intOf]; omega
      · go_wp2_with (at_builtin; refine app_one _ rfl _ _ rfl base _ _ _ ys rfl HW2.out cd (v : Int) (by rw [hcd.out, toNat_of (by omega)]) rfl (by omega) hb2 ?_)
        intro a3 c3 w3 h1 h2
        have H1 := Lib.hid h1; clear h1
        have HE : ys ++ [cd] = encZ z := by rw [hcd.out, ← encU_lt (by omega)]; exact HY.out
        have hl : ys.length + 1 = (encZ z).length := by rw [← HE]; simp
        have hm : (encZ z).map byteV = ys.map byteV ++ [byteV cd] := by rw [← HE, List.map_append]; rfl
        rw [← hm, hl] at H1
        have HH := Lib.hid HE; clear HE
        rw [hl]
        go_wp2_with fail
        go_ret
        exact ⟨_, _, rfl, H1.out, (HA2.out.trans h2).below (by rw [← hbase.out]; exact Nat.le_refl _)⟩
  · have hu : Hid (IntKind.u64.wrap (2 * IntKind.u64.wrap z) = (zig z : Int)) := Lib.hid (zig_pos hz (by omega))
    go_enter Tryz.func98, Tryz.ntmps98
    go_wp2_with fail
    go_loopw [3, 4] (fun u b wi => ∃ (v m2 : Nat) (ys : List UInt8) (a2 : Option Addr) (c2 : Nat), u = .int .u64 v ∧ b = .slice a2 m2 c2 ∧ v < 18446744073709551616 ∧ Hid (ys ++ encU v = encZ z) ∧ Hid (wi.ownsRow base 5 1 (.slice a2 m2 c2) m2 (ys.map byteV)) ∧ Hid (AppB base w wi)) (fun u _ _ => (intOf u).toNat)
    case atStart => exact ⟨zig z, 0, [], none, 0, congrArg (Value.int .u64) hu.out, rfl, zig_lt HZ.out, Lib.hid rfl, Lib.hid (World.ownsRow_nil _ _ _ _), Lib.hid (AppB.refl _ _)⟩
    case round =>
      obtain ⟨v, m2, ys, a2, c2, rfl, rfl, hv, HY, HW2, HA2⟩ := hrel
      have hm2 : m2 = ys.length := by have := HW2.out.1; simpa using this.symm
      have hle : m2 + (encU v).length ≤ 10 := by
        have h1 := congrArg List.length HY.out
        simp only [List.length_append] at h1
        omega
      have hps := encU_pos v
      subst hm2
      obtain ⟨cb, hcb⟩ : ∃ cb, Hid (cb = UInt8.ofNat (v % 128 + 128)) := ⟨_, Lib.hid rfl⟩
      obtain ⟨cd, hcd⟩ : ∃ cd, Hid (cd = UInt8.ofNat v) := ⟨_, Lib.hid rfl⟩
      have hb2 : base ≤ wr.heap.size := by rw [← hbase.out]; exact HA2.out.size
      by_cases hge : (128 : Int) ≤ v
      · have hq : IntKind.u64.wrap ((v : Int) / 128) = ((v / 128 : Nat) : Int) := by rw [IntKind.wrap_u64]; omega
        go_wp2_with (at_builtin; refine app_one _ rfl _ _ rfl base _ _ _ ys rfl HW2.out cb _ (by rw [hcb.out, toNat_of (by omega)]; first | omega | rfl) rfl (by omega) hb2 ?_)
        intro a3 c3 w3 h1 h2
        have H1 := Lib.hid h1; clear h1
        go_wp2_with fail
        go_roundw
        case rel => exact ⟨v / 128, ys.length + 1, ys ++ [cb], a3, c3, by go_num, rfl, by omega, Lib.hid (by rw [List.append_assoc, List.singleton_append, hcb.out, ← encU_ge (by omega)]; exact HY.out), Lib.hid (by rw [List.map_append]; exact H1.out), Lib.hid (HA2.out.trans h2)⟩
        case measure => simp [intOf]; omega
      · go_wp2_with (at_builtin; refine app_one _ rfl _ _ rfl base _ _ _ ys rfl HW2.out cd (v : Int) (by rw [hcd.out, toNat_of (by omega)]) rfl (by omega) hb2 ?_)
        intro a3 c3 w3 h1 h2
        have H1 := Lib.hid h1; clear h1
        have HE : ys ++ [cd] = encZ z := by rw [hcd.out, ← encU_lt (by omega)]; exact HY.out
        have hl : ys.length + 1 = (encZ z).length := by rw [← HE]; simp
        have hm : (encZ z).map byteV = ys.map byteV ++ [byteV cd] := by rw [← HE, List.map_append]; rfl
        rw [← hm, hl] at H1
        have HH := Lib.hid HE; clear HE
        rw [hl]
        go_wp2_with fail
        go_ret
        exact ⟨_, _, rfl, H1.out, (HA2.out.trans h2).below (by rw [← hbase.out]; exact Nat.le_refl _)⟩

end Go.Proofs.YtlnhppgfhkkidaaGreat
namespace Go.Proofs.YtlnhppgfhkkidaaGreat
open Go.RowKit

theorem rd_lt {w : World} {k : Nat} {a : Option Addr} {n c : Nat} {xs : List Value} (hr : RdA w k a n c xs) (h0 : 0 < n) (hk : 0 < k) : ∀ b off, a = some ⟨b, off, none⟩ → b < w.heap.size := by
  intro b off e
  obtain ⟨b', off', e', hc⟩ := hr.at h0
  rw [e] at e'
  cases e'
  have hl : 0 < xs.length := by rw [hr.len]; exact Nat.mul_pos h0 hk
  exact World.block_lt_of_cell? w _ (hc 0 _ (List.getElem?_eq_getElem hl))
set_option maxHeartbeats 4000000 in
theorem rnumbers_any (la : Option Addr) (n lc : Nat) (zs : List Int) (w : World) (hr : RdI w la n lc zs) (hz : ∀ z ∈ zs, I64 z) (hn : n ≤ 1000000) :
    Calls Tryz.prog 99 #[.slice la n lc] w fun e w' => ∃ a' c', e = .returned (.slice a' (encZ n ++ encL zs).length c') ∧
      w'.ownsRow w.heap.size 5 1 (.slice a' (encZ n ++ encL zs).length c') (encZ n ++ encL zs).length ((encZ n ++ encL zs).map byteV) ∧ Below w.heap.size w w' := by
  have hl := Lib.hid hr.len
  have HZ := Lib.hid hz; clear hz
  obtain ⟨base, hbase⟩ : ∃ base, Hid (w.heap.size = base) := ⟨_, Lib.hid rfl⟩
  have hlen : (encZ n ++ encL zs).length ≤ 10000010 := by
    have h1 := encL_len zs HZ.out
    have h2 := encZ_len (z := (n : Int)) (by unfold I64; omega)
    have h3 := hl.out
    rw [List.length_append]
    omega
  have HL := Lib.hid hlen; clear hlen
  have HR := Lib.hid hr
  rw [hbase.out]
  obtain ⟨X, HX⟩ : ∃ X, Hid (X = encZ (n : Int)) := ⟨_, Lib.hid rfl⟩
  go_enter Tryz.func99, Tryz.ntmps99
  go_wp2_with fail
  refine (rnumber_any n (by unfold I64; omega) w).mono ?_
  rintro e w1 ⟨a1, c1, rfl, h1, b1⟩
  rw [hbase.out] at h1 b1
  rw [← HX.out] at h1 HL ⊢
  have H1 := Lib.hid h1; clear h1
  have B1 := Lib.hid b1; clear b1
  obtain ⟨m1, HM1⟩ : ∃ m, Hid (X.length = m) := ⟨_, Lib.hid rfl⟩
  rw [HM1.out] at H1 ⊢
  go_wp2_with fail
  go_loopw [3, 4] (fun b i wr => ∃ (k m : Nat) (a' : Option Addr) (c' : Nat), b = .slice a' m c' ∧ k ≤ n ∧ i = .int .i64 k ∧ Hid (wr.ownsRow base 5 1 (.slice a' m c') m ((X ++ encL (zs.take k)).map byteV)) ∧ Hid (Below base w wr)) (fun _ i _ => n - (intOf i).toNat)
  case atStart => exact ⟨0, m1, a1, c1, rfl, Nat.zero_le _, rfl, Lib.hid (by simpa [encL] using H1.out), B1⟩
  case round =>
    obtain ⟨k, m, a', c', rfl, hk, rfl, HW, HB⟩ := hrel
    by_cases hlt : k < n
    · obtain ⟨b, off, rfl, hc⟩ := RdI.at (hr.below (by rw [hbase.out]; exact HB.out)) (by omega)
      have e1 := hc k hlt
      have hk64 : (k : Int) ≤ 9223372036854775807 := by omega
      have HZK := Lib.hid (HZ.out (zs[k]?.getD 0) (by rw [List.getElem?_eq_getElem (by rw [hl.out]; exact hlt), Option.getD_some]; exact List.getElem_mem _))
      have HT := Lib.hid (encL_take (l := zs) (k := k) (by rw [hl.out]; exact hlt))
      have HLE := Lib.hid (encL_le zs (k + 1))
      have hbs : base ≤ wr.heap.size := by rw [← hbase.out]; exact HB.out.size
      generalize zs[k]?.getD 0 = z at *
      clear hc
      go_wp2_with fail
      refine (rnumber_any z HZK.out wr).mono ?_
      rintro e w2 ⟨a2, c2, rfl, h2, b2⟩
      have H2 := Lib.hid h2; clear h2
      have O2 := Lib.hid (own_below HW.out b2)
      have hm : m = (X ++ encL (zs.take k)).length := by have := O2.out.1; simpa using this.symm
      have hb2 : base ≤ w2.heap.size := Nat.le_trans hbs b2.size
      have B2 := Lib.hid (HB.out.trans (b2.mono hbs)); clear b2
      obtain ⟨m2, HM2⟩ : ∃ m, Hid ((encZ z).length = m) := ⟨_, Lib.hid rfl⟩
      rw [HM2.out] at H2 ⊢
      have hml : m + m2 ≤ 140737488355328 := by
        have h1 := HL.out
        have h2 := HLE.out
        rw [HT.out] at h2
        simp only [List.length_append] at h1 h2 hm
        have h3 := HM2.out
        omega
      clear hm
      go_wp2_with (at_builtin; refine app_bytes _ rfl _ _ rfl base _ _ _ (X ++ encL (zs.take k)) rfl O2.out _ _ _ (encZ z) rfl (RdB.of_own H2.out) hml hb2 ?_)
      intro a3 c3 w3 h3 h4
      have H3 := Lib.hid (show w3.ownsRow base 5 1 (.slice a3 (m + m2) c3) (m + m2) ((X ++ encL (zs.take (k + 1))).map byteV) by rw [HT.out, ← List.append_assoc]; simpa using h3); clear h3
      have B3 := Lib.hid (B2.out.trans ((AppB.of_own O2.out h4).below hb2)); clear h4
      go_wp2_with fail
      go_roundw
      case rel => exact ⟨k + 1, m + m2, a3, c3, by first | rfl | simp, by omega, by go_num, H3, B3⟩
      case measure => simp [intOf]; omega
    · have hkn : k = n := by omega
      subst hkn
      have hm : m = (X ++ encL zs).length := by
        have := HW.out.1
        rw [List.take_of_length_le (by rw [hl.out]; exact Nat.le_refl _)] at this
        simpa using this.symm
      have HWW := Lib.hid (show wr.ownsRow base 5 1 (.slice a' m c') m ((X ++ encL zs).map byteV) by
        have := HW.out
        rwa [List.take_of_length_le (by rw [hl.out]; exact Nat.le_refl _)] at this)
      have HM := Lib.hid hm; clear hm
      go_wp2_with fail
      go_ret
      rw [← HX.out, ← HM.out]
      exact ⟨_, _, rfl, HWW.out, HB.out⟩
end Go.Proofs.YtlnhppgfhkkidaaGreat
namespace Go.Proofs.YtlnhppgfhkkidaaGreat
open Go.RowKit

theorem two_new {w W : World} {A B : Array Value} {s t : TypeId} (hb : Below w.heap.size w W) : ((W.alloc (.cells A s)).alloc (.cells B t)).drew.heap[W.heap.size]? = some (.cells A s (0, 0)) ∧ ((W.alloc (.cells A s)).alloc (.cells B t)).drew.heap[W.heap.size + 1]? = some (.cells B t (0, 0)) ∧ Below w.heap.size w ((W.alloc (.cells A s)).alloc (.cells B t)).drew := by
  refine ⟨heap_before _ _ _ _ (heap_last _ _), ?_, ?_⟩
  · have := heap_last (W.alloc (.cells A s)) (.cells B t)
    have e : (W.alloc (.cells A s)).heap.size = W.heap.size + 1 := by simp
    rw [e] at this
    exact this
  · have b := (hb.alloc hb.size (.cells A s)).alloc (Nat.le_trans hb.size (by simp)) (.cells B t)
    exact ⟨b.os, b.tape, b.output, b.size, b.block⟩
set_option maxHeartbeats 4000000 in
set_option maxRecDepth 100000 in
theorem rfields_any (n : NoteV) (sa : Option Addr) (sc : Nat) (w : World) :
    Calls Tryz.prog 178 #[.agg (noteA n sa sc)] w fun e w' => ∃ P Q, e = .returned (.tuple #[.slice (some ⟨P, 0, none⟩) 15 15, .slice (some ⟨Q, 0, none⟩) 3 3]) ∧
      w'.heap[P]? = some (.cells ((aheadN n).map intV).toArray 3 (0, 0)) ∧ w'.heap[Q]? = some (.cells ((behindN n).map intV).toArray 3 (0, 0)) ∧ w.heap.size ≤ P ∧ w.heap.size ≤ Q ∧ Below w.heap.size w w' := by
  have hlast := heap_last w (.cells (noteA n sa sc) 47)
  have bb : Below w.heap.size w (w.alloc (.cells (noteA n sa sc) 47)) := (Below.refl _ _).alloc (Nat.le_refl _) _
  have hz : w.heap.size < (w.alloc (.cells (noteA n sa sc) 47)).heap.size := by simp
  have k0 := cell_of hlast 0 (.int .i64 n.house) rfl
  have k1 := cell_of hlast 1 (.int .i64 n.num) rfl
  have k2 := cell_of hlast 2 (.int .i64 n.clock) rfl
  have k3 := cell_of hlast 3 (.int .i64 n.day) rfl
  have k4 := cell_of hlast 4 (.int .i64 n.kind) rfl
  have k5 := cell_of hlast 5 (.int .i64 n.stone) rfl
  have k6 := cell_of hlast 6 (.int .i64 n.heap) rfl
  have k7 := cell_of hlast 7 (.int .i64 n.turns) rfl
  have k8 := cell_of hlast 8 (.int .i64 n.hardLo) rfl
  have k9 := cell_of hlast 9 (.int .i64 n.hardHi) rfl
  have k10 := cell_of hlast 10 (.int .i64 n.diffLo) rfl
  have k11 := cell_of hlast 11 (.int .i64 n.diffHi) rfl
  have k12 := cell_of hlast 12 (.int .i64 n.a) rfl
  have k13 := cell_of hlast 13 (.int .i64 n.b) rfl
  have k14 := cell_of hlast 14 (.int .i64 n.ring) rfl
  have k16 := cell_of hlast 16 (.int .i64 n.refH) rfl
  have k17 := cell_of hlast 17 (.int .i64 n.refN) rfl
  have k18 := cell_of hlast 18 (.int .i64 n.fix) rfl
  have BB := Lib.hid bb; clear bb
  have HZ := Lib.hid hz; clear hz
  have HL := Lib.hid hlast; clear hlast
  go_enter Tryz.func178, Tryz.ntmps178
  go_upto_region 1 with fail
  generalize w.alloc (.cells (noteA n sa sc) 47) = W at *
  generalize hp : w.heap.size = p at *
  have HP := Lib.hid hp; clear hp
  have hk0 : (fun w' : World => w'.cell? ⟨p, 0, none⟩ = some (.int .i64 n.house) ∧ w'.cell? ⟨p, 1, none⟩ = some (.int .i64 n.num) ∧ w'.cell? ⟨p, 2, none⟩ = some (.int .i64 n.clock) ∧ w'.cell? ⟨p, 3, none⟩ = some (.int .i64 n.day) ∧ w'.cell? ⟨p, 4, none⟩ = some (.int .i64 n.kind) ∧ w'.cell? ⟨p, 5, none⟩ = some (.int .i64 n.stone) ∧ w'.cell? ⟨p, 6, none⟩ = some (.int .i64 n.heap) ∧ w'.cell? ⟨p, 7, none⟩ = some (.int .i64 n.turns) ∧ w'.cell? ⟨p, 8, none⟩ = some (.int .i64 n.hardLo) ∧ w'.cell? ⟨p, 9, none⟩ = some (.int .i64 n.hardHi) ∧ w'.cell? ⟨p, 10, none⟩ = some (.int .i64 n.diffLo) ∧ w'.cell? ⟨p, 11, none⟩ = some (.int .i64 n.diffHi) ∧ w'.cell? ⟨p, 12, none⟩ = some (.int .i64 n.a) ∧ w'.cell? ⟨p, 13, none⟩ = some (.int .i64 n.b) ∧ w'.cell? ⟨p, 14, none⟩ = some (.int .i64 n.ring) ∧ w'.cell? ⟨p, 16, none⟩ = some (.int .i64 n.refH) ∧ w'.cell? ⟨p, 17, none⟩ = some (.int .i64 n.refN) ∧ w'.cell? ⟨p, 18, none⟩ = some (.int .i64 n.fix)) W := ⟨cell_of (HL.out) 0 _ rfl, cell_of (HL.out) 1 _ rfl, cell_of (HL.out) 2 _ rfl, cell_of (HL.out) 3 _ rfl, cell_of (HL.out) 4 _ rfl, cell_of (HL.out) 5 _ rfl, cell_of (HL.out) 6 _ rfl, cell_of (HL.out) 7 _ rfl, cell_of (HL.out) 8 _ rfl, cell_of (HL.out) 9 _ rfl, cell_of (HL.out) 10 _ rfl, cell_of (HL.out) 11 _ rfl, cell_of (HL.out) 12 _ rfl, cell_of (HL.out) 13 _ rfl, cell_of (HL.out) 14 _ rfl, cell_of (HL.out) 16 _ rfl, cell_of (HL.out) 17 _ rfl, cell_of (HL.out) 18 _ rfl⟩
  have hk1 : ∀ o, (fun w' : World => w'.cell? ⟨p, 0, none⟩ = some (.int .i64 n.house) ∧ w'.cell? ⟨p, 1, none⟩ = some (.int .i64 n.num) ∧ w'.cell? ⟨p, 2, none⟩ = some (.int .i64 n.clock) ∧ w'.cell? ⟨p, 3, none⟩ = some (.int .i64 n.day) ∧ w'.cell? ⟨p, 4, none⟩ = some (.int .i64 n.kind) ∧ w'.cell? ⟨p, 5, none⟩ = some (.int .i64 n.stone) ∧ w'.cell? ⟨p, 6, none⟩ = some (.int .i64 n.heap) ∧ w'.cell? ⟨p, 7, none⟩ = some (.int .i64 n.turns) ∧ w'.cell? ⟨p, 8, none⟩ = some (.int .i64 n.hardLo) ∧ w'.cell? ⟨p, 9, none⟩ = some (.int .i64 n.hardHi) ∧ w'.cell? ⟨p, 10, none⟩ = some (.int .i64 n.diffLo) ∧ w'.cell? ⟨p, 11, none⟩ = some (.int .i64 n.diffHi) ∧ w'.cell? ⟨p, 12, none⟩ = some (.int .i64 n.a) ∧ w'.cell? ⟨p, 13, none⟩ = some (.int .i64 n.b) ∧ w'.cell? ⟨p, 14, none⟩ = some (.int .i64 n.ring) ∧ w'.cell? ⟨p, 16, none⟩ = some (.int .i64 n.refH) ∧ w'.cell? ⟨p, 17, none⟩ = some (.int .i64 n.refN) ∧ w'.cell? ⟨p, 18, none⟩ = some (.int .i64 n.fix)) (W.alloc o) := fun o => ⟨cell_of (heap_before W o _ _ HL.out) 0 _ rfl, cell_of (heap_before W o _ _ HL.out) 1 _ rfl, cell_of (heap_before W o _ _ HL.out) 2 _ rfl, cell_of (heap_before W o _ _ HL.out) 3 _ rfl, cell_of (heap_before W o _ _ HL.out) 4 _ rfl, cell_of (heap_before W o _ _ HL.out) 5 _ rfl, cell_of (heap_before W o _ _ HL.out) 6 _ rfl, cell_of (heap_before W o _ _ HL.out) 7 _ rfl, cell_of (heap_before W o _ _ HL.out) 8 _ rfl, cell_of (heap_before W o _ _ HL.out) 9 _ rfl, cell_of (heap_before W o _ _ HL.out) 10 _ rfl, cell_of (heap_before W o _ _ HL.out) 11 _ rfl, cell_of (heap_before W o _ _ HL.out) 12 _ rfl, cell_of (heap_before W o _ _ HL.out) 13 _ rfl, cell_of (heap_before W o _ _ HL.out) 14 _ rfl, cell_of (heap_before W o _ _ HL.out) 16 _ rfl, cell_of (heap_before W o _ _ HL.out) 17 _ rfl, cell_of (heap_before W o _ _ HL.out) 18 _ rfl⟩
  have hk2 : ∀ o o', (fun w' : World => w'.cell? ⟨p, 0, none⟩ = some (.int .i64 n.house) ∧ w'.cell? ⟨p, 1, none⟩ = some (.int .i64 n.num) ∧ w'.cell? ⟨p, 2, none⟩ = some (.int .i64 n.clock) ∧ w'.cell? ⟨p, 3, none⟩ = some (.int .i64 n.day) ∧ w'.cell? ⟨p, 4, none⟩ = some (.int .i64 n.kind) ∧ w'.cell? ⟨p, 5, none⟩ = some (.int .i64 n.stone) ∧ w'.cell? ⟨p, 6, none⟩ = some (.int .i64 n.heap) ∧ w'.cell? ⟨p, 7, none⟩ = some (.int .i64 n.turns) ∧ w'.cell? ⟨p, 8, none⟩ = some (.int .i64 n.hardLo) ∧ w'.cell? ⟨p, 9, none⟩ = some (.int .i64 n.hardHi) ∧ w'.cell? ⟨p, 10, none⟩ = some (.int .i64 n.diffLo) ∧ w'.cell? ⟨p, 11, none⟩ = some (.int .i64 n.diffHi) ∧ w'.cell? ⟨p, 12, none⟩ = some (.int .i64 n.a) ∧ w'.cell? ⟨p, 13, none⟩ = some (.int .i64 n.b) ∧ w'.cell? ⟨p, 14, none⟩ = some (.int .i64 n.ring) ∧ w'.cell? ⟨p, 16, none⟩ = some (.int .i64 n.refH) ∧ w'.cell? ⟨p, 17, none⟩ = some (.int .i64 n.refN) ∧ w'.cell? ⟨p, 18, none⟩ = some (.int .i64 n.fix)) ((W.alloc o).alloc o') := fun o o' => ⟨cell_of (heap_before _ o' _ _ (heap_before W o _ _ HL.out)) 0 _ rfl, cell_of (heap_before _ o' _ _ (heap_before W o _ _ HL.out)) 1 _ rfl, cell_of (heap_before _ o' _ _ (heap_before W o _ _ HL.out)) 2 _ rfl, cell_of (heap_before _ o' _ _ (heap_before W o _ _ HL.out)) 3 _ rfl, cell_of (heap_before _ o' _ _ (heap_before W o _ _ HL.out)) 4 _ rfl, cell_of (heap_before _ o' _ _ (heap_before W o _ _ HL.out)) 5 _ rfl, cell_of (heap_before _ o' _ _ (heap_before W o _ _ HL.out)) 6 _ rfl, cell_of (heap_before _ o' _ _ (heap_before W o _ _ HL.out)) 7 _ rfl, cell_of (heap_before _ o' _ _ (heap_before W o _ _ HL.out)) 8 _ rfl, cell_of (heap_before _ o' _ _ (heap_before W o _ _ HL.out)) 9 _ rfl, cell_of (heap_before _ o' _ _ (heap_before W o _ _ HL.out)) 10 _ rfl, cell_of (heap_before _ o' _ _ (heap_before W o _ _ HL.out)) 11 _ rfl, cell_of (heap_before _ o' _ _ (heap_before W o _ _ HL.out)) 12 _ rfl, cell_of (heap_before _ o' _ _ (heap_before W o _ _ HL.out)) 13 _ rfl, cell_of (heap_before _ o' _ _ (heap_before W o _ _ HL.out)) 14 _ rfl, cell_of (heap_before _ o' _ _ (heap_before W o _ _ HL.out)) 16 _ rfl, cell_of (heap_before _ o' _ _ (heap_before W o _ _ HL.out)) 17 _ rfl, cell_of (heap_before _ o' _ _ (heap_before W o _ _ HL.out)) 18 _ rfl⟩
  go_region_held3 (fun w' => w'.cell? ⟨p, 0, none⟩ = some (.int .i64 n.house) ∧ w'.cell? ⟨p, 1, none⟩ = some (.int .i64 n.num) ∧ w'.cell? ⟨p, 2, none⟩ = some (.int .i64 n.clock) ∧ w'.cell? ⟨p, 3, none⟩ = some (.int .i64 n.day) ∧ w'.cell? ⟨p, 4, none⟩ = some (.int .i64 n.kind) ∧ w'.cell? ⟨p, 5, none⟩ = some (.int .i64 n.stone) ∧ w'.cell? ⟨p, 6, none⟩ = some (.int .i64 n.heap) ∧ w'.cell? ⟨p, 7, none⟩ = some (.int .i64 n.turns) ∧ w'.cell? ⟨p, 8, none⟩ = some (.int .i64 n.hardLo) ∧ w'.cell? ⟨p, 9, none⟩ = some (.int .i64 n.hardHi) ∧ w'.cell? ⟨p, 10, none⟩ = some (.int .i64 n.diffLo) ∧ w'.cell? ⟨p, 11, none⟩ = some (.int .i64 n.diffHi) ∧ w'.cell? ⟨p, 12, none⟩ = some (.int .i64 n.a) ∧ w'.cell? ⟨p, 13, none⟩ = some (.int .i64 n.b) ∧ w'.cell? ⟨p, 14, none⟩ = some (.int .i64 n.ring) ∧ w'.cell? ⟨p, 16, none⟩ = some (.int .i64 n.refH) ∧ w'.cell? ⟨p, 17, none⟩ = some (.int .i64 n.refN) ∧ w'.cell? ⟨p, 18, none⟩ = some (.int .i64 n.fix)) (first | exact hk0 | exact hk1 _ | exact hk2 _ _) (fail)
  all_goals clear hk0 hk1 hk2 k0 k1 k2 k3 k4 k5 k6 k7 k8 k9 k10 k11 k12 k13 k14 k16 k17 k18
  all_goals go_wp2_with fail
  all_goals go_returns
  all_goals have hb : Below w.heap.size w W := by rw [HP.out]; exact BB.out
  all_goals have hs := hb.size
  · exact ⟨W.heap.size, W.heap.size + 1, rfl, (two_new hb).1, (two_new hb).2.1, hs, Nat.le_succ_of_le hs, (two_new hb).2.2⟩
  · exact ⟨W.heap.size + 1, W.heap.size, rfl, (two_new hb).2.1, (two_new hb).1, Nat.le_succ_of_le hs, hs, (two_new hb).2.2⟩
end Go.Proofs.YtlnhppgfhkkidaaGreat
namespace Go.Proofs.YtlnhppgfhkkidaaGreat
open Go.RowKit
theorem aheadI_cell (n : NoteV) : ∀ k, k < 15 → ((aheadN n).map intV).toArray[k]? = some (.int .i64 ((aheadN n)[k]?.getD 0))
  | 0, _ => rfl
  | 1, _ => rfl
  | 2, _ => rfl
  | 3, _ => rfl
  | 4, _ => rfl
  | 5, _ => rfl
  | 6, _ => rfl
  | 7, _ => rfl
  | 8, _ => rfl
  | 9, _ => rfl
  | 10, _ => rfl
  | 11, _ => rfl
  | 12, _ => rfl
  | 13, _ => rfl
  | 14, _ => rfl
  | k + 15, h => absurd h (by omega)
theorem behindI_cell (n : NoteV) : ∀ k, k < 3 → ((behindN n).map intV).toArray[k]? = some (.int .i64 ((behindN n)[k]?.getD 0))
  | 0, _ => rfl
  | 1, _ => rfl
  | 2, _ => rfl
  | k + 3, h => absurd h (by omega)
section
variable (n : NoteV) (sa : Option Addr) (sc : Nat) (w : World)
set_option maxHeartbeats 4000000 in
set_option maxRecDepth 100000 in
theorem rencd_any (hs : RdI w sa n.strokes.length sc n.strokes) (hsm : SmallN n) (hlen : n.strokes.length ≤ 1000000) :
    Calls Tryz.prog 125 #[.agg (noteA n sa sc)] w fun e w' => ∃ a' c', e = .returned (.slice a' (encN n).length c') ∧
      w'.ownsRow w.heap.size 5 1 (.slice a' (encN n).length c') (encN n).length ((encN n).map byteV) ∧ Below w.heap.size w w' := by
  obtain ⟨xs, hxs⟩ : ∃ xs : List UInt8, Hid (xs = []) := ⟨_, Lib.hid rfl⟩
  have hN := encN_len n hsm
  have hT : encN n = xs ++ encL (aheadN n) ++ (encZ (n.strokes.length : Int) ++ encL n.strokes) ++ encL (behindN n) := by
    rw [hxs.out]
    unfold encN
    simp only [List.nil_append, List.append_assoc]
  rw [hT] at hN
  have HLP : Hid ((xs ++ encL (aheadN n)).length ≤ 140737488355328) := Lib.hid (by simp only [List.length_append] at hN ⊢; omega)
  have HL3 : Hid ((xs ++ encL (aheadN n) ++ (encZ (n.strokes.length : Int) ++ encL n.strokes) ++ encL (behindN n)).length ≤ 140737488355328) := Lib.hid (by omega)
  clear hN hT
  have I43 := Lib.hid (show ∀ (m : NoteV) (a : Option Addr) (c : Nat), (Tryz.prog.info? 47).map (·.size) = some (noteA m a c).size from fun m a c => by kernel_rfl)
  have hlast := heap_last w (.cells (noteA n sa sc) 47)
  have bb : Below w.heap.size w (w.alloc (.cells (noteA n sa sc) 47)) := (Below.refl _ _).alloc (Nat.le_refl _) _
  have hlt : w.heap.size < (w.alloc (.cells (noteA n sa sc) 47)).heap.size := by simp
  have H0 := Lib.hid (And.intro hlast (And.intro bb hlt)); clear hlast bb hlt
  obtain ⟨base, hbase⟩ : ∃ base, Hid (w.heap.size = base) := ⟨_, Lib.hid rfl⟩
  go_enter Tryz.func125, Tryz.ntmps125
  go_upto_region 1 with fail
  generalize w.alloc (.cells (noteA n sa sc) 47) = w0 at *
  rw [hbase.out]
  rw [hbase.out] at H0
  have hbw : Hid (base ≤ w.heap.size) := Lib.hid (by rw [hbase.out]; exact Nat.le_refl _)
  go_wp2_with (refine wpList_load_row rfl 47 _ rfl base rfl 47 (noteA n sa sc) (0, 0) _ H0.out.1 Tryz.underlying47 rfl (I43.out _ _ _) ?_)
  refine (rfields_any n sa sc w0).mono ?_
  rintro e wf ⟨P, Q, rfl, g1, g2, _, _, b1⟩
  have hlb := Nat.le_of_lt H0.out.2.2
  have AW : Hid (AppB base w wf) := Lib.hid ⟨(b1.mono hlb).os.trans H0.out.2.1.os, (b1.mono hlb).tape.trans H0.out.2.1.tape, (b1.mono hlb).output.trans H0.out.2.1.output, Nat.le_trans H0.out.2.1.size b1.size, fun k hk _ => by rw [hbase.out] at hk; exact (b1.block k (Nat.lt_trans hk H0.out.2.2)).trans (H0.out.2.1.block k hk)⟩
  have hn1 := (b1.block _ H0.out.2.2).trans H0.out.1
  have LN := Lib.hid (And.intro (show base < wf.heap.size from (Array.getElem?_eq_some_iff.1 hn1).1) (And.intro (show ¬ U8 base wf base from not_U8 hn1 (by decide)) hn1))
  have LP := Lib.hid (And.intro (show P < wf.heap.size from (Array.getElem?_eq_some_iff.1 g1).1) (And.intro (show ¬ U8 base wf P from not_U8 g1 (by decide)) g1))
  have LQ := Lib.hid (And.intro (show Q < wf.heap.size from (Array.getElem?_eq_some_iff.1 g2).1) (And.intro (show ¬ U8 base wf Q from not_U8 g2 (by decide)) g2))
  have HB : Hid (base ≤ wf.heap.size) := Lib.hid (Nat.le_of_lt LN.out.1)
  clear g1 g2 hn1 b1 H0 hlb
  go_wp2_with fail
  go_loopw [5, 6] (fun b i wr => ∃ (k m : Nat) (a' : Option Addr) (c' : Nat), b = .slice a' m c' ∧ k ≤ 15 ∧ i = .int .i64 k ∧ Hid (wr.ownsRow base 5 1 (.slice a' m c') m ((xs ++ encL ((aheadN n).take k)).map byteV)) ∧ Hid (AppB base wf wr)) (fun _ i _ => 15 - (intOf i).toNat)
  case atStart => exact ⟨0, 0, none, 0, rfl, Nat.zero_le _, rfl, Lib.hid (by rw [hxs.out]; exact World.ownsRow_nil _ _ _ _), Lib.hid (AppB.refl _ _)⟩
  case round =>
    obtain ⟨k, m, a', c', rfl, hk, rfl, HW, HA⟩ := hrel
    by_cases hlt : k < 15
    · have e1 : wr.cell? ⟨P, k, none⟩ = some (.int .i64 ((aheadN n)[k]?.getD 0)) := cell_of ((HA.out.block _ LP.out.1 LP.out.2.1).trans LP.out.2.2) _ _ (aheadI_cell n k hlt)
      have HZK := Lib.hid (show I64 ((aheadN n)[k]?.getD 0) from smallI (hsm.1 _ (by rw [List.getElem?_eq_getElem (show k < (aheadN n).length from hlt), Option.getD_some]; exact List.getElem_mem _)))
      have HT := Lib.hid (encL_take (l := aheadN n) (k := k) hlt)
      have HLE := Lib.hid (encL_le (aheadN n) (k + 1))
      have hz63 : (k : Int) ≤ 9223372036854775807 := by omega
      have hbs : base ≤ wr.heap.size := Nat.le_trans HB.out HA.out.size
      generalize (aheadN n)[k]?.getD 0 = z at *
      go_wp2_with fail
      refine (rnumber_any z HZK.out wr).mono ?_
      rintro e w2 ⟨a2, c2, rfl, h2, b2⟩
      have H2 := Lib.hid h2; clear h2
      have O2 := Lib.hid (own_below HW.out b2)
      have hm : m = (xs ++ encL ((aheadN n).take k)).length := by have := O2.out.1; simpa using this.symm
      have hb2 : base ≤ w2.heap.size := Nat.le_trans hbs b2.size
      have B2 := Lib.hid (HA.out.trans (AppB.of_below b2)); clear b2
      obtain ⟨m2, HM2⟩ : ∃ m, Hid ((encZ z).length = m) := ⟨_, Lib.hid rfl⟩
      rw [HM2.out] at H2 ⊢
      have hml : m + m2 ≤ 140737488355328 := by
        have h1 := HLP.out
        have h2 := HLE.out
        rw [HT.out] at h2
        simp only [List.length_append] at h1 h2 hm
        have h3 := HM2.out
        omega
      clear hm
      go_wp2_with (at_builtin; refine app_bytes _ rfl _ _ rfl base _ _ _ (xs ++ encL ((aheadN n).take k)) rfl O2.out _ _ _ (encZ z) rfl (RdB.of_own H2.out) hml hb2 ?_)
      intro a3 c3 w3 h3 h4
      have H3 := Lib.hid (show w3.ownsRow base 5 1 (.slice a3 (m + m2) c3) (m + m2) ((xs ++ encL ((aheadN n).take (k + 1))).map byteV) by rw [HT.out, ← List.append_assoc]; simpa using h3); clear h3
      have B3 := Lib.hid (B2.out.trans (AppB.of_own O2.out h4)); clear h4
      go_wp2_with fail
      go_roundw
      case rel => exact ⟨k + 1, m + m2, a3, c3, by first | rfl | simp, by omega, by go_num, H3, B3⟩
      case measure => simp [intOf]; omega
    · have hkn : k = 15 := by omega
      subst hkn
      have HX : Hid ((aheadN n).take 15 = aheadN n) := Lib.hid rfl
      rw [HX.out] at HW
      have hm : m = (xs ++ encL (aheadN n)).length := by
        have := HW.out.1
        simpa using this.symm
      have e15 : wr.cell? ⟨base, 15, none⟩ = some (.slice sa n.strokes.length sc) := cell_of ((HA.out.block _ LN.out.1 LN.out.2.1).trans LN.out.2.2) _ _ rfl
      have HSB := Lib.hid (Nat.le_trans HB.out HA.out.size)
      have HM := Lib.hid hm; clear hm
      go_wp2_with fail
      refine (rnumbers_any _ _ _ n.strokes _ (hs.below (by rw [hbase.out]; exact (AW.out.below hbw.out).trans (HA.out.below HB.out))) (fun z hz => smallI (hsm.2.1 z hz)) hlen).mono ?_
      rintro e w2 ⟨a2, c2, rfl, h2, b2⟩
      have H2 := Lib.hid h2; clear h2
      have O2 := Lib.hid (own_below HW.out b2)
      have hb2 : base ≤ w2.heap.size := Nat.le_trans HSB.out b2.size
      have B2 := Lib.hid (HA.out.trans (AppB.of_below b2)); clear b2 e15
      obtain ⟨m2, HM2⟩ : ∃ m, Hid ((encZ (n.strokes.length : Int) ++ encL n.strokes).length = m) := ⟨_, Lib.hid rfl⟩
      rw [HM2.out] at H2 ⊢
      have hml : m + m2 ≤ 140737488355328 := by
        have h1 := HL3.out
        rw [HM.out, ← HM2.out]
        simp only [List.length_append] at h1 ⊢
        omega
      go_wp2_with (at_builtin; refine app_bytes _ rfl _ _ rfl base _ _ _ (xs ++ encL (aheadN n)) rfl O2.out _ _ _ (encZ (n.strokes.length : Int) ++ encL n.strokes) rfl (RdB.of_own H2.out) hml hb2 ?_)
      intro a3 c3 w3 h3 h4
      obtain ⟨X, HXX⟩ : ∃ X, Hid (X = xs ++ encL (aheadN n) ++ (encZ (n.strokes.length : Int) ++ encL n.strokes)) := ⟨_, Lib.hid rfl⟩
      obtain ⟨m3, HM3⟩ : ∃ m3, Hid (m3 = m + m2) := ⟨_, Lib.hid rfl⟩
      rw [← HM3.out] at h3 ⊢
      have H3 := Lib.hid (show w3.ownsRow base 5 1 (.slice a3 m3 c3) m3 (X.map byteV) by rw [HXX.out]; simpa using h3); clear h3
      have A3 := Lib.hid (B2.out.trans (AppB.of_own O2.out h4)); clear h4
      have HLQ : Hid ((X ++ encL (behindN n)).length ≤ 140737488355328) := Lib.hid (by rw [HXX.out]; exact HL3.out)
      go_wp2_with fail
      go_loopw [5, 7] (fun b i wr => ∃ (k m : Nat) (a' : Option Addr) (c' : Nat), b = .slice a' m c' ∧ k ≤ 3 ∧ i = .int .i64 k ∧ Hid (wr.ownsRow base 5 1 (.slice a' m c') m ((X ++ encL ((behindN n).take k)).map byteV)) ∧ Hid (AppB base wf wr)) (fun _ i _ => 3 - (intOf i).toNat)
      case atStart => exact ⟨0, _, a3, c3, rfl, Nat.zero_le _, rfl, Lib.hid (by simpa [encL] using H3.out), A3⟩
      case round =>
        obtain ⟨k, m, a', c', rfl, hk, rfl, HW, HA⟩ := hrel
        by_cases hlt : k < 3
        · have e1 : wr.cell? ⟨Q, k, none⟩ = some (.int .i64 ((behindN n)[k]?.getD 0)) := cell_of ((HA.out.block _ LQ.out.1 LQ.out.2.1).trans LQ.out.2.2) _ _ (behindI_cell n k hlt)
          have HZK := Lib.hid (show I64 ((behindN n)[k]?.getD 0) from smallI (hsm.2.2.1 _ (by rw [List.getElem?_eq_getElem (show k < (behindN n).length from hlt), Option.getD_some]; exact List.getElem_mem _)))
          have HT := Lib.hid (encL_take (l := behindN n) (k := k) hlt)
          have HLE := Lib.hid (encL_le (behindN n) (k + 1))
          have hz63 : (k : Int) ≤ 9223372036854775807 := by omega
          have hbs : base ≤ wr.heap.size := Nat.le_trans HB.out HA.out.size
          generalize (behindN n)[k]?.getD 0 = z at *
          go_wp2_with fail
          refine (rnumber_any z HZK.out wr).mono ?_
          rintro e w2 ⟨a2, c2, rfl, h2, b2⟩
          have H2 := Lib.hid h2; clear h2
          have O2 := Lib.hid (own_below HW.out b2)
          have hm : m = (X ++ encL ((behindN n).take k)).length := by have := O2.out.1; simpa using this.symm
          have hb2 : base ≤ w2.heap.size := Nat.le_trans hbs b2.size
          have B2 := Lib.hid (HA.out.trans (AppB.of_below b2)); clear b2
          obtain ⟨m2, HM2⟩ : ∃ m, Hid ((encZ z).length = m) := ⟨_, Lib.hid rfl⟩
          rw [HM2.out] at H2 ⊢
          have hml : m + m2 ≤ 140737488355328 := by
            have h1 := HLQ.out
            have h2 := HLE.out
            rw [HT.out] at h2
            simp only [List.length_append] at h1 h2 hm
            have h3 := HM2.out
            omega
          clear hm
          go_wp2_with (at_builtin; refine app_bytes _ rfl _ _ rfl base _ _ _ (X ++ encL ((behindN n).take k)) rfl O2.out _ _ _ (encZ z) rfl (RdB.of_own H2.out) hml hb2 ?_)
          intro a3 c3 w3 h3 h4
          have H3 := Lib.hid (show w3.ownsRow base 5 1 (.slice a3 (m + m2) c3) (m + m2) ((X ++ encL ((behindN n).take (k + 1))).map byteV) by rw [HT.out, ← List.append_assoc]; simpa using h3); clear h3
          have B3 := Lib.hid (B2.out.trans (AppB.of_own O2.out h4)); clear h4
          go_wp2_with fail
          go_roundw
          case rel => exact ⟨k + 1, m + m2, a3, c3, by first | rfl | simp, by omega, by go_num, H3, B3⟩
          case measure => simp [intOf]; omega
        · have hkn : k = 3 := by omega
          subst hkn
          have HX : Hid ((behindN n).take 3 = behindN n) := Lib.hid rfl
          rw [HX.out] at HW
          have hm : m = (X ++ encL (behindN n)).length := by
            have := HW.out.1
            simpa using this.symm
          have hX : X ++ encL (behindN n) = encN n := by
            rw [HXX.out, hxs.out]
            unfold encN
            simp only [List.nil_append, List.append_assoc]
          rw [hX] at hm HW
          subst hm
          go_wp2_with fail
          go_ret
          exact ⟨_, _, rfl, by rw [hbase.out]; exact HW.out, by rw [hbase.out]; exact (AW.out.below hbw.out).trans (HA.out.below HB.out)⟩
end
end Go.Proofs.YtlnhppgfhkkidaaGreat
namespace Go.Proofs.YtlnhppgfhkkidaaGreat
open Go.RowKit

theorem frozen_of {W : World} {p : Nat} {A : Array Value} {t : TypeId} (h : W.heap[p]? = some (.cells A t (0, 0))) (j : Nat) : W.frozen? ⟨p, j, none⟩ = false := by
  simp [World.frozen?, h]
theorem same_at (w : World) (p o : Nat) (v : Value) : Same (fun k => k = p) w (w.setCell ⟨p, o, none⟩ v) :=
  Same.of_grown (row := some p) ⟨rfl, rfl, rfl, by simp [World.setCell], fun k _ hk => Below.heap_setCell w ⟨p, o, none⟩ _ k (fun e => hk (by rw [e]))⟩ (fun k e => by cases e; rfl)
structure RdP (W : World) (rp : Nat) (l : List UInt8) (a : Option Addr) (n c : Nat) : Prop where
  e : W.heap[rp]? = some (.cells #[.slice a n c] 236 (0, 0))
  r : RdB W a n c l
theorem rd_not {W : World} {rp : Nat} {A : Array Value} {t : TypeId} {sp : Nat × Nat} {a : Option Addr} {n c : Nat} {l : List UInt8} (e : W.heap[rp]? = some (.cells A t sp)) (hA : ∀ v ∈ A, ∀ x, v ≠ byteV x) (hr : RdB W a n c l) (h0 : 0 < n) :
    ∀ b off, a = some ⟨b, off, none⟩ → b ≠ rp := by
  intro b off ha hb
  subst hb
  obtain ⟨b', off', e', hc⟩ := RdA.at hr h0
  rw [ha] at e'
  cases e'
  have hl := hr.1
  have h1 : (l.map byteV)[0]? = some ((l.map byteV)[0]'(by rw [hl]; omega)) := List.getElem?_eq_getElem _
  have h2 := hc 0 _ h1
  simp only [World.cell?, e] at h2
  have h3 := Array.mem_of_getElem? h2
  rw [List.getElem_map] at h3
  exact hA _ h3 _ rfl
theorem rd_same {W W' : World} {a : Option Addr} {n c : Nat} {l : List UInt8} {S : Nat → Prop} (hr : RdB W a n c l) (hs : Same S W W') (hn : 0 < n → ∀ b off, a = some ⟨b, off, none⟩ → ¬ S b) : RdB W' a n c l := by
  by_cases h0 : 0 < n
  · exact RdA.of_cells hr fun b ⟨off, hb⟩ hlt => hs.block b hlt (hn h0 b off hb)
  · have hz : n = 0 := by omega
    subst hz
    obtain ⟨h1, h2, h3, h4⟩ := hr
    have hl : l.map byteV = [] := List.eq_nil_of_length_eq_zero (by omega)
    refine ⟨h1, h2, h3, ?_⟩
    rcases h4 with h | ⟨b, off, h, _⟩
    · exact .inl h
    · exact .inr ⟨b, off, h, fun i x hx => by rw [hl] at hx; simp at hx⟩
theorem RdP.not {W : World} {rp : Nat} {l : List UInt8} {a : Option Addr} {n c : Nat} (h : RdP W rp l a n c) (h0 : 0 < n) : ∀ b off, a = some ⟨b, off, none⟩ → b ≠ rp :=
  rd_not h.e (by intro v hv x; simp at hv; subst hv; intro hh; cases hh) h.r h0
theorem RdP.same {W W' : World} {rp : Nat} {l : List UInt8} {a : Option Addr} {n c : Nat} {S : Nat → Prop} (h : RdP W rp l a n c) (hs : Same S W W') (h1 : ¬ S rp) (h2 : 0 < n → ∀ b off, a = some ⟨b, off, none⟩ → ¬ S b) : RdP W' rp l a n c :=
  ⟨(hs.block _ (Array.getElem?_eq_some_iff.1 h.e).1 h1).trans h.e, rd_same h.r hs h2⟩
theorem wpList_slice_rd' {P : Program} (w : World) {ops : Array Oper} {rest : List Oper} {o : Oper} {a : Act} {Q : Exit → Act → World → Prop} (hgd : o.guard = none) (x : Operand) (lo hi : Option Operand) (t : TypeId)
    (ho : o.op = .slice t x lo hi none) (e : TypeId) (i : TypeInfo) (size : Nat) (ht : P.underlying t = some (.slice e)) (hi' : P.info? e = some i) (hsize : i.size = size)
    (xa : Option Addr) (n c : Nat) (xs : List Value) (hx : a.eval x = .slice xa n c) (hrd : RdA w size xa n c xs) (L H : Nat)
    (hl : (lo = none ∧ L = 0) ∨ ∃ q kd, lo = some q ∧ a.eval q = .int kd (L : Int)) (hh : (hi = none ∧ H = n) ∨ ∃ q kd, hi = some q ∧ a.eval q = .int kd (H : Int)) (h1 : L ≤ H) (h2 : H ≤ n)
    (a' : Option Addr) (hs : Go.sliced xa L H c size = .slice a' (H - L) (c - L))
    (h : wpList P ops Q rest (a.put o.dst (.slice a' (H - L) (c - L))) w) : wpList P ops Q (o :: rest) a w := by
  refine wpList_plain hgd fun K hK => ?_
  have hnc := hrd.2.1
  have hrun : (Instr.sliceAt t (a.eval x) (lo.map a.eval) (hi.map a.eval) none).run P w = .ok (.slice a' (H - L) (c - L)) w := by
    rw [hx, ← hs]
    have hel : P.elem t = e := by simp [Program.elem, ht]
    rw [run_sliceAt_slice (P := P) w t _ _ _ _ (by rw [hel]; exact ht), run_slice_any (P := P) w t xa n c (by rw [hel]; exact ht)]
    have hb : (Instr.sliceBounds true n c (lo.map a.eval) (hi.map a.eval) none).run P w = .ok (L, H, c) w := by
      rcases hl with ⟨rfl, rfl⟩ | ⟨q, kd, rfl, hq⟩ <;> rcases hh with ⟨rfl, rfl⟩ | ⟨q', kd', rfl, hq'⟩
      · simp [Instr.sliceBounds]
      · simp [Instr.sliceBounds, hq', run_sliceBound, Result.andThen, (by omega : H ≤ c)]
      · simp [Instr.sliceBounds, hq, run_sliceBound, Result.andThen, h1]
      · simp [Instr.sliceBounds, hq, hq', run_sliceBound, Result.andThen, (by omega : H ≤ c), h1]
    rw [hb, hel]
    simp [Result.andThen, sizeOf, typeInfo, hi', hsize]
  unfold Oper.wp
  simp only [execOp, ho]
  simp [hrun, Result.andThen]
  exact hK _ _ h
theorem slice_bytes2 (w : World) {ops : Array Oper} {rest : List Oper} {o : Oper} {a : Act} {Q : Exit → Act → World → Prop} (hgd : o.guard = none) (x : Operand) (lo hi : Option Operand)
    (ho : o.op = .slice 41 x lo hi none) (xa : Option Addr) (n c : Nat) (l : List UInt8) (hx : a.eval x = .slice xa n c) (hrd : RdB w xa n c l) (L H : Nat)
    (hl : (lo = none ∧ L = 0) ∨ ∃ q kd, lo = some q ∧ a.eval q = .int kd (L : Int)) (hh : (hi = none ∧ H = n) ∨ ∃ q kd, hi = some q ∧ a.eval q = .int kd (H : Int)) (h1 : L ≤ H) (h2 : H ≤ n)
    (h : ∀ a', (∀ W, RdB W xa n c l → RdB W a' (H - L) (c - L) ((l.drop L).take (H - L))) → wpList Tryz.prog ops Q rest (a.put o.dst (.slice a' (H - L) (c - L))) w) : wpList Tryz.prog ops Q (o :: rest) a w := by
  obtain ⟨i, hi', hz0, hz1, hz2⟩ := info_parts infoByte
  obtain ⟨a1, hs1, hr1⟩ := RdA.sliced hrd L H h1 h2
  have key : ∀ W, RdB W xa n c l → RdB W a1 (H - L) (c - L) ((l.drop L).take (H - L)) := fun W hW => by
    obtain ⟨a2, hs2, hr2⟩ := RdA.sliced hW L H h1 h2
    rw [hs1] at hs2
    cases hs2
    unfold RdB
    rw [List.map_take, List.map_drop]
    simpa using hr2
  have hg := h a1 key
  refine wpList_slice_rd' w hgd x lo hi 41 ho 5 i 1 Tryz.underlying41 hi' hz1 xa n c _ hx hrd L H hl hh h1 h2 a1 hs1 hg
def tornP : PanicEntry := { v := .iface 233 (.agg #[]), recovered := false }

theorem take_none (rp : Nat) (a : Option Addr) (n c : Nat) (w : World) (h : RdP w rp [] a n c) :
    Calls Tryz.prog 148 #[.pointer (some ⟨rp, 0, none⟩), .int .i64 1] w fun e w' => e = .panicked [tornP] ∧ w' = w := by
  have hn : n = 0 := by have := h.r.1; simpa using this.symm
  subst hn
  have c0 : w.cell? ⟨rp, 0, none⟩ = some (.slice a 0 c) := cell_of h.e 0 _ rfl
  go_enter Tryz.func148, Tryz.ntmps148
  go_wp2_with fail
  exact ⟨rfl, rfl, rfl⟩
theorem take_some (rp : Nat) (x : UInt8) (t : List UInt8) (a : Option Addr) (n c : Nat) (w : World) (h : RdP w rp (x :: t) a n c) :
    Calls Tryz.prog 148 #[.pointer (some ⟨rp, 0, none⟩), .int .i64 1] w fun e w' => ∃ a1 c1 a2 n2 c2, e = .returned (.slice a1 1 c1) ∧ RdB w' a1 1 c1 [x] ∧ RdP w' rp t a2 n2 c2 ∧ Same (fun k => k = rp) w w' ∧ (∀ W, RdB W a n c (x :: t) → RdB W a2 n2 c2 t) := by
  have hn : n = t.length + 1 := by have := h.r.1; simpa using this.symm
  subst hn
  obtain ⟨m, hm⟩ : ∃ m, Hid (m = t.length + 1) := ⟨_, Lib.hid rfl⟩
  rw [← hm.out] at h
  have h1m : 1 ≤ m := by have := hm.out; omega
  have c0 : w.cell? ⟨rp, 0, none⟩ = some (.slice a m c) := cell_of h.e 0 _ rfl
  have f0 := frozen_of h.e 0
  have hr := Lib.hid h.r
  have HH := Lib.hid h; clear h
  have hgt : decide ((m : Int) < 1) = false := by simp; omega
  go_enter Tryz.func148, Tryz.ntmps148
  go_wp2_with (first
    | (refine slice_bytes2 _ rfl _ _ none rfl _ _ _ _ rfl hr.out 1 m (.inr ⟨_, .i64, rfl, by go_num⟩) (.inl ⟨rfl, rfl⟩) h1m (Nat.le_refl _) ?_; intro sb hsb; have HSB := Lib.hid hsb; clear hsb)
    | (refine slice_bytes _ rfl _ none _ rfl _ _ _ _ rfl hr.out 0 1 (.inl ⟨rfl, rfl⟩) (.inr ⟨_, .i64, rfl, by go_num⟩) (by omega) h1m ?_; intro sa hsl; have HSL := Lib.hid hsl; clear hsl))
  go_ret
  have hS := same_at w rp 0 (.slice sb (m - 1) (c - 1))
  have he := heap_setCell_same w rp 0 _ _ (.slice sb (m - 1) (c - 1)) HH.out.e
  have hcell : ∀ v ∈ #[Value.slice a m c], ∀ x, v ≠ byteV x := by intro v hv x; simp at hv; subst hv; intro hh; cases hh
  have h1 : RdB (w.setCell ⟨rp, 0, none⟩ (.slice sb (m - 1) (c - 1))) sa 1 c [x] := rd_same (by simpa using HSL.out) hS (fun h0 => rd_not HH.out.e hcell (by simpa using HSL.out) h0)
  have h4 : ∀ W, RdB W a m c (x :: t) → RdB W sb (m - 1) (c - 1) t := fun W hW => by have := HSB.out W hW; rw [hm.out] at this ⊢; simpa using this
  have h2 := h4 w HH.out.r
  have h3 : RdP (w.setCell ⟨rp, 0, none⟩ (.slice sb (m - 1) (c - 1))) rp t sb (m - 1) (c - 1) := ⟨he, rd_same h2 hS (fun h0 => rd_not HH.out.e hcell h2 h0)⟩
  first
    | exact ⟨sa, c, sb, m - 1, c - 1, rfl, h1, h3, hS, by rw [← hm.out]; exact h4⟩
end Go.Proofs.YtlnhppgfhkkidaaGreat
namespace Go.Proofs.YtlnhppgfhkkidaaGreat
open Go.RowKit

theorem u64_and127 (x : Nat) (h : x < 18446744073709551616) : bits .and .u64 (x : Int) 127 = ((x % 128 : Nat) : Int) := by
  show IntKind.u64.wrap ((BitVec.ofInt 64 (x : Int) &&& BitVec.ofInt 64 127).toNat : Int) = _
  have h1 : (BitVec.ofInt 64 (x : Int)).toNat = x := by rw [BitVec.ofInt_natCast, BitVec.toNat_ofNat]; exact Nat.mod_eq_of_lt (by omega)
  rw [BitVec.toNat_and, h1, show (BitVec.ofInt 64 127).toNat = 2 ^ 7 - 1 from rfl, Nat.and_two_pow_sub_one_eq_mod, IntKind.wrap_u64]
  omega
theorem u64_and1 (x : Nat) (h : x < 18446744073709551616) : bits .and .u64 (x : Int) 1 = ((x % 2 : Nat) : Int) := by
  show IntKind.u64.wrap ((BitVec.ofInt 64 (x : Int) &&& BitVec.ofInt 64 1).toNat : Int) = _
  have h1 : (BitVec.ofInt 64 (x : Int)).toNat = x := by rw [BitVec.ofInt_natCast, BitVec.toNat_ofNat]; exact Nat.mod_eq_of_lt (by omega)
  rw [BitVec.toNat_and, h1, show (BitVec.ofInt 64 1).toNat = 2 ^ 1 - 1 from rfl, Nat.and_two_pow_sub_one_eq_mod, IntKind.wrap_u64]
  omega
theorem u64_or_add (i v y : Nat) (hi : i ≤ 8) (hv : v < 128 ^ i) (hy : y < 128) : bits .or .u64 (v : Int) ((y * 128 ^ i : Nat) : Int) = ((v + y * 128 ^ i : Nat) : Int) := by
  have hp : 128 ^ i ≤ 128 ^ 8 := Nat.pow_le_pow_right (by omega) hi
  have hp8 : 128 ^ 8 = 72057594037927936 := by decide
  have hm : y * 128 ^ i ≤ 127 * 128 ^ i := Nat.mul_le_mul_right _ (by omega)
  show IntKind.u64.wrap ((BitVec.ofInt 64 (v : Int) ||| BitVec.ofInt 64 ((y * 128 ^ i : Nat) : Int)).toNat : Int) = _
  have h1 : ∀ z : Nat, z < 18446744073709551616 → (BitVec.ofInt 64 (z : Int)).toNat = z := fun z hz => by rw [BitVec.ofInt_natCast, BitVec.toNat_ofNat]; exact Nat.mod_eq_of_lt (by omega)
  rw [BitVec.toNat_or, h1 v (by omega), h1 _ (by omega), Nat.or_comm]
  have e : 128 ^ i = 2 ^ (7 * i) := by rw [Nat.pow_mul]
  have h2 := Nat.two_pow_add_eq_or_of_lt (i := 7 * i) (b := v) (by rw [← e]; exact hv) y
  rw [← e] at h2
  rw [Nat.mul_comm y, ← h2, IntKind.wrap_u64, Nat.mul_comm] at *
  omega
theorem shl_of (y i : Nat) (hi : i ≤ 8) (hy : y < 128) : IntKind.u64.wrap ((y : Int) * 2 ^ (7 * i)) = ((y * 128 ^ i : Nat) : Int) := by
  have e : 128 ^ i = 2 ^ (7 * i) := by rw [Nat.pow_mul]
  have hp : 128 ^ i ≤ 128 ^ 8 := Nat.pow_le_pow_right (by omega) hi
  have hp8 : 128 ^ 8 = 72057594037927936 := by decide
  have hm : y * 128 ^ i ≤ 127 * 128 ^ i := Nat.mul_le_mul_right _ (by omega)
  have e2 : (y : Int) * 2 ^ (7 * i) = ((y * 128 ^ i : Nat) : Int) := by
    rw [e]
    push_cast
    rfl
  rw [e2, IntKind.wrap_u64]
  omega
theorem dec_bound (i v y : Nat) (hv : v < 128 ^ i) (hy : y < 128) : v + y * 128 ^ i < 128 ^ (i + 1) := by
  have hm : y * 128 ^ i ≤ 127 * 128 ^ i := Nat.mul_le_mul_right _ (by omega)
  rw [Nat.pow_succ]
  omega
theorem v63 (i v : Nat) (hi : i ≤ 8) (hv : v < 128 ^ (i + 1)) : v < 9223372036854775808 := by
  have h2 : 128 ^ (i + 1) ≤ 128 ^ 9 := Nat.pow_le_pow_right (by omega) (by omega)
  have h3 : 128 ^ 9 = 9223372036854775808 := by decide
  exact Nat.lt_of_lt_of_le hv (h3 ▸ h2)
theorem half_wrap {v : Nat} (h : v < 9223372036854775808) : wrap64 ((v : Int) / 2) = ((v / 2 : Nat) : Int) := by unfold wrap64; omega
theorem half_lt {v : Nat} (h : v < 9223372036854775808) : v / 2 < 4611686018427387904 := by omega
theorem numP_none {l : List UInt8} (h : decP 0 0 l = none) : numP l = none := by unfold numP; rw [h]
theorem numP_some {l t : List UInt8} {u : Nat} (h : decP 0 0 l = some (u, t)) : numP l = some (zag u, t) := by unfold numP; rw [h]
set_option maxHeartbeats 4000000 in
set_option maxRecDepth 20000 in
theorem number_any (rp : Nat) (l : List UInt8) (a : Option Addr) (n c : Nat) (w : World) (h : RdP w rp l a n c) :
    Calls Tryz.prog 146 #[.pointer (some ⟨rp, 0, none⟩)] w fun e w' => (∃ z t a2 n2 c2, numP l = some (z, t) ∧ e = .returned (.int .i64 z) ∧ RdP w' rp t a2 n2 c2 ∧ Same (fun k => k = rp) w w' ∧ (∀ W, RdB W a n c l → RdB W a2 n2 c2 t)) ∨
      (numP l = none ∧ e = .panicked [tornP] ∧ Same (fun k => k = rp) w w') := by
  have HH := Lib.hid h; clear h
  have hsg : IntKind.u64.signed = false := rfl
  go_enter Tryz.func146, Tryz.ntmps146
  go_wp2_with fail
  go_loopw [3, 4, 5] (fun u s _ wr => ∃ (i v : Nat) (k : List UInt8) (a' : Option Addr) (n' c' : Nat), u = .int .u64 v ∧ s = .int .i64 (7 * i : Nat) ∧ i ≤ 9 ∧ v < 128 ^ i ∧ Hid (decP i v k = decP 0 0 l) ∧ Hid (RdP wr rp k a' n' c') ∧ Hid (Same (fun k => k = rp) w wr ∧ ∀ W, RdB W a n c l → RdB W a' n' c' k)) (fun _ s _ _ => 100 - (intOf s).toNat)
  case atStart => exact ⟨0, 0, l, a, n, c, rfl, rfl, by omega, by simp, Lib.hid rfl, HH, Lib.hid ⟨⟨rfl, rfl, rfl, Nat.le_refl _, fun _ _ _ => rfl⟩, fun _ h => h⟩⟩
  case round =>
    obtain ⟨i, v, k, a', n', c', rfl, rfl, hi, hv, HD, HR, HS⟩ := hrel
    have HV := Lib.hid hv; clear hv
    cases k with
    | nil =>
      go_wp2_with fail
      refine (take_none rp a' n' c' wr HR.out).mono ?_
      rintro e w1 ⟨rfl, rfl⟩
      go_wp2_with fail
      exact ⟨rfl, .inr ⟨numP_none (by rw [← HD.out]; rfl), rfl, HS.out.1⟩⟩
    | cons x t =>
      go_wp2_with fail
      refine (take_some rp x t a' n' c' wr HR.out).mono ?_
      rintro e w1 ⟨a1, c1, a2, n2, c2, rfl, h1, h2, h3, h4⟩
      obtain ⟨b, off, rfl, hc⟩ := RdA.at h1 (by omega)
      have e1 : w1.cell? ⟨b, off, none⟩ = some (.int .u8 (x.toNat : Int)) := by have := hc 0 (byteV x) rfl; simpa [byteV] using this
      have hx := x.toNat_lt
      have H2 := Lib.hid h2
      have H3 := Lib.hid (show Same (fun k => k = rp) w w1 ∧ ∀ W, RdB W a n c l → RdB W a2 n2 c2 t from ⟨HS.out.1.trans h3, fun W hW => h4 W (HS.out.2 W hW)⟩)
      clear hc h1 h2 h3 h4
      by_cases h9 : 9 ≤ i
      · have h56 : decide ((56 : Int) < 7 * (i : Int)) = true := by simp; omega
        go_wp2_with fail
        exact ⟨rfl, .inr ⟨numP_none (by rw [← HD.out, decP, if_pos h9]), rfl, H3.out.1⟩⟩
      · have h56 : decide ((56 : Int) < 7 * (i : Int)) = false := by simp; omega
        have hand := u64_and127 x.toNat (by omega)
        have hor := u64_or_add i v (x.toNat % 128) (by omega) HV.out (by omega)
        have hshl := shl_of (x.toNat % 128) i (by omega) (by omega)
        have hw := dec_bound i v (x.toNat % 128) HV.out (by omega)
        have HDD := Lib.hid (show decP i v (x :: t) = if x.toNat < 128 then some (v + x.toNat % 128 * 128 ^ i, t) else decP (i + 1) (v + x.toNat % 128 * 128 ^ i) t by rw [decP, if_neg h9])
        have HW := Lib.hid hw; clear hw
        obtain ⟨p, hp⟩ : ∃ p, Hid (p = x.toNat % 128 * 128 ^ i) := ⟨_, Lib.hid rfl⟩
        rw [← hp.out] at hor hshl HDD HW
        obtain ⟨y, hy⟩ : ∃ y, Hid (y = x.toNat % 128) := ⟨_, Lib.hid rfl⟩
        rw [← hy.out] at hand hshl
        obtain ⟨v2, hv2⟩ : ∃ v2, Hid (v2 = v + p) := ⟨_, Lib.hid rfl⟩
        rw [← hv2.out] at hor HDD HW
        have hv63 := v63 i v2 (by omega) HW.out
        have hand1 := u64_and1 v2 (Nat.lt_trans hv63 (by decide))
        have hw2 := half_wrap hv63
        have hlt := half_lt hv63
        obtain ⟨q, hq⟩ : ∃ q, Hid (q = v2 / 2) := ⟨_, Lib.hid rfl⟩
        rw [← hq.out] at hw2 hlt
        have HV63 := Lib.hid hv63; clear hv63
        by_cases h128 : (x.toNat : Int) < 128
        · have HDE := Lib.hid (HD.out.symm.trans (HDD.out.trans (if_pos (by omega))))
          rcases Nat.mod_two_eq_zero_or_one v2 with hm | hm
          · have hb1 : (((v2 % 2 : Nat) : Int) == 1) = false := by rw [hm]; rfl
            have HM := Lib.hid hm; clear hm
            obtain ⟨r, hr⟩ : ∃ r, Hid (r = v2 % 2) := ⟨_, Lib.hid rfl⟩
            rw [← hr.out] at hb1 hand1
            go_wp2_with fail
            go_ret
            refine .inl ⟨_, _, _, _, _, numP_some HDE.out, ?_, H2.out, H3.out⟩
            rw [zag, if_pos HM.out, ← hq.out]
            show Ending.returned (Value.int .i64 (wrap64 ((v2 : Int) / 2))) = _
            rw [hw2]
          · have hb1 : (((v2 % 2 : Nat) : Int) == 1) = true := by rw [hm]; rfl
            have HM := Lib.hid hm; clear hm
            obtain ⟨r, hr⟩ : ∃ r, Hid (r = v2 % 2) := ⟨_, Lib.hid rfl⟩
            rw [← hr.out] at hb1 hand1
            go_wp2_with fail
            go_ret
            refine .inl ⟨_, _, _, _, _, numP_some HDE.out, ?_, H2.out, H3.out⟩
            rw [zag, if_neg (by rw [HM.out]; decide), ← hq.out]
            rfl
        · have HDE := Lib.hid (HD.out.symm.trans (HDD.out.trans (if_neg (by omega))))
          go_wp2_with fail
          go_roundw
          case rel => exact ⟨i + 1, v2, t, a2, n2, c2, rfl, by go_num, by omega, HW.out, Lib.hid HDE.out.symm, H2, H3⟩
          case measure => simp [intOf]; omega
end Go.Proofs.YtlnhppgfhkkidaaGreat
namespace Go.Proofs.YtlnhppgfhkkidaaGreat
open Go.RowKit

theorem set_ahead : ∀ (xs : List Int) (z : Int), xs.length < 15 → (noteA (mkN xs [] []) none 0).setIfInBounds xs.length (.int .i64 z) = noteA (mkN (xs ++ [z]) [] []) none 0
  | [], _, _ => rfl
  | [_], _, _ => rfl
  | [_, _], _, _ => rfl
  | [_, _, _], _, _ => rfl
  | [_, _, _, _], _, _ => rfl
  | [_, _, _, _, _], _, _ => rfl
  | [_, _, _, _, _, _], _, _ => rfl
  | [_, _, _, _, _, _, _], _, _ => rfl
  | [_, _, _, _, _, _, _, _], _, _ => rfl
  | [_, _, _, _, _, _, _, _, _], _, _ => rfl
  | [_, _, _, _, _, _, _, _, _, _], _, _ => rfl
  | [_, _, _, _, _, _, _, _, _, _, _], _, _ => rfl
  | [_, _, _, _, _, _, _, _, _, _, _, _], _, _ => rfl
  | [_, _, _, _, _, _, _, _, _, _, _, _, _], _, _ => rfl
  | [_, _, _, _, _, _, _, _, _, _, _, _, _, _], _, _ => rfl
  | _ :: _ :: _ :: _ :: _ :: _ :: _ :: _ :: _ :: _ :: _ :: _ :: _ :: _ :: _ :: _, _, h => absurd h (by simp only [List.length_cons]; omega)
theorem set_behind (xs ys : List Int) (sa : Option Addr) (sc : Nat) : ∀ (zs : List Int) (z : Int), zs.length < 3 → (noteA (mkN xs ys zs) sa sc).setIfInBounds (16 + zs.length) (.int .i64 z) = noteA (mkN xs ys (zs ++ [z])) sa sc
  | [], _, _ => rfl
  | [_], _, _ => rfl
  | [_, _], _, _ => rfl
  | _ :: _ :: _ :: _, _, h => absurd h (by simp only [List.length_cons]; omega)
theorem set_strokes (xs ys ys' : List Int) (sa sa' : Option Addr) (sc sc' m : Nat) (h : m = ys'.length) : (noteA (mkN xs ys []) sa sc).setIfInBounds 15 (.slice sa' m sc') = noteA (mkN xs ys' []) sa' sc' := by
  subst h
  rfl
theorem many_succ {f : List UInt8 → Option (Int × List UInt8)} {k : Nat} {l t t' : List UInt8} {xs : List Int} {z : Int} (h : many f k l = some (xs, t)) (h2 : f t = some (z, t')) : many f (k + 1) l = some (xs ++ [z], t') := by
  rw [many, h]
  simp only [h2]
theorem many_stop {f : List UInt8 → Option (Int × List UInt8)} {l : List UInt8} {k : Nat} (h : many f k l = none) : ∀ j, k ≤ j → many f j l = none := by
  intro j hj
  induction j with
  | zero => rw [show (0 : Nat) = k by omega]; exact h
  | succ j ih =>
    by_cases hk : k = j + 1
    · rw [← hk]; exact h
    · rw [many, ih (by omega)]
theorem many_fail {f : List UInt8 → Option (Int × List UInt8)} {k : Nat} {l t : List UInt8} {xs : List Int} (h : many f k l = some (xs, t)) (h2 : f t = none) (j : Nat) (hj : k < j) : many f j l = none := by
  refine many_stop (k := k + 1) ?_ j hj
  rw [many, h]
  simp only [h2]
def lenF (f : List UInt8 → Option (Int × List UInt8)) (l : List UInt8) : Option (Nat × List UInt8) := match f l with
  | some (c, t) => if 0 ≤ c ∧ c ≤ t.length then some (c.toNat, t) else none
  | none => none
theorem noteF_1 {f : List UInt8 → Option (Int × List UInt8)} {l : List UInt8} (h : many f 15 l = none) : noteF f l = none := by
  unfold noteF; rw [h]
theorem noteF_2 {f : List UInt8 → Option (Int × List UInt8)} {l t : List UInt8} {x : List Int} (h : many f 15 l = some (x, t)) (h2 : lenF f t = none) : noteF f l = none := by
  unfold noteF lenF at *
  rw [h]
  cases e : f t with
  | none => simp only [e]
  | some p =>
    obtain ⟨c, t1⟩ := p
    rw [e] at h2
    simp only at h2
    simp only [e]
    split at h2
    · cases h2
    · rename_i h3; rw [if_neg h3]
theorem noteF_3 {f : List UInt8 → Option (Int × List UInt8)} {l t t1 : List UInt8} {x : List Int} {k : Nat} (h : many f 15 l = some (x, t)) (h2 : lenF f t = some (k, t1)) : noteF f l = match many f k t1 with
    | some (y, t2) => match many f 3 t2 with
      | some (z, t3) => some (mkN x y z, t3)
      | none => none
    | none => none := by
  unfold noteF lenF at *
  rw [h]
  cases e : f t with
  | none => rw [e] at h2; cases h2
  | some p =>
    obtain ⟨c, t1'⟩ := p
    rw [e] at h2
    simp only at h2
    split at h2
    · rename_i h3
      simp only [Option.some.injEq, Prod.mk.injEq] at h2
      obtain ⟨rfl, rfl⟩ := h2
      simp only [e, if_pos h3]
      rfl
    · cases h2

set_option maxHeartbeats 4000000 in
theorem length_any (rp : Nat) (l : List UInt8) (a : Option Addr) (n c : Nat) (w : World) (h : RdP w rp l a n c) :
    Calls Tryz.prog 147 #[.pointer (some ⟨rp, 0, none⟩)] w fun e w' => (∃ (k : Nat) (t : List UInt8) (a2 : Option Addr) (n2 c2 : Nat), lenF numP l = some (k, t) ∧ k ≤ t.length ∧ e = .returned (.int .i64 k) ∧ RdP w' rp t a2 n2 c2 ∧ Same (fun k => k = rp) w w' ∧ (∀ W, RdB W a n c l → RdB W a2 n2 c2 t)) ∨
      (lenF numP l = none ∧ e = .panicked [tornP] ∧ Same (fun k => k = rp) w w') := by
  go_enter Tryz.func147, Tryz.ntmps147
  go_wp2_with fail
  refine (number_any rp l a n c w h).mono ?_
  rintro e w1 (⟨z, t, a2, n2, c2, h1, rfl, h2, h3⟩ | ⟨h1, rfl, h3⟩)
  · obtain ⟨h3, h4⟩ := h3
    have c0 : w1.cell? ⟨rp, 0, none⟩ = some (.slice a2 n2 c2) := cell_of h2.e 0 _ rfl
    have hn : t.length = n2 := by have := h2.r.1; simpa using this
    have H1 := Lib.hid h1; clear h1
    have H2 := Lib.hid h2; clear h2
    have H3 := Lib.hid h3; clear h3
    have H4 := Lib.hid h4; clear h4
    have HN := Lib.hid hn; clear hn
    by_cases hz : z < 0
    · have HF := Lib.hid (show lenF numP l = none by unfold lenF; rw [H1.out]; simp only; rw [if_neg (by omega)])
      have hz1 : decide (z < 0) = true := by simp [hz]
      go_wp2_with fail
      exact ⟨rfl, .inr ⟨HF.out, rfl, H3.out⟩⟩
    · have hz1 : decide (z < 0) = false := by simp; omega
      by_cases hc : (n2 : Int) < z
      · have HF := Lib.hid (show lenF numP l = none by unfold lenF; rw [H1.out]; simp only; rw [if_neg (by rw [HN.out]; omega)])
        have hc1 : decide ((n2 : Int) < z) = true := by simp [hc]
        go_wp2_with fail
        exact ⟨rfl, .inr ⟨HF.out, rfl, H3.out⟩⟩
      · have HF := Lib.hid (show lenF numP l = some (z.toNat, t) by unfold lenF; rw [H1.out]; simp only; rw [if_pos (by rw [HN.out]; omega)])
        have hc1 : decide ((n2 : Int) < z) = false := by simp; omega
        obtain ⟨k, rfl⟩ : ∃ k : Nat, z = (k : Int) := ⟨z.toNat, by omega⟩
        go_wp2_with fail
        go_ret
        exact .inl ⟨k, t, a2, n2, c2, HF.out, by rw [HN.out]; omega, rfl, H2.out, H3.out, H4.out⟩
  · have H1 := Lib.hid h1; clear h1
    have H3 := Lib.hid h3; clear h3
    go_wp2_with fail
    exact ⟨rfl, .inr ⟨by unfold lenF; rw [H1.out], rfl, H3.out⟩⟩
end Go.Proofs.YtlnhppgfhkkidaaGreat
