/- The program's formed: whether a note is well-formed. -/
import Derived.Test.YtpdmlklnbjegpaaGreatHis6
namespace Go.Proofs.YtpdmlklnbjegpaaGreat
open Go.RowKit
theorem below_set {B : Nat} {A W : World} (h : Below B A W) {p : Nat} (hp : B ≤ p) (j : Nat) (v : Value) : Below B A (W.setCell ⟨p, j, none⟩ v) :=
  h.trans ⟨rfl, rfl, rfl, by simp [World.setCell], fun k hk => Below.heap_setCell W ⟨p, j, none⟩ v k (by simp only; omega)⟩
section
attribute [local go_sem] noteA_0 noteA_1 noteA_2 noteA_3 noteA_4 noteA_5 noteA_6 noteA_7 noteA_8 noteA_9 noteA_10 noteA_11 noteA_12 noteA_13 noteA_14 noteA_15 noteA_16 noteA_17 noteA_18 noteA_s0 noteA_s1 noteA_s2 noteA_s3 noteA_s4 noteA_s5 noteA_s6 noteA_s7 noteA_s8 noteA_s9 noteA_s10 noteA_s11 noteA_s12 noteA_s13 noteA_s14 noteA_s15 noteA_s16 noteA_s17 noteA_s18
variable (f : FrV) (n : NoteV) (sa : Option Addr) (sc : Nat) (w : World)
set_option maxHeartbeats 20000000 in
set_option maxRecDepth 100000 in
theorem formed_o (hv : f.valid = true) (hs : RdI w sa n.strokes.length sc n.strokes) (k2 : n.kind ≠ 2) (k5 : n.kind ≠ 5) :
    Calls Tryz.prog 65 #[f.val, .agg (noteA n sa sc)] w fun e w' => e = .returned (.bool (formedB f n)) ∧ Below w.heap.size w w' := by
  have I43 := Lib.hid (show ∀ (m : NoteV) (a : Option Addr) (c : Nat), (Tryz.prog.info? 47).map (·.size) = some (noteA m a c).size from fun m a c => by kernel_rfl)
  have g1 := heap_at (w.alloc (.cells #[.int .i64 f.rings, .int .i64 f.sectors, .int .i64 f.wide] 131)) (.cells (noteA n sa sc) 47) (w.heap.size + 1) (by simp)
  have g0 := heap_before (w.alloc (.cells #[.int .i64 f.rings, .int .i64 f.sectors, .int .i64 f.wide] 131)) (.cells (noteA n sa sc) 47) _ _ (heap_at w (.cells #[.int .i64 f.rings, .int .i64 f.sectors, .int .i64 f.wide] 131) _ rfl)
  have bb : Below w.heap.size w ((w.alloc (.cells #[.int .i64 f.rings, .int .i64 f.sectors, .int .i64 f.wide] 131)).alloc (.cells (noteA n sa sc) 47)) := ((Below.refl _ _).alloc (Nat.le_refl _) _).alloc (by simp) _
  have G1 := Lib.hid g1; clear g1
  have G0 := Lib.hid g0; clear g0
  have BB := Lib.hid bb; clear bb
  go_enter Tryz.func65, Tryz.ntmps65
  unfold FrV.val
  go_wp2_with (refine wpList_load_row rfl 47 _ rfl (w.heap.size + 1) rfl 47 (noteA n sa sc) (0, 0) _ G1.out Tryz.underlying47 rfl (I43.out _ _ _) ?_)
  refine (said_any f n sa sc _ hv (hs.below BB.out) n.kind).mono ?_
  rintro e w1 ⟨ta, tc, rfl, hrd, b1⟩
  have SR := Lib.hid hrd; clear hrd
  have l1 := (Array.getElem?_eq_some_iff.1 G1.out).1
  have z1 := b1.size
  have L1 : Loc3 w (w1.alloc (.cells (noteA (saidN n.kind n) ta tc) 47)) w.heap.size (w.heap.size + 1) w1.heap.size f n sa sc (noteA (saidN n.kind n) ta tc) :=
    ⟨heap_before _ _ _ _ ((b1.block _ (by omega)).trans G0.out), heap_before _ _ _ _ ((b1.block _ (by omega)).trans G1.out), heap_last _ _, (BB.out.trans (b1.mono BB.out.size)).alloc (by omega) _, by omega⟩
  have LL1 := Lib.hid L1; clear L1 l1 z1 b1
  have one1 := noteA_one (saidN n.kind n) ta tc
  have k4 := note_cells LL1.out.e1 4 _ rfl
  simp only [Nat.zero_add] at k4
  have q2 : (n.kind == 2) = false := by simp [k2]
  have q2' : decide (n.kind = 2) = false := by simp [k2]
  have q5 : (n.kind == 5) = false := by simp [k5]
  have q5' : decide (n.kind = 5) = false := by simp [k5]
  have hkind : n.kind ≠ 2 ∧ n.kind ≠ 5 := ⟨k2, k5⟩
  have HK := Lib.hid hkind; clear hkind k2 k5
  go_upto_region 11 with (refine wpList_store_newp w1 rfl 47 _ _ rfl w1.heap.size rfl _ (noteA (saidN n.kind n) ta tc) rfl rfl (I43.out _ _ _) rfl one1 ?_)
  generalize hW2 : w1.alloc (.cells (noteA (saidN n.kind n) ta tc) 47) = W2 at *
  generalize hp0 : w.heap.size = p0 at *
  generalize hp1 : p0 + 1 = p1 at *
  generalize hp2 : w1.heap.size = p2 at *
  have RDb := Lib.hid (show ∀ W', Below p0 w W' → RdI W' ta (saidN n.kind n).strokes.length tc (saidN n.kind n).strokes from fun W' h => said_rd SR.out (hs.below (by rw [hp0]; exact h)))
  have HP0 := Lib.hid hp0; clear hp0 hp1 hp2 hW2 G0 G1 BB SR k4
  have j0 := note_cells LL1.out.e2 0 _ rfl
  simp only [Nat.zero_add] at j0
  have z0 := note_frozen LL1.out.e2 0
  have j1 := note_cells LL1.out.e2 1 _ rfl
  simp only [Nat.zero_add] at j1
  have z1 := note_frozen LL1.out.e2 1
  have j2 := note_cells LL1.out.e2 2 _ rfl
  simp only [Nat.zero_add] at j2
  have z2 := note_frozen LL1.out.e2 2
  have j3 := note_cells LL1.out.e2 3 _ rfl
  simp only [Nat.zero_add] at j3
  have z3 := note_frozen LL1.out.e2 3
  have j4 := note_cells LL1.out.e2 4 _ rfl
  simp only [Nat.zero_add] at j4
  have z4 := note_frozen LL1.out.e2 4
  obtain ⟨N9, HN9⟩ : ∃ N9 : NoteV, Hid (N9 = { saidN n.kind n with house := 0, num := 0, clock := 0, day := 0, kind := 0 }) := ⟨_, Lib.hid rfl⟩
  go_upto_region 12 with fail
  generalize hW : (((((W2.setCell ⟨p2, 0, none⟩ (.int .i64 0)).setCell ⟨p2, 1, none⟩ (.int .i64 0)).setCell ⟨p2, 2, none⟩ (.int .i64 0)).setCell ⟨p2, 3, none⟩ (.int .i64 0)).setCell ⟨p2, 4, none⟩ (.int .i64 0)) = Wf1 at *
  have Lf2 := Lib.hid (show Loc3 w Wf1 p0 p1 p2 f n sa sc (noteA N9 ta tc) from by rw [HN9.out, ← hW]; exact (((((LL1.out.set 0 (.int .i64 0)).set 1 (.int .i64 0)).set 2 (.int .i64 0)).set 3 (.int .i64 0)).set 4 (.int .i64 0)))
  have RDf3 := Lib.hid (show RdI Wf1 ta N9.strokes.length tc N9.strokes from by rw [HN9.out]; exact RDb.out _ Lf2.out.b)
  clear hW
  clear j0 z0 j1 z1 j2 z2 j3 z3 j4 z4
  cases hok : saidB f n.kind n
  · have hR : formedB f n = false := by simp only [formedB, okB, if_neg HK.out.1, if_neg HK.out.2]; simp [HK.out, hok]
    have HRX := Lib.hid hR; clear hR
    go_wp2_with fail
    go_ret
    rw [HRX.out]
    exact ⟨rfl, by rw [HP0.out]; exact Lf2.out.b⟩
  · go_wp2_with (first
      | (refine wpList_load_row rfl 47 _ rfl p1 rfl 47 (noteA n sa sc) (0, 0) _ Lf2.out.e1 Tryz.underlying47 rfl (I43.out _ _ _) ?_)
      | (refine wpList_load_rowG ?hw 47 _ rfl p1 rfl 47 (noteA n sa sc) (0, 0) _ Lf2.out.e1 Tryz.underlying47 rfl (I43.out _ _ _) ?_; case hw => rfl))
    refine (nameOf_any n sa sc _).mono ?_
    rintro e wn4 ⟨rfl, b2⟩
    have LN6 := Lib.hid (Lf2.out.below b2)
    have RD3 := Lib.hid (RDf3.out.below b2)
    clear b2
    go_wp2_with fail
    refine (rightName_any n.house n.num _).mono ?_
    rintro e wr5 ⟨rfl, b2⟩
    have LR7 := Lib.hid (LN6.out.below b2)
    have RD4 := Lib.hid (RD3.out.below b2)
    clear b2 RD3
    cases hrn : rightNameB n.house n.num
    · have hR : formedB f n = false := by simp only [formedB, okB, if_neg HK.out.1, if_neg HK.out.2]; simp [HK.out, hok, hrn]
      have HRX := Lib.hid hR; clear hR
      go_wp2_with fail
      go_ret
      rw [HRX.out]
      exact ⟨rfl, by rw [HP0.out]; exact LR7.out.b⟩
    · have HRN := Lib.hid hrn
      have k2 := note_cells LR7.out.e1 2 _ rfl
      simp only [Nat.zero_add] at k2
      have k3 := note_cells LR7.out.e1 3 _ rfl
      simp only [Nat.zero_add] at k3
      go_wp2_with fail
      refine (hin_any n.clock 1 1099511627776 _).mono ?_
      rintro e w' ⟨rfl, rfl⟩
      cases hcl : inB n.clock 1 1099511627776
      · have hR : formedB f n = false := by simp only [formedB, okB, if_neg HK.out.1, if_neg HK.out.2]; simp [HK.out, hok, hrn, hcl]
        have HRX := Lib.hid hR; clear hR
        go_wp2_with fail
        go_ret
        rw [HRX.out]
        exact ⟨rfl, by rw [HP0.out]; exact LR7.out.b⟩
      · have HCL := Lib.hid hcl
        go_wp2_with fail
        refine (hin_any n.day 0 99999 _).mono ?_
        rintro e w' ⟨rfl, rfl⟩
        cases hda : inB n.day 0 99999
        · have hR : formedB f n = false := by simp only [formedB, okB, if_neg HK.out.1, if_neg HK.out.2]; simp [HK.out, hok, hrn, hcl, hda]
          have HRX := Lib.hid hR; clear hR
          go_wp2_with fail
          go_ret
          rw [HRX.out]
          exact ⟨rfl, by rw [HP0.out]; exact LR7.out.b⟩
        · have HDA := Lib.hid hda
          go_wp2_with (first
            | (refine wpList_load_row rfl 47 _ rfl p2 rfl 47 (noteA N9 ta tc) (0, 0) _ LR7.out.e2 Tryz.underlying47 rfl (I43.out _ _ _) ?_)
            | (refine wpList_load_rowG ?hw 47 _ rfl p2 rfl 47 (noteA N9 ta tc) (0, 0) _ LR7.out.e2 Tryz.underlying47 rfl (I43.out _ _ _) ?_; case hw => rfl))
          refine (same_any N9 zeroN ta tc none 0 _ RD4.out (RdA.nil _ 1)).mono ?_
          rintro e ws ⟨rfl, b2⟩
          have hR : formedB f n = sameB (bareN n) zeroN := by simp only [formedB, okB, if_neg HK.out.1, if_neg HK.out.2]; simp [HK.out, hok, hrn, hcl, hda]
          have hN : bareN n = N9 := by rw [HN9.out]; unfold bareN leftN; rw [if_neg HK.out.1, if_neg HK.out.2]
          have HRX := Lib.hid hR; clear hR
          have HNX := Lib.hid hN; clear hN
          go_wp2_with fail
          go_ret
          rw [HRX.out, HNX.out]
          exact ⟨rfl, by rw [HP0.out]; exact (LR7.out.below b2).b⟩
set_option maxHeartbeats 20000000 in
set_option maxRecDepth 100000 in
theorem formed_2 (hv : f.valid = true) (hs : RdI w sa n.strokes.length sc n.strokes) (k2 : n.kind = 2) :
    Calls Tryz.prog 65 #[f.val, .agg (noteA n sa sc)] w fun e w' => e = .returned (.bool (formedB f n)) ∧ Below w.heap.size w w' := by
  have HK := Lib.hid k2; clear k2
  have I43 := Lib.hid (show ∀ (m : NoteV) (a : Option Addr) (c : Nat), (Tryz.prog.info? 47).map (·.size) = some (noteA m a c).size from fun m a c => by kernel_rfl)
  have g1 := heap_at (w.alloc (.cells #[.int .i64 f.rings, .int .i64 f.sectors, .int .i64 f.wide] 131)) (.cells (noteA n sa sc) 47) (w.heap.size + 1) (by simp)
  have g0 := heap_before (w.alloc (.cells #[.int .i64 f.rings, .int .i64 f.sectors, .int .i64 f.wide] 131)) (.cells (noteA n sa sc) 47) _ _ (heap_at w (.cells #[.int .i64 f.rings, .int .i64 f.sectors, .int .i64 f.wide] 131) _ rfl)
  have bb : Below w.heap.size w ((w.alloc (.cells #[.int .i64 f.rings, .int .i64 f.sectors, .int .i64 f.wide] 131)).alloc (.cells (noteA n sa sc) 47)) := ((Below.refl _ _).alloc (Nat.le_refl _) _).alloc (by simp) _
  have G1 := Lib.hid g1; clear g1
  have G0 := Lib.hid g0; clear g0
  have BB := Lib.hid bb; clear bb
  go_enter Tryz.func65, Tryz.ntmps65
  unfold FrV.val
  go_wp2_with (refine wpList_load_row rfl 47 _ rfl (w.heap.size + 1) rfl 47 (noteA n sa sc) (0, 0) _ G1.out Tryz.underlying47 rfl (I43.out _ _ _) ?_)
  refine (said_any f n sa sc _ hv (hs.below BB.out) n.kind).mono ?_
  rintro e w1 ⟨ta, tc, rfl, hrd, b1⟩
  have SR := Lib.hid hrd; clear hrd
  have l1 := (Array.getElem?_eq_some_iff.1 G1.out).1
  have z1 := b1.size
  have L1 : Loc3 w (w1.alloc (.cells (noteA (saidN n.kind n) ta tc) 47)) w.heap.size (w.heap.size + 1) w1.heap.size f n sa sc (noteA (saidN n.kind n) ta tc) :=
    ⟨heap_before _ _ _ _ ((b1.block _ (by omega)).trans G0.out), heap_before _ _ _ _ ((b1.block _ (by omega)).trans G1.out), heap_last _ _, (BB.out.trans (b1.mono BB.out.size)).alloc (by omega) _, by omega⟩
  have LL1 := Lib.hid L1; clear L1 l1 z1 b1
  have one1 := noteA_one (saidN n.kind n) ta tc
  have k4 : (w1.alloc (.cells (noteA (saidN n.kind n) ta tc) 47)).cell? ⟨w.heap.size + 1, 4, none⟩ = some (.int .i64 2) := by
    have h := note_cells LL1.out.e1 4 _ rfl
    simp only [Nat.zero_add] at h
    rw [h]
    exact congrArg (fun z => some (Value.int .i64 z)) HK.out
  go_upto_region 4 with (refine wpList_store_newp w1 rfl 47 _ _ rfl w1.heap.size rfl _ (noteA (saidN n.kind n) ta tc) rfl rfl (I43.out _ _ _) rfl one1 ?_)
  generalize hW2 : w1.alloc (.cells (noteA (saidN n.kind n) ta tc) 47) = W2 at *
  generalize hp0 : w.heap.size = p0 at *
  generalize hp1 : p0 + 1 = p1 at *
  generalize hp2 : w1.heap.size = p2 at *
  have RDb := Lib.hid (show ∀ W', Below p0 w W' → RdI W' ta (saidN n.kind n).strokes.length tc (saidN n.kind n).strokes from fun W' h => said_rd SR.out (hs.below (by rw [hp0]; exact h)))
  have HP0 := Lib.hid hp0; clear hp0 hp1 hp2 hW2 G0 G1 BB SR k4
  generalize hm : saidN n.kind n = m at *
  have HM := Lib.hid hm; clear hm
  have j16 := note_cells LL1.out.e2 16 _ rfl
  simp only [Nat.zero_add] at j16
  have z16 := note_frozen LL1.out.e2 16
  have j17 := note_cells LL1.out.e2 17 _ rfl
  simp only [Nat.zero_add] at j17
  have z17 := note_frozen LL1.out.e2 17
  go_upto_region 5 with fail
  generalize hW : ((W2.setCell ⟨p2, 16, none⟩ (.int .i64 0)).setCell ⟨p2, 17, none⟩ (.int .i64 0)) = W3 at *
  have L3 := Lib.hid (show Loc3 w W3 p0 p1 p2 f n sa sc (noteA { m with refH := 0, refN := 0 } ta tc) from by rw [← hW]; exact ((LL1.out.set 16 (.int .i64 0)).set 17 (.int .i64 0)))
  clear hW j16 z16 j17 z17
  cases hok0 : saidB f n.kind n
  · go_upto_region 11 with fail
    have j0 := note_cells L3.out.e2 0 _ rfl
    simp only [Nat.zero_add] at j0
    have z0 := note_frozen L3.out.e2 0
    have j1 := note_cells L3.out.e2 1 _ rfl
    simp only [Nat.zero_add] at j1
    have z1 := note_frozen L3.out.e2 1
    have j2 := note_cells L3.out.e2 2 _ rfl
    simp only [Nat.zero_add] at j2
    have z2 := note_frozen L3.out.e2 2
    have j3 := note_cells L3.out.e2 3 _ rfl
    simp only [Nat.zero_add] at j3
    have z3 := note_frozen L3.out.e2 3
    have j4 := note_cells L3.out.e2 4 _ rfl
    simp only [Nat.zero_add] at j4
    have z4 := note_frozen L3.out.e2 4
    obtain ⟨N9, HN9⟩ : ∃ N9 : NoteV, Hid (N9 = { { m with refH := 0, refN := 0 } with house := 0, num := 0, clock := 0, day := 0, kind := 0 }) := ⟨_, Lib.hid rfl⟩
    go_upto_region 12 with fail
    generalize hW : (((((W3.setCell ⟨p2, 0, none⟩ (.int .i64 0)).setCell ⟨p2, 1, none⟩ (.int .i64 0)).setCell ⟨p2, 2, none⟩ (.int .i64 0)).setCell ⟨p2, 3, none⟩ (.int .i64 0)).setCell ⟨p2, 4, none⟩ (.int .i64 0)) = Wf8 at *
    have Lf9 := Lib.hid (show Loc3 w Wf8 p0 p1 p2 f n sa sc (noteA N9 ta tc) from by rw [HN9.out, ← hW]; exact (((((L3.out.set 0 (.int .i64 0)).set 1 (.int .i64 0)).set 2 (.int .i64 0)).set 3 (.int .i64 0)).set 4 (.int .i64 0)))
    have RDf10 := Lib.hid (show RdI Wf8 ta N9.strokes.length tc N9.strokes from by rw [HN9.out]; exact RDb.out _ Lf9.out.b)
    clear hW
    clear j0 z0 j1 z1 j2 z2 j3 z3 j4 z4
    have hR : formedB f n = false := by simp only [formedB, okB, if_pos HK.out]; simp [hok0]
    have HRX := Lib.hid hR; clear hR
    go_wp2_with fail
    go_ret
    rw [HRX.out]
    exact ⟨rfl, by rw [HP0.out]; exact Lf9.out.b⟩
  · have HO0 := Lib.hid hok0
    have k16 := note_cells L3.out.e1 16 _ rfl
    simp only [Nat.zero_add] at k16
    have k17 := note_cells L3.out.e1 17 _ rfl
    simp only [Nat.zero_add] at k17
    go_wp2_with fail
    refine (rightName_any n.refH n.refN _).mono ?_
    rintro e W4 ⟨rfl, b2⟩
    have L4 := Lib.hid (L3.out.below b2)
    clear b2 k16 k17
    go_upto_region 11 with fail
    have j0 := note_cells L4.out.e2 0 _ rfl
    simp only [Nat.zero_add] at j0
    have z0 := note_frozen L4.out.e2 0
    have j1 := note_cells L4.out.e2 1 _ rfl
    simp only [Nat.zero_add] at j1
    have z1 := note_frozen L4.out.e2 1
    have j2 := note_cells L4.out.e2 2 _ rfl
    simp only [Nat.zero_add] at j2
    have z2 := note_frozen L4.out.e2 2
    have j3 := note_cells L4.out.e2 3 _ rfl
    simp only [Nat.zero_add] at j3
    have z3 := note_frozen L4.out.e2 3
    have j4 := note_cells L4.out.e2 4 _ rfl
    simp only [Nat.zero_add] at j4
    have z4 := note_frozen L4.out.e2 4
    obtain ⟨N9, HN9⟩ : ∃ N9 : NoteV, Hid (N9 = { { m with refH := 0, refN := 0 } with house := 0, num := 0, clock := 0, day := 0, kind := 0 }) := ⟨_, Lib.hid rfl⟩
    go_upto_region 12 with fail
    generalize hW : (((((W4.setCell ⟨p2, 0, none⟩ (.int .i64 0)).setCell ⟨p2, 1, none⟩ (.int .i64 0)).setCell ⟨p2, 2, none⟩ (.int .i64 0)).setCell ⟨p2, 3, none⟩ (.int .i64 0)).setCell ⟨p2, 4, none⟩ (.int .i64 0)) = Wf11 at *
    have Lf12 := Lib.hid (show Loc3 w Wf11 p0 p1 p2 f n sa sc (noteA N9 ta tc) from by rw [HN9.out, ← hW]; exact (((((L4.out.set 0 (.int .i64 0)).set 1 (.int .i64 0)).set 2 (.int .i64 0)).set 3 (.int .i64 0)).set 4 (.int .i64 0)))
    have RDf13 := Lib.hid (show RdI Wf11 ta N9.strokes.length tc N9.strokes from by rw [HN9.out]; exact RDb.out _ Lf12.out.b)
    clear hW
    clear j0 z0 j1 z1 j2 z2 j3 z3 j4 z4
    cases hok : rightNameB n.refH n.refN
    · have hR : formedB f n = false := by simp only [formedB, okB, if_pos HK.out]; simp [hok0, hok]
      have HRX := Lib.hid hR; clear hR
      go_wp2_with fail
      go_ret
      rw [HRX.out]
      exact ⟨rfl, by rw [HP0.out]; exact Lf12.out.b⟩
    · go_wp2_with (first
        | (refine wpList_load_row rfl 47 _ rfl p1 rfl 47 (noteA n sa sc) (0, 0) _ Lf12.out.e1 Tryz.underlying47 rfl (I43.out _ _ _) ?_)
        | (refine wpList_load_rowG ?hw 47 _ rfl p1 rfl 47 (noteA n sa sc) (0, 0) _ Lf12.out.e1 Tryz.underlying47 rfl (I43.out _ _ _) ?_; case hw => rfl))
      refine (nameOf_any n sa sc _).mono ?_
      rintro e wn14 ⟨rfl, b2⟩
      have LN16 := Lib.hid (Lf12.out.below b2)
      have RD3 := Lib.hid (RDf13.out.below b2)
      clear b2
      go_wp2_with fail
      refine (rightName_any n.house n.num _).mono ?_
      rintro e wr15 ⟨rfl, b2⟩
      have LR17 := Lib.hid (LN16.out.below b2)
      have RD4 := Lib.hid (RD3.out.below b2)
      clear b2 RD3
      cases hrn : rightNameB n.house n.num
      · have hR : formedB f n = false := by simp only [formedB, okB, if_pos HK.out]; simp [hok0, hok, hrn]
        have HRX := Lib.hid hR; clear hR
        go_wp2_with fail
        go_ret
        rw [HRX.out]
        exact ⟨rfl, by rw [HP0.out]; exact LR17.out.b⟩
      · have HRN := Lib.hid hrn
        have k2 := note_cells LR17.out.e1 2 _ rfl
        simp only [Nat.zero_add] at k2
        have k3 := note_cells LR17.out.e1 3 _ rfl
        simp only [Nat.zero_add] at k3
        go_wp2_with fail
        refine (hin_any n.clock 1 1099511627776 _).mono ?_
        rintro e w' ⟨rfl, rfl⟩
        cases hcl : inB n.clock 1 1099511627776
        · have hR : formedB f n = false := by simp only [formedB, okB, if_pos HK.out]; simp [hok0, hok, hrn, hcl]
          have HRX := Lib.hid hR; clear hR
          go_wp2_with fail
          go_ret
          rw [HRX.out]
          exact ⟨rfl, by rw [HP0.out]; exact LR17.out.b⟩
        · have HCL := Lib.hid hcl
          go_wp2_with fail
          refine (hin_any n.day 0 99999 _).mono ?_
          rintro e w' ⟨rfl, rfl⟩
          cases hda : inB n.day 0 99999
          · have hR : formedB f n = false := by simp only [formedB, okB, if_pos HK.out]; simp [hok0, hok, hrn, hcl, hda]
            have HRX := Lib.hid hR; clear hR
            go_wp2_with fail
            go_ret
            rw [HRX.out]
            exact ⟨rfl, by rw [HP0.out]; exact LR17.out.b⟩
          · have HDA := Lib.hid hda
            go_wp2_with (first
              | (refine wpList_load_row rfl 47 _ rfl p2 rfl 47 (noteA N9 ta tc) (0, 0) _ LR17.out.e2 Tryz.underlying47 rfl (I43.out _ _ _) ?_)
              | (refine wpList_load_rowG ?hw 47 _ rfl p2 rfl 47 (noteA N9 ta tc) (0, 0) _ LR17.out.e2 Tryz.underlying47 rfl (I43.out _ _ _) ?_; case hw => rfl))
            refine (same_any N9 zeroN ta tc none 0 _ RD4.out (RdA.nil _ 1)).mono ?_
            rintro e ws ⟨rfl, b2⟩
            have hR : formedB f n = sameB (bareN n) zeroN := by simp only [formedB, okB, if_pos HK.out]; simp [hok0, hok, hrn, hcl, hda]
            have hN : bareN n = N9 := by rw [HN9.out]; unfold bareN leftN; rw [if_pos HK.out, HM.out]
            have HRX := Lib.hid hR; clear hR
            have HNX := Lib.hid hN; clear hN
            go_wp2_with fail
            go_ret
            rw [HRX.out, HNX.out]
            exact ⟨rfl, by rw [HP0.out]; exact (LR17.out.below b2).b⟩
set_option maxHeartbeats 20000000 in
set_option maxRecDepth 100000 in
theorem formed_5 (hv : f.valid = true) (hs : RdI w sa n.strokes.length sc n.strokes) (k2 : n.kind = 5) :
    Calls Tryz.prog 65 #[f.val, .agg (noteA n sa sc)] w fun e w' => e = .returned (.bool (formedB f n)) ∧ Below w.heap.size w w' := by
  have HK := Lib.hid k2; clear k2
  have I43 := Lib.hid (show ∀ (m : NoteV) (a : Option Addr) (c : Nat), (Tryz.prog.info? 47).map (·.size) = some (noteA m a c).size from fun m a c => by kernel_rfl)
  have g1 := heap_at (w.alloc (.cells #[.int .i64 f.rings, .int .i64 f.sectors, .int .i64 f.wide] 131)) (.cells (noteA n sa sc) 47) (w.heap.size + 1) (by simp)
  have g0 := heap_before (w.alloc (.cells #[.int .i64 f.rings, .int .i64 f.sectors, .int .i64 f.wide] 131)) (.cells (noteA n sa sc) 47) _ _ (heap_at w (.cells #[.int .i64 f.rings, .int .i64 f.sectors, .int .i64 f.wide] 131) _ rfl)
  have bb : Below w.heap.size w ((w.alloc (.cells #[.int .i64 f.rings, .int .i64 f.sectors, .int .i64 f.wide] 131)).alloc (.cells (noteA n sa sc) 47)) := ((Below.refl _ _).alloc (Nat.le_refl _) _).alloc (by simp) _
  have G1 := Lib.hid g1; clear g1
  have G0 := Lib.hid g0; clear g0
  have BB := Lib.hid bb; clear bb
  go_enter Tryz.func65, Tryz.ntmps65
  unfold FrV.val
  go_wp2_with (refine wpList_load_row rfl 47 _ rfl (w.heap.size + 1) rfl 47 (noteA n sa sc) (0, 0) _ G1.out Tryz.underlying47 rfl (I43.out _ _ _) ?_)
  refine (said_any f n sa sc _ hv (hs.below BB.out) n.kind).mono ?_
  rintro e w1 ⟨ta, tc, rfl, hrd, b1⟩
  have SR := Lib.hid hrd; clear hrd
  have l1 := (Array.getElem?_eq_some_iff.1 G1.out).1
  have z1 := b1.size
  have L1 : Loc3 w (w1.alloc (.cells (noteA (saidN n.kind n) ta tc) 47)) w.heap.size (w.heap.size + 1) w1.heap.size f n sa sc (noteA (saidN n.kind n) ta tc) :=
    ⟨heap_before _ _ _ _ ((b1.block _ (by omega)).trans G0.out), heap_before _ _ _ _ ((b1.block _ (by omega)).trans G1.out), heap_last _ _, (BB.out.trans (b1.mono BB.out.size)).alloc (by omega) _, by omega⟩
  have LL1 := Lib.hid L1; clear L1 l1 z1 b1
  have one1 := noteA_one (saidN n.kind n) ta tc
  have k4 : (w1.alloc (.cells (noteA (saidN n.kind n) ta tc) 47)).cell? ⟨w.heap.size + 1, 4, none⟩ = some (.int .i64 5) := by
    have h := note_cells LL1.out.e1 4 _ rfl
    simp only [Nat.zero_add] at h
    rw [h]
    exact congrArg (fun z => some (Value.int .i64 z)) HK.out
  go_upto_region 7 with (refine wpList_store_newp w1 rfl 47 _ _ rfl w1.heap.size rfl _ (noteA (saidN n.kind n) ta tc) rfl rfl (I43.out _ _ _) rfl one1 ?_)
  generalize hW2 : w1.alloc (.cells (noteA (saidN n.kind n) ta tc) 47) = W2 at *
  generalize hp0 : w.heap.size = p0 at *
  generalize hp1 : p0 + 1 = p1 at *
  generalize hp2 : w1.heap.size = p2 at *
  have RDb := Lib.hid (show ∀ W', Below p0 w W' → RdI W' ta (saidN n.kind n).strokes.length tc (saidN n.kind n).strokes from fun W' h => said_rd SR.out (hs.below (by rw [hp0]; exact h)))
  have HP0 := Lib.hid hp0; clear hp0 hp1 hp2 hW2 G0 G1 BB SR k4
  generalize hm : saidN n.kind n = m at *
  have HM := Lib.hid hm; clear hm
  have k18 := note_cells LL1.out.e1 18 _ rfl
  simp only [Nat.zero_add] at k18
  have c0 : W2.cell? ⟨p0, 0, none⟩ = some (.int .i64 f.rings) := by simp [World.cell?, LL1.out.e0]
  have c1 : W2.cell? ⟨p0, 1, none⟩ = some (.int .i64 f.sectors) := by simp [World.cell?, LL1.out.e0]
  have c2 : W2.cell? ⟨p0, 2, none⟩ = some (.int .i64 f.wide) := by simp [World.cell?, LL1.out.e0]
  go_wp2_with (refine wpList_load_row rfl 47 _ rfl p2 rfl 47 (noteA m ta tc) (0, 0) _ LL1.out.e2 Tryz.underlying47 rfl (I43.out _ _ _) ?_)
  refine (said_any f m ta tc _ hv (RDb.out _ LL1.out.b) n.fix).mono ?_
  rintro e w3 ⟨ua, uc, rfl, hrd, b3⟩
  have RDc := Lib.hid (show ∀ W', Below p0 w W' → RdI W' ua (saidN n.fix m).strokes.length uc (saidN n.fix m).strokes from fun W' h => said_rd hrd (RDb.out W' h))
  clear hrd k18 c0 c1 c2
  generalize hm2 : saidN n.fix m = m2 at *
  have HM2 := Lib.hid hm2; clear hm2
  have L3 := Lib.hid (LL1.out.below b3)
  clear b3
  have one2 := noteA_one m2 ua uc
  have g2 := heap_before w3 (.cells (noteA m2 ua uc) 47) _ _ L3.out.e2
  have G2 := Lib.hid g2; clear g2
  go_upto_region 9 with (first
    | (refine wpList_store_newp w3 rfl 47 _ _ rfl w3.heap.size rfl _ (noteA m2 ua uc) rfl rfl (I43.out _ _ _) rfl one2 ?_)
    | (refine wpList_load_row rfl 47 _ rfl w3.heap.size rfl 47 (noteA m2 ua uc) (0, 0) _ (heap_last _ _) Tryz.underlying47 rfl (I43.out _ _ _) ?_)
    | (refine wpList_store_rowN rfl 47 _ _ rfl p2 (noteA m ta tc) (noteA m2 ua uc) 47 rfl rfl G2.out (I43.out _ _ _) rfl one2 ?_))
  have L4 := Lib.hid ((L3.out.alloc (.cells (noteA m2 ua uc) 47)).setRow (noteA m2 ua uc))
  generalize (w3.alloc (.cells (noteA m2 ua uc) 47)).setRow p2 (noteA m2 ua uc) = W4 at *
  clear G2
  cases hok0 : saidB f n.kind n
  · go_upto_region 10 with fail
    have j18 := note_cells L4.out.e2 18 _ rfl
    simp only [Nat.zero_add] at j18
    have z18 := note_frozen L4.out.e2 18
    go_upto_region 11 with fail
    generalize hW : (W4.setCell ⟨p2, 18, none⟩ (.int .i64 0)) = W5 at *
    have L5 := Lib.hid (show Loc3 w W5 p0 p1 p2 f n sa sc (noteA { m2 with fix := 0 } ua uc) from by rw [← hW]; exact (L4.out.set 18 (.int .i64 0)))
    clear hW j18 z18
    have j0 := note_cells L5.out.e2 0 _ rfl
    simp only [Nat.zero_add] at j0
    have z0 := note_frozen L5.out.e2 0
    have j1 := note_cells L5.out.e2 1 _ rfl
    simp only [Nat.zero_add] at j1
    have z1 := note_frozen L5.out.e2 1
    have j2 := note_cells L5.out.e2 2 _ rfl
    simp only [Nat.zero_add] at j2
    have z2 := note_frozen L5.out.e2 2
    have j3 := note_cells L5.out.e2 3 _ rfl
    simp only [Nat.zero_add] at j3
    have z3 := note_frozen L5.out.e2 3
    have j4 := note_cells L5.out.e2 4 _ rfl
    simp only [Nat.zero_add] at j4
    have z4 := note_frozen L5.out.e2 4
    obtain ⟨N9, HN9⟩ : ∃ N9 : NoteV, Hid (N9 = { { m2 with fix := 0 } with house := 0, num := 0, clock := 0, day := 0, kind := 0 }) := ⟨_, Lib.hid rfl⟩
    go_upto_region 12 with fail
    generalize hW : (((((W5.setCell ⟨p2, 0, none⟩ (.int .i64 0)).setCell ⟨p2, 1, none⟩ (.int .i64 0)).setCell ⟨p2, 2, none⟩ (.int .i64 0)).setCell ⟨p2, 3, none⟩ (.int .i64 0)).setCell ⟨p2, 4, none⟩ (.int .i64 0)) = Wf18 at *
    have Lf19 := Lib.hid (show Loc3 w Wf18 p0 p1 p2 f n sa sc (noteA N9 ua uc) from by rw [HN9.out, ← hW]; exact (((((L5.out.set 0 (.int .i64 0)).set 1 (.int .i64 0)).set 2 (.int .i64 0)).set 3 (.int .i64 0)).set 4 (.int .i64 0)))
    have RDf20 := Lib.hid (show RdI Wf18 ua N9.strokes.length uc N9.strokes from by rw [HN9.out]; exact RDc.out _ Lf19.out.b)
    clear hW
    clear j0 z0 j1 z1 j2 z2 j3 z3 j4 z4
    have hR : formedB f n = false := by simp only [formedB, okB, if_neg (show ¬ n.kind = 2 by rw [HK.out]; decide), if_pos HK.out]; simp [hok0]
    have HRX := Lib.hid hR; clear hR
    go_wp2_with fail
    go_ret
    rw [HRX.out]
    exact ⟨rfl, by rw [HP0.out]; exact Lf19.out.b⟩
  · have HO0 := Lib.hid hok0
    cases hfi : saidB f n.fix m
    · go_upto_region 10 with fail
      have j18 := note_cells L4.out.e2 18 _ rfl
      simp only [Nat.zero_add] at j18
      have z18 := note_frozen L4.out.e2 18
      go_upto_region 11 with fail
      generalize hW : (W4.setCell ⟨p2, 18, none⟩ (.int .i64 0)) = W5 at *
      have L5 := Lib.hid (show Loc3 w W5 p0 p1 p2 f n sa sc (noteA { m2 with fix := 0 } ua uc) from by rw [← hW]; exact (L4.out.set 18 (.int .i64 0)))
      clear hW j18 z18
      have j0 := note_cells L5.out.e2 0 _ rfl
      simp only [Nat.zero_add] at j0
      have z0 := note_frozen L5.out.e2 0
      have j1 := note_cells L5.out.e2 1 _ rfl
      simp only [Nat.zero_add] at j1
      have z1 := note_frozen L5.out.e2 1
      have j2 := note_cells L5.out.e2 2 _ rfl
      simp only [Nat.zero_add] at j2
      have z2 := note_frozen L5.out.e2 2
      have j3 := note_cells L5.out.e2 3 _ rfl
      simp only [Nat.zero_add] at j3
      have z3 := note_frozen L5.out.e2 3
      have j4 := note_cells L5.out.e2 4 _ rfl
      simp only [Nat.zero_add] at j4
      have z4 := note_frozen L5.out.e2 4
      obtain ⟨N9, HN9⟩ : ∃ N9 : NoteV, Hid (N9 = { { m2 with fix := 0 } with house := 0, num := 0, clock := 0, day := 0, kind := 0 }) := ⟨_, Lib.hid rfl⟩
      go_upto_region 12 with fail
      generalize hW : (((((W5.setCell ⟨p2, 0, none⟩ (.int .i64 0)).setCell ⟨p2, 1, none⟩ (.int .i64 0)).setCell ⟨p2, 2, none⟩ (.int .i64 0)).setCell ⟨p2, 3, none⟩ (.int .i64 0)).setCell ⟨p2, 4, none⟩ (.int .i64 0)) = Wf21 at *
      have Lf22 := Lib.hid (show Loc3 w Wf21 p0 p1 p2 f n sa sc (noteA N9 ua uc) from by rw [HN9.out, ← hW]; exact (((((L5.out.set 0 (.int .i64 0)).set 1 (.int .i64 0)).set 2 (.int .i64 0)).set 3 (.int .i64 0)).set 4 (.int .i64 0)))
      have RDf23 := Lib.hid (show RdI Wf21 ua N9.strokes.length uc N9.strokes from by rw [HN9.out]; exact RDc.out _ Lf22.out.b)
      clear hW
      clear j0 z0 j1 z1 j2 z2 j3 z3 j4 z4
      have hR : formedB f n = false := by simp only [formedB, okB, if_neg (show ¬ n.kind = 2 by rw [HK.out]; decide), if_pos HK.out]; simp [hok0, HM.out, hfi]
      have HRX := Lib.hid hR; clear hR
      go_wp2_with fail
      go_ret
      rw [HRX.out]
      exact ⟨rfl, by rw [HP0.out]; exact Lf22.out.b⟩
    · have HFI := Lib.hid hfi
      have k18 := note_cells L4.out.e1 18 _ rfl
      simp only [Nat.zero_add] at k18
      go_wp2_with fail
      refine (hin_any n.fix 1 4 _).mono ?_
      rintro e W6 ⟨rfl, rfl⟩
      clear k18
      go_upto_region 10 with fail
      have j18 := note_cells L4.out.e2 18 _ rfl
      simp only [Nat.zero_add] at j18
      have z18 := note_frozen L4.out.e2 18
      go_upto_region 11 with fail
      generalize hW : (W4.setCell ⟨p2, 18, none⟩ (.int .i64 0)) = W5 at *
      have L5 := Lib.hid (show Loc3 w W5 p0 p1 p2 f n sa sc (noteA { m2 with fix := 0 } ua uc) from by rw [← hW]; exact (L4.out.set 18 (.int .i64 0)))
      clear hW j18 z18
      have j0 := note_cells L5.out.e2 0 _ rfl
      simp only [Nat.zero_add] at j0
      have z0 := note_frozen L5.out.e2 0
      have j1 := note_cells L5.out.e2 1 _ rfl
      simp only [Nat.zero_add] at j1
      have z1 := note_frozen L5.out.e2 1
      have j2 := note_cells L5.out.e2 2 _ rfl
      simp only [Nat.zero_add] at j2
      have z2 := note_frozen L5.out.e2 2
      have j3 := note_cells L5.out.e2 3 _ rfl
      simp only [Nat.zero_add] at j3
      have z3 := note_frozen L5.out.e2 3
      have j4 := note_cells L5.out.e2 4 _ rfl
      simp only [Nat.zero_add] at j4
      have z4 := note_frozen L5.out.e2 4
      obtain ⟨N9, HN9⟩ : ∃ N9 : NoteV, Hid (N9 = { { m2 with fix := 0 } with house := 0, num := 0, clock := 0, day := 0, kind := 0 }) := ⟨_, Lib.hid rfl⟩
      go_upto_region 12 with fail
      generalize hW : (((((W5.setCell ⟨p2, 0, none⟩ (.int .i64 0)).setCell ⟨p2, 1, none⟩ (.int .i64 0)).setCell ⟨p2, 2, none⟩ (.int .i64 0)).setCell ⟨p2, 3, none⟩ (.int .i64 0)).setCell ⟨p2, 4, none⟩ (.int .i64 0)) = Wf24 at *
      have Lf25 := Lib.hid (show Loc3 w Wf24 p0 p1 p2 f n sa sc (noteA N9 ua uc) from by rw [HN9.out, ← hW]; exact (((((L5.out.set 0 (.int .i64 0)).set 1 (.int .i64 0)).set 2 (.int .i64 0)).set 3 (.int .i64 0)).set 4 (.int .i64 0)))
      have RDf26 := Lib.hid (show RdI Wf24 ua N9.strokes.length uc N9.strokes from by rw [HN9.out]; exact RDc.out _ Lf25.out.b)
      clear hW
      clear j0 z0 j1 z1 j2 z2 j3 z3 j4 z4
      cases hok : inB n.fix 1 4
      · have hR : formedB f n = false := by simp only [formedB, okB, if_neg (show ¬ n.kind = 2 by rw [HK.out]; decide), if_pos HK.out]; simp [hok0, HM.out, hfi, hok]
        have HRX := Lib.hid hR; clear hR
        go_wp2_with fail
        go_ret
        rw [HRX.out]
        exact ⟨rfl, by rw [HP0.out]; exact Lf25.out.b⟩
      · go_wp2_with (first
          | (refine wpList_load_row rfl 47 _ rfl p1 rfl 47 (noteA n sa sc) (0, 0) _ Lf25.out.e1 Tryz.underlying47 rfl (I43.out _ _ _) ?_)
          | (refine wpList_load_rowG ?hw 47 _ rfl p1 rfl 47 (noteA n sa sc) (0, 0) _ Lf25.out.e1 Tryz.underlying47 rfl (I43.out _ _ _) ?_; case hw => rfl))
        refine (nameOf_any n sa sc _).mono ?_
        rintro e wn27 ⟨rfl, b2⟩
        have LN29 := Lib.hid (Lf25.out.below b2)
        have RD3 := Lib.hid (RDf26.out.below b2)
        clear b2
        go_wp2_with fail
        refine (rightName_any n.house n.num _).mono ?_
        rintro e wr28 ⟨rfl, b2⟩
        have LR30 := Lib.hid (LN29.out.below b2)
        have RD4 := Lib.hid (RD3.out.below b2)
        clear b2 RD3
        cases hrn : rightNameB n.house n.num
        · have hR : formedB f n = false := by simp only [formedB, okB, if_neg (show ¬ n.kind = 2 by rw [HK.out]; decide), if_pos HK.out]; simp [hok0, HM.out, hfi, hok, hrn]
          have HRX := Lib.hid hR; clear hR
          go_wp2_with fail
          go_ret
          rw [HRX.out]
          exact ⟨rfl, by rw [HP0.out]; exact LR30.out.b⟩
        · have HRN := Lib.hid hrn
          have k2 := note_cells LR30.out.e1 2 _ rfl
          simp only [Nat.zero_add] at k2
          have k3 := note_cells LR30.out.e1 3 _ rfl
          simp only [Nat.zero_add] at k3
          go_wp2_with fail
          refine (hin_any n.clock 1 1099511627776 _).mono ?_
          rintro e w' ⟨rfl, rfl⟩
          cases hcl : inB n.clock 1 1099511627776
          · have hR : formedB f n = false := by simp only [formedB, okB, if_neg (show ¬ n.kind = 2 by rw [HK.out]; decide), if_pos HK.out]; simp [hok0, HM.out, hfi, hok, hrn, hcl]
            have HRX := Lib.hid hR; clear hR
            go_wp2_with fail
            go_ret
            rw [HRX.out]
            exact ⟨rfl, by rw [HP0.out]; exact LR30.out.b⟩
          · have HCL := Lib.hid hcl
            go_wp2_with fail
            refine (hin_any n.day 0 99999 _).mono ?_
            rintro e w' ⟨rfl, rfl⟩
            cases hda : inB n.day 0 99999
            · have hR : formedB f n = false := by simp only [formedB, okB, if_neg (show ¬ n.kind = 2 by rw [HK.out]; decide), if_pos HK.out]; simp [hok0, HM.out, hfi, hok, hrn, hcl, hda]
              have HRX := Lib.hid hR; clear hR
              go_wp2_with fail
              go_ret
              rw [HRX.out]
              exact ⟨rfl, by rw [HP0.out]; exact LR30.out.b⟩
            · have HDA := Lib.hid hda
              go_wp2_with (first
                | (refine wpList_load_row rfl 47 _ rfl p2 rfl 47 (noteA N9 ua uc) (0, 0) _ LR30.out.e2 Tryz.underlying47 rfl (I43.out _ _ _) ?_)
                | (refine wpList_load_rowG ?hw 47 _ rfl p2 rfl 47 (noteA N9 ua uc) (0, 0) _ LR30.out.e2 Tryz.underlying47 rfl (I43.out _ _ _) ?_; case hw => rfl))
              refine (same_any N9 zeroN ua uc none 0 _ RD4.out (RdA.nil _ 1)).mono ?_
              rintro e ws ⟨rfl, b2⟩
              have hR : formedB f n = sameB (bareN n) zeroN := by simp only [formedB, okB, if_neg (show ¬ n.kind = 2 by rw [HK.out]; decide), if_pos HK.out]; simp [hok0, HM.out, hfi, hok, hrn, hcl, hda]
              have hN : bareN n = N9 := by rw [HN9.out]; unfold bareN leftN; rw [if_neg (show ¬ n.kind = 2 by rw [HK.out]; decide), if_pos HK.out, HM.out, HM2.out]
              have HRX := Lib.hid hR; clear hR
              have HNX := Lib.hid hN; clear hN
              go_wp2_with fail
              go_ret
              rw [HRX.out, HNX.out]
              exact ⟨rfl, by rw [HP0.out]; exact (LR30.out.below b2).b⟩
end
theorem formed_any (f : FrV) (n : NoteV) (sa : Option Addr) (sc : Nat) (w : World) (hv : f.valid = true) (hs : RdI w sa n.strokes.length sc n.strokes) :
    Calls Tryz.prog 65 #[f.val, .agg (noteA n sa sc)] w fun e w' => e = .returned (.bool (formedB f n)) ∧ Below w.heap.size w w' := by
  by_cases k2 : n.kind = 2
  · exact formed_2 f n sa sc w hv hs k2
  · by_cases k5 : n.kind = 5
    · exact formed_5 f n sa sc w hv hs k5
    · exact formed_o f n sa sc w hv hs k2 k5
end Go.Proofs.YtpdmlklnbjegpaaGreat
