/- Parts of the proof, in this order: among; StonesBeside is true; A cell, a look, a pattern out of a reading; Dead of stones; StonesGroup is true; Drains of stones. -/
import Derived.Test.YtmpkglokhchpiaaGreatDoorKPsn6
set_option linter.unusedSimpArgs false
set_option linter.unusedVariables false
open List renaming getElem_toArray → lq0, getElem_cons_succ → lq1, getElem_cons_zero → lq2, setIfInBounds_toArray → lq3, set_cons_zero → lq4, set_cons_succ → lq5
namespace Go.Proofs.YtmpkglokhchpiaaGreatDoor
set_option linter.unusedSimpArgs false
set_option linter.unusedVariables false
open Go.RowKit

theorem RdC.below {w w' : World} {a : Option Addr} {n c : Nat} {l : List CellV} (h : RdC w a n c l) (hb : Below w.heap.size w w') : RdC w' a n c l := RdA.below h hb
theorem RdC.len {w : World} {a : Option Addr} {n c : Nat} {l : List CellV} (h : RdC w a n c l) : l.length = n := by have := RdA.len h; rw [cellsV_len] at this; omega
theorem RdC.get {w : World} {a : Option Addr} {n c : Nat} {l : List CellV} (h : RdC w a n c l) {k : Nat} {x : CellV} (hx : l[k]? = some x) : ∃ b off, a = some ⟨b, off, none⟩ ∧ w.cell? ⟨b, off + k * 2, none⟩ = some (.int .i64 x.1) ∧ w.cell? ⟨b, off + k * 2 + 1, none⟩ = some (.int .i64 x.2) := by
  have hl := (List.getElem?_eq_some_iff.1 hx).1
  have hn := h.len
  obtain ⟨b, off, rfl, h4⟩ := RdA.at h (by omega)
  refine ⟨b, off, rfl, h4 _ _ (cellsV_at l k x hx).1, ?_⟩
  rw [Nat.add_assoc]
  exact h4 _ _ (cellsV_at l k x hx).2
theorem rdc_at {W : World} {b off n c k : Nat} {l : List CellV} {x : CellV} (h : RdC W (some ⟨b, off, none⟩) n c l) (hx : l[k]? = some x) : W.cell? ⟨b, off + k * 2, none⟩ = some (.int .i64 x.1) ∧ W.cell? ⟨b, off + k * 2 + 1, none⟩ = some (.int .i64 x.2) := by
  obtain ⟨b2, o2, e, h2⟩ := h.get hx
  simp only [Option.some.injEq, Addr.mk.injEq, and_true] at e
  rw [e.1, e.2]
  exact h2
theorem qsizeC : (Tryz.prog.info? 41).map (·.size) = some 2 := by kernel_rfl
set_option maxHeartbeats 4000000 in
set_option maxRecDepth 100000 in
theorem among_any (a : Option Addr) (n c : Nat) (l : List CellV) (x : CellV) (w : World) (hr : RdC w a n c l) :
    Calls Tryz.prog 30 #[.slice a n c, .agg (cellA x)] w fun e w' => e = .returned (.bool (decide (x ∈ l))) ∧ Below w.heap.size w w' := by
  have hl := Lib.hid hr.len
  have hm : n ≤ 9223372036854775807 := RdA.maxn hr
  have HR := Lib.hid (fun W (hb : Below w.heap.size w W) => hr.below hb)
  clear hr
  have AL := Lib.hid (al1 w (.cells (cellA x) 41))
  go_enter Tryz.func30, Tryz.ntmps30
  go_upto_region 1 with fail
  obtain ⟨q, hq⟩ : ∃ q, Hid (w.heap.size = q) := ⟨_, Lib.hid rfl⟩
  rw [hq.out] at AL ⊢
  generalize (w.alloc (.cells (cellA x) 41)) = W0 at *
  have BF : Hid (Below w.heap.size w W0) := Lib.hid (by rw [hq.out]; exact AL.out.1)
  have XC : Hid (W0.heap[q]? = some (.cells (cellA x) 41 (0, 0))) := Lib.hid AL.out.2
  clear AL
  have d0 := qcell XC.out 0 (.int .i64 x.1) rfl
  have d1 := qcell XC.out 1 (.int .i64 x.2) rfl
  clear d0 d1
  go_wp2_with fail
  go_loopw [5] (fun v wr => ∃ k : Nat, v = .int .i64 (k : Int) ∧ k ≤ n ∧ Hid (∀ (j : Nat) y, j < k → l[j]? = some y → y ≠ x) ∧ Hid (Below w.heap.size w wr) ∧ Hid (wr.heap[q]? = some (.cells (cellA x) 41 (0, 0)))) (fun v _ => n - (intOf v).toNat)
  case atStart => exact ⟨0, rfl, Nat.zero_le _, Lib.hid (fun j y h => by omega), BF, XC⟩
  case round =>
    clear BF XC
    obtain ⟨k, rfl, hk, HN, BF, XC⟩ := hrel
    by_cases hkn : k < n
    · have t0 : decide ((k : Int) < (n : Int)) = true := by simp; omega
      have HK64 : Hid ((k : Int) + 1 ≤ 9223372036854775807) := Lib.hid (by omega)
      obtain ⟨y, hy⟩ : ∃ y, l[k]? = some y := ⟨_, List.getElem?_eq_getElem (by rw [hl.out]; exact hkn)⟩
      obtain ⟨g, o, ha, _⟩ := (HR.out wr BF.out).get hy
      subst ha
      have RC := Lib.hid (HR.out wr BF.out)
      have HY := Lib.hid hy
      obtain ⟨m, hm2⟩ : ∃ m, Hid (o + k * 2 = m) := ⟨_, Lib.hid rfl⟩
      have GC := Lib.hid (show ∀ W, Below wr.heap.size wr W → W.cell? ⟨g, m, none⟩ = some (.int .i64 y.1) ∧ W.cell? ⟨g, m + 1, none⟩ = some (.int .i64 y.2) from fun W hb => by rw [← hm2.out]; exact rdc_at (RC.out.below hb) HY.out)
      clear hy
      go_upto_region 4 with fail
      clear t0
      refine zD (fun W => Below wr.heap.size wr W) (Below.refl _ _).drew (fun hHeld => ?_)
      have BV := Lib.hid hHeld
      generalize wr.drew = V0 at *
      have hi := fun W => qidx (W := W) (c := c) (b := g) Tryz.underlying45 qsizeC hkn hm2.out
      refine zW 0 rfl (.slice (some ⟨g, o, none⟩) n c) ?_
      refine zW 1 rfl (.int .i64 (k : Int)) ?_
      refine zW 2 rfl (.pointer (some ⟨g, m, none⟩)) ?_
      clear hi
      refine zS 3 rfl (.agg #[.int .i64 y.1, .int .i64 y.2]) (fun W hW => by have c0 := (GC.out W hW).1; have c1 := (GC.out W hW).2; go_simp) ?_
      refine zT 4 rfl (.agg (cellA x)) (qyrow (by kernel_rfl) 41 _ rfl q rfl _ 41 (0, 0) _ (fun W hW => qblk hW XC.out) Tryz.underlying41 rfl (by exact qJC x)) ?_
      refine zW 5 rfl (.bool (decide (y = x))) (hy := .inl ⟨by kernel_rfl, by intro W _; unfold cellA; go_simp; by_cases h1 : y.1 = x.1 <;> by_cases h2 : y.2 = x.2 <;> simp [h1, h2, Prod.ext_iff]⟩) ?_
      refine zE ?_
      replace XC := Lib.hid (qblk BV.out XC.out)
      replace BF := Lib.hid (BF.out.trans (BV.out.mono BF.out.size))
      cases he : decide (y = x)
      · have HE := Lib.hid (of_decide_eq_false he)
        go_upto_region 3 with fail
        have hk64 := HK64.out
        go_wp2_with fail
        go_roundw
        case rel => exact ⟨k + 1, by simp, by omega, Lib.hid (fun j z hj hz => by
          rcases Nat.lt_succ_iff_lt_or_eq.1 hj with h | h
          · exact HN.out j z h hz
          · subst h; rw [HY.out] at hz; cases hz; exact HE.out), BF, XC⟩
        case measure => simp [intOf]; omega
      · have HE := Lib.hid (show decide (x ∈ l) = true from decide_eq_true (by have := of_decide_eq_true he; subst this; exact List.mem_of_getElem? HY.out))
        go_wp2_with fail
        go_ret
        exact ⟨by rw [HE.out]; rfl, BF.out⟩
    · have t0 : decide ((k : Int) < (n : Int)) = false := by simp; omega
      have HE := Lib.hid (show decide (x ∈ l) = false from decide_eq_false (fun h => by
        obtain ⟨j, hj, e⟩ := List.getElem_of_mem h
        exact HN.out j x (by have := hl.out; omega) (by rw [List.getElem?_eq_getElem hj, e]) rfl))
      go_wp2_with fail
      go_ret
      exact ⟨by rw [HE.out]; rfl, BF.out⟩
set_option maxHeartbeats 4000000 in
set_option maxRecDepth 100000 in
theorem beside_any (f : FaceV) (a : Option Addr) (n : Nat) (c : CellV) (w : World) (he : EnvW w) (hr : RdI w a f.kinds.length n f.kinds) :
    Calls Tryz.prog 6 #[.agg (f.cells a n), .agg (cellA c)] w fun e w' => e = .returned (.bool true) ∧ Below w.heap.size w w' := by
  have EV := Lib.hid (fun W (hb : Below w.heap.size w W) => he.below hb)
  have HR := Lib.hid hr
  clear he hr
  have AL := Lib.hid (al2 w (.cells (f.cells a n) 28) (.cells (cellA c) 41))
  go_enter Tryz.func6, Tryz.ntmps6
  go_upto_region 1 with fail
  obtain ⟨p, hp⟩ : ∃ p, Hid (w.heap.size = p) := ⟨_, Lib.hid rfl⟩
  obtain ⟨q, hq⟩ : ∃ q, Hid (w.heap.size + 1 = q) := ⟨_, Lib.hid rfl⟩
  rw [hq.out] at AL ⊢
  rw [hp.out] at AL ⊢
  generalize ((w.alloc (.cells (f.cells a n) 28)).alloc (.cells (cellA c) 41)) = W0 at *
  have BF : Hid (Below w.heap.size w W0) := Lib.hid (by rw [hp.out]; exact AL.out.1)
  have XF : Hid (W0.heap[p]? = some (.cells (f.cells a n) 28 (0, 0))) := Lib.hid AL.out.2.1
  have XC : Hid (W0.heap[q]? = some (.cells (cellA c) 41 (0, 0))) := Lib.hid AL.out.2.2
  clear AL
  have c0 := qcell XF.out 0 (.int .i64 f.eye) rfl
  have c1 := qcell XF.out 1 (.int .i64 f.rings) rfl
  have c2 := qcell XF.out 2 (.int .i64 f.sectors) rfl
  have c3 := qcell XF.out 3 (.slice a f.kinds.length n) rfl
  have d0 := qcell XC.out 0 (.int .i64 c.1) rfl
  have d1 := qcell XC.out 1 (.int .i64 c.2) rfl
  clear c0 c1 c2 c3 d0 d1
  replace HR := Lib.hid (HR.out.below BF.out)
  go_upto_region 1 with fail
  refine yB ?_
  refine yR (fun K hK => ?_)
  go_simp
  refine (awake_any _ (EV.out _ BF.out)).mono ?_
  rintro e U1 ⟨rfl, b⟩
  replace BF := Lib.hid (BF.out.trans (b.mono BF.out.size))
  replace HR := Lib.hid (HR.out.below b)
  replace XF := Lib.hid (qblk b XF.out)
  replace XC := Lib.hid (qblk b XC.out)
  clear b
  try dsimp only
  refine yK hK ?_
  clear hK K
  refine yM (.bool true) ?_
  refine yE ?_
  go_upto_region 2 with fail
  refine yB ?_
  refine yW (.agg (f.cells a n)) ?_ (qyrow (by kernel_rfl) 28 _ rfl p rfl _ 28 (0, 0) _ (fun W hW => by rw [hW]; exact XF.out) Tryz.underlying28 rfl (by exact (qJF f a n)))
  refine yR (fun K hK => ?_)
  go_simp
  refine (short_any f a n _).mono ?_
  rintro e wr ⟨rfl, b⟩
  replace BF := Lib.hid (BF.out.trans (b.mono BF.out.size))
  replace HR := Lib.hid (HR.out.below b)
  replace XF := Lib.hid (qblk b XF.out)
  replace XC := Lib.hid (qblk b XC.out)
  clear b
  cases h1 : decide (f.kinds.length ≤ 3000)
  · try dsimp only
    refine yK hK ?_
    clear hK K
    refine yM (.bool true) ?_
    refine yE ?_
    go_wp2_with fail
    go_ret
    exact ⟨rfl, BF.out⟩
  · try dsimp only
    refine yK hK ?_
    clear hK K
    refine yM (.bool false) ?_
    refine yE ?_
    go_upto_region 4 with fail
    refine yB ?_
    refine yW (.agg (f.cells a n)) ?_ (qyrow (by kernel_rfl) 28 _ rfl p rfl _ 28 (0, 0) _ (fun W hW => by rw [hW]; exact XF.out) Tryz.underlying28 rfl (by exact (qJF f a n)))
    refine yW (.agg (cellA c)) ?_ (qyrow (by kernel_rfl) 41 _ rfl q rfl _ 41 (0, 0) _ (fun W hW => by rw [hW]; exact XC.out) Tryz.underlying41 rfl (by exact (qJC c)))
    refine yR (fun K hK => ?_)
    go_simp
    refine (neighP_any f a n c _ HR.out).mono ?_
    rintro e U3 ⟨⟨b1, m1, rfl, own⟩, b⟩
    have RN : Hid (RdC U3 b1 (neighP f c).1.length m1 (neighP f c).1) := Lib.hid (RdA.of_own own)
    clear own
    replace BF := Lib.hid (BF.out.trans (b.mono BF.out.size))
    replace HR := Lib.hid (HR.out.below b)
    replace XF := Lib.hid (qblk b XF.out)
    replace XC := Lib.hid (qblk b XC.out)
    clear b
    obtain ⟨N, hN⟩ : ∃ N, Hid ((neighP f c).1.length = N) := ⟨_, Lib.hid rfl⟩
    obtain ⟨E, hE⟩ : ∃ N, Hid ((neighP f c).2 = N) := ⟨_, Lib.hid rfl⟩
    rw [hN.out] at RN ⊢
    rw [hE.out]
    try dsimp only
    refine yK hK ?_
    clear hK K
    refine yM (.tuple #[.slice b1 N m1, .int .i64 E]) ?_
    refine yM (.slice b1 N m1) ?_
    refine yM (.int .i64 E) ?_
    refine yM (.slice b1 N m1) ?_
    refine yM (.int .i64 E) ?_
    refine yE ?_
    cases hz : decide (E ≠ 0)
    · have EZ : Hid (E = 0) := Lib.hid (by simpa using hz)
      rw [EZ.out]
      go_upto_region 5 with fail
      refine yB ?_
      refine yM (.int .i64 0) ?_
      refine yW (.bool false) ?_
      refine yE ?_
      have AK : Hid (askedF f c = 0) := Lib.hid (by
        have h1 := hE.out
        have h2 := EZ.out
        unfold neighP at h1
        by_cases ha : askedF f c = 0
        · exact ha
        · rw [if_neg ha] at h1; exact absurd (h1.trans h2) ha)
      have ZK := Lib.hid (asked_zero.1 AK.out)
      have NL : Hid (1 ≤ N ∧ N ≤ 4) := Lib.hid (by
        have h1 := hN.out
        unfold neighP at h1
        rw [if_pos AK.out] at h1
        have h2 := neigh_len ZK.out.1 (indexF f c.1 c.2)
        rw [← h1, List.length_map]
        exact h2)
      go_wp2_with fail
      go_loopw [8] (fun v wr => ∃ k : Nat, v = .int .i64 (k : Int) ∧ k ≤ N ∧ Hid (Below w.heap.size w wr) ∧ Hid (RdI wr a f.kinds.length n f.kinds) ∧ Hid (RdC wr b1 N m1 (neighP f c).1) ∧ Hid (wr.heap[p]? = some (.cells (f.cells a n) 28 (0, 0))) ∧ Hid (wr.heap[q]? = some (.cells (cellA c) 41 (0, 0)))) (fun v _ => N - (intOf v).toNat)
      case atStart => exact ⟨0, rfl, Nat.zero_le _, BF, HR, RN, XF, XC⟩
      case round =>
        clear BF HR RN XF XC
        obtain ⟨k, rfl, hk, BF, HR, RN, XF, XC⟩ := hrel
        by_cases hkn : k < N
        · have t0 : decide ((k : Int) < (N : Int)) = true := by simp; omega
          have HK64 : Hid ((k : Int) + 1 ≤ 9223372036854775807) := Lib.hid (by have := NL.out; omega)
          obtain ⟨y, hy⟩ : ∃ y, (neighP f c).1[k]? = some y := ⟨_, List.getElem?_eq_getElem (by rw [hN.out]; exact hkn)⟩
          obtain ⟨g, o, ha, _⟩ := RN.out.get hy
          subst ha
          have HY := Lib.hid hy
          have BP := Lib.hid (beside_plain AK.out (List.mem_of_getElem? hy))
          clear hy
          obtain ⟨m, hm2⟩ : ∃ m, Hid (o + k * 2 = m) := ⟨_, Lib.hid rfl⟩
          have hkl : k < N := hkn
          have hi := fun W => qidx (W := W) (c := m1) (b := g) Tryz.underlying45 qsizeC hkn hm2.out
          go_upto_region 10 with fail
          clear t0
          have hd : Below wr.heap.size wr wr.drew := (Below.refl _ _).drew
          replace BF := Lib.hid (BF.out.trans (hd.mono BF.out.size))
          replace HR := Lib.hid (HR.out.below hd)
          replace RN := Lib.hid (RN.out.below hd)
          replace XF := Lib.hid (qblk hd XF.out)
          replace XC := Lib.hid (qblk hd XC.out)
          clear hd
          refine zD (fun W => Below wr.drew.heap.size wr.drew W) (Below.refl _ _) (fun hHeld => ?_)
          have BV := Lib.hid hHeld
          generalize wr.drew = V1 at *
          refine zT 0 rfl (.agg (f.cells a n)) (qyrow (by kernel_rfl) 28 _ rfl p rfl _ 28 (0, 0) _ (fun W hW => qblk hW XF.out) Tryz.underlying28 rfl (by exact (qJF f a n))) ?_
          refine zW 1 rfl (.slice (some ⟨g, o, none⟩) N m1) ?_
          refine zW 2 rfl (.int .i64 (k : Int)) ?_
          refine zW 3 rfl (.pointer (some ⟨g, m, none⟩)) ?_
          refine zS 4 rfl (.agg (cellA y)) (fun W hW => by have c0 := (rdc_at (RN.out.below hW) HY.out).1; have c1 := (rdc_at (RN.out.below hW) HY.out).2; rw [hm2.out] at c0 c1; go_simp; (try rfl)) ?_
          refine zR 5 rfl (fun K hK => ?_)
          go_simp
          refine (neighP_any f a n y _ (HR.out.below BV.out)).mono ?_
          rintro e Z9 ⟨⟨b2, m2, rfl, own⟩, b⟩
          rw [BP.out.1]
          have RB := Lib.hid (RdA.of_own own)
          clear own
          have BV2 := Lib.hid (BV.out.trans (b.mono BV.out.size))
          clear b BV
          have BV := BV2
          clear BV2
          try dsimp only
          refine zK hK BV.out (fun hHeld => ?_)
          clear hK K
          refine zW 6 rfl (.tuple #[.slice b2 (neighP f y).1.length m2, .int .i64 0]) ?_
          refine zW 7 rfl (.slice b2 (neighP f y).1.length m2) ?_
          refine zW 8 rfl (.int .i64 0) ?_
          refine zW 9 rfl (.slice b2 (neighP f y).1.length m2) ?_
          refine zW 10 rfl (.int .i64 0) ?_
          refine zE ?_
          have bz := BV.out
          replace BF := Lib.hid (BF.out.trans (bz.mono BF.out.size))
          replace HR := Lib.hid (HR.out.below bz)
          replace RN := Lib.hid (RN.out.below bz)
          replace XF := Lib.hid (qblk bz XF.out)
          replace XC := Lib.hid (qblk bz XC.out)
          clear bz
          clear BV
          go_upto_region 11 with fail
          have hd : Below Z9.heap.size Z9 Z9.drew := (Below.refl _ _).drew
          replace BF := Lib.hid (BF.out.trans (hd.mono BF.out.size))
          replace HR := Lib.hid (HR.out.below hd)
          replace RN := Lib.hid (RN.out.below hd)
          replace RB := Lib.hid (RB.out.below hd)
          replace XF := Lib.hid (qblk hd XF.out)
          replace XC := Lib.hid (qblk hd XC.out)
          clear hd
          refine zD (fun W => Below Z9.drew.heap.size Z9.drew W) (Below.refl _ _) (fun hHeld => ?_)
          have BV := Lib.hid hHeld
          generalize Z9.drew = V2 at *
          refine zW 0 rfl (.int .i64 0) ?_
          refine zW 1 rfl (.bool false) ?_
          refine zW 2 rfl (.bool false) ?_
          refine zW 3 rfl (.slice b2 (neighP f y).1.length m2) ?_
          refine zT 4 rfl (.agg (cellA c)) (qyrow (by kernel_rfl) 41 _ rfl q rfl _ 41 (0, 0) _ (fun W hW => qblk hW XC.out) Tryz.underlying41 rfl (by exact (qJC c))) ?_
          refine zR 5 rfl (fun K hK => ?_)
          go_simp
          refine (among_any b2 (neighP f y).1.length m2 (neighP f y).1 c _ (RB.out.below BV.out)).mono ?_
          rintro e Z8 ⟨rfl, b⟩
          rw [show decide (c ∈ (neighP f y).1) = true from decide_eq_true BP.out.2.1]
          have BV2 := Lib.hid (BV.out.trans (b.mono BV.out.size))
          clear b BV
          have BV := BV2
          clear BV2
          try dsimp only
          refine zK hK BV.out (fun hHeld => ?_)
          clear hK K
          refine zW 6 rfl (.bool false) ?_
          refine zW 7 rfl (.bool false) ?_
          refine zW 8 rfl (.bool false) ?_
          refine zW 9 rfl (.slice (some ⟨g, o, none⟩) N m1) ?_
          refine zW 10 rfl (.int .i64 (k : Int)) ?_
          refine zW 11 rfl (.pointer (some ⟨g, m, none⟩)) ?_
          refine zS 12 rfl (.agg (cellA y)) (fun W hW => by have c0 := (rdc_at (RN.out.below hW) HY.out).1; have c1 := (rdc_at (RN.out.below hW) HY.out).2; rw [hm2.out] at c0 c1; go_simp; (try rfl)) ?_
          refine zT 13 rfl (.agg (cellA c)) (qyrow (by kernel_rfl) 41 _ rfl q rfl _ 41 (0, 0) _ (fun W hW => qblk hW XC.out) Tryz.underlying41 rfl (by exact (qJC c))) ?_
          refine zW 14 rfl (.bool false) (hy := .inl ⟨by kernel_rfl, by intro W _; unfold cellA; go_simp; have h3 := BP.out.2.2; by_cases h1 : y.1 = c.1 <;> by_cases h2 : y.2 = c.2 <;> simp [h1, h2] <;> exact h3 (Prod.ext h1 h2)⟩) ?_
          refine zW 15 rfl (.bool false) ?_
          refine zE ?_
          have bz := BV.out
          replace BF := Lib.hid (BF.out.trans (bz.mono BF.out.size))
          replace HR := Lib.hid (HR.out.below bz)
          replace RN := Lib.hid (RN.out.below bz)
          replace RB := Lib.hid (RB.out.below bz)
          replace XF := Lib.hid (qblk bz XF.out)
          replace XC := Lib.hid (qblk bz XC.out)
          clear bz
          clear BV
          go_upto_region 9 with fail
          clear hi
          have hk64 := HK64.out
          go_wp2_with fail
          go_roundw
          case rel => exact ⟨k + 1, by simp, by omega, BF, HR, RN, XF, XC⟩
          case measure => simp [intOf]; omega
        · have t0 : decide ((k : Int) < (N : Int)) = false := by simp; omega
          have t1 : decide ((1 : Int) ≤ (N : Int)) = true := by have := NL.out; simp; omega
          have t2 : decide ((N : Int) ≤ 4) = true := by have := NL.out; simp; omega
          go_wp2_with fail
          go_ret
          exact ⟨rfl, BF.out⟩
    · have EN : Hid (E ≠ 0) := Lib.hid (by simpa using hz)
      have N0 : Hid (N = 0) := Lib.hid (by
        have h1 := hN.out
        have h2 := hE.out
        have h3 := EN.out
        unfold neighP at h1 h2
        by_cases ha : askedF f c = 0
        · rw [if_pos ha] at h2; exact absurd h2.symm h3
        · rw [if_neg ha] at h1; exact h1.symm)
      rw [N0.out]
      have hz2 : (E != 0) = true := by simpa using EN.out
      go_upto_region 5 with fail
      refine yB ?_
      refine yM (.int .i64 E) ?_
      refine yW (.bool true) ?_
      refine yE ?_
      go_upto_region 6 with fail
      refine yB ?_
      refine yM (.bool true) ?_
      refine yM (.bool true) ?_
      refine yM (.slice b1 0 m1) ?_
      refine yW (.int .i64 (0 : Int)) ?_
      refine yW (.bool true) ?_
      refine yM (.bool true) ?_
      refine yM (.bool true) ?_
      refine yE ?_
      go_wp2_with fail
      go_ret
      exact ⟨rfl, BF.out⟩
end Go.Proofs.YtmpkglokhchpiaaGreatDoor
namespace Go.Proofs.YtmpkglokhchpiaaGreatDoor
set_option linter.constructorNameAsVariable false
open Go.ChangeShapes Go.WideShapes Go.ChangeAt Go.RowKit

theorem Tryz.cells41 : Tryz.prog.cellsOf 41 = 2 := by kernel_rfl
section
variable {H : Type} {enc : TypeId × Value → H} {W : World}
set_option maxRecDepth 100000 in
theorem open_cell1 {fuel : Nat} {cs : List Value} {y : DataW H × List MemPlace} (h : DataW.trod enc Tryz.prog W 0 (fun _ => true) true fuel 41 cs = some y) (hl : cs.length = 2) : ∃ c : CellV, cs = [.int .i64 c.1, .int .i64 c.2] := by
  obtain ⟨y0, y1, n, _, _, g0, g1⟩ := trod_struct2 Tryz.underlying41 h
  match cs, hl with
  | [c0, c1], _ =>
    have g0' : DataW.trod enc Tryz.prog W 0 (fun _ => true) true n 3 (([c0, c1].drop 0).take (Tryz.prog.cellsOf 3)) = some y0 := g0
    have g1' : DataW.trod enc Tryz.prog W 0 (fun _ => true) true n 3 (([c0, c1].drop 1).take (Tryz.prog.cellsOf 3)) = some y1 := g1
    rw [Tryz.cells3] at g0' g1'
    obtain ⟨x0, a0, _, _⟩ := DataW.trod_int Tryz.underlying3 g0'
    obtain ⟨x1, a1, _, _⟩ := DataW.trod_int Tryz.underlying3 g1'
    simp at a0 a1
    exact ⟨(x0, x1), by rw [a0, a1]⟩
set_option maxRecDepth 100000 in
theorem open_cell {base : Nat} {v : Value} {d : DataW H} {p : List MemPlace} (hval : Value.okWide Tryz.prog W .any base 41 v)
    (h : DataW.Trod enc Tryz.prog W 0 (fun _ => true) true 41 v d p) : ∃ c : CellV, v = .agg (cellA c) ∧ True := by
  obtain ⟨cs, rfl, hsz⟩ := okWide_struct Tryz.underlying41 hval
  obtain ⟨fuel, hf⟩ := h
  rw [Tryz.cells41] at hsz
  obtain ⟨l⟩ := cs
  obtain ⟨c, hc⟩ := open_cell1 hf hsz
  have hc2 : l = [.int .i64 c.1, .int .i64 c.2] := hc
  subst hc2
  exact ⟨c, rfl, trivial⟩
end
end Go.Proofs.YtmpkglokhchpiaaGreatDoor
namespace Go.Proofs.YtmpkglokhchpiaaGreatDoor
set_option linter.unusedSimpArgs false
set_option linter.unusedVariables false
open Go.RowKit

def deadK (f : FaceV) (k : Nat) : List Int := (List.range k).filterMap fun (n : Nat) => if deadB f ((regListF f)[n]?.getD []) = true then some (n : Int) else none
theorem deadK_succ (f : FaceV) (k : Nat) : deadK f (k + 1) = deadK f k ++ (if deadB f ((regListF f)[k]?.getD []) = true then [(k : Int)] else []) := by
  unfold deadK
  rw [List.range_succ, List.filterMap_append]
  congr 1
  by_cases h : deadB f ((regListF f)[k]?.getD []) = true
  · rw [if_pos h, List.filterMap_cons, if_pos h]; rfl
  · rw [if_neg h, List.filterMap_cons, if_neg h]; rfl
theorem deadK_len (f : FaceV) (k : Nat) : (deadK f k).length ≤ k := by
  unfold deadK
  refine Nat.le_trans (List.length_filterMap_le _ _) ?_
  rw [List.length_range]
  exact Nat.le_refl _
theorem rg_mem {f : FaceV} (hv : f.valid = true) {k : Nat} {cs : List Int} (h : (regListF f)[k]? = some cs) : cs ≠ [] ∧ ∀ x ∈ cs, 0 ≤ x ∧ x < f.kinds.length := by
  have hk := (List.getElem?_eq_some_iff.1 h).1
  rw [regList_len] at hk
  have e := regList_at hk
  rw [h] at e
  have e2 := (Option.some.inj e).symm
  obtain ⟨x, hx, _⟩ := reg_head hv hk
  refine ⟨fun h0 => (by rw [e2, h0] at hx; cases hx), fun y hy => ?_⟩
  rw [← e2] at hy
  have h3 := regAt_mem.1 hy
  exact ⟨h3.2.1, by omega⟩
theorem rdi_at {W : World} {b off n c k : Nat} {l : List Int} {x : Int} (h : RdI W (some ⟨b, off, none⟩) n c l) (hx : l[k]? = some x) : W.cell? ⟨b, off + k, none⟩ = some (.int .i64 x) := by
  obtain ⟨b2, o2, e, h2⟩ := h.get hx
  simp only [Option.some.injEq, Addr.mk.injEq, and_true] at e
  rw [e.1, e.2]
  exact h2
set_option maxHeartbeats 4000000 in
set_option maxRecDepth 100000 in
theorem deadP_any (f : FaceV) (a : Option Addr) (n : Nat) (w : World) (hr : RdI w a f.kinds.length n f.kinds) :
    Calls Tryz.prog 33 #[.agg (f.cells a n)] w fun e w' => (∃ oa oc, e = .returned (.tuple #[.slice oa (deadP f).1.length oc, .int .i64 (deadP f).2]) ∧ w'.ownsRow w.heap.size 3 1 (.slice oa (deadP f).1.length oc) (deadP f).1.length ((deadP f).1.map intV)) ∧ Below w.heap.size w w' := by
  have HR := Lib.hid hr
  clear hr
  have AL := Lib.hid (al1 w (.cells (f.cells a n) 28))
  go_enter Tryz.func33, Tryz.ntmps33
  go_upto_region 1 with fail
  obtain ⟨p, hp⟩ : ∃ p, Hid (w.heap.size = p) := ⟨_, Lib.hid rfl⟩
  rw [hp.out] at AL ⊢
  generalize (w.alloc (.cells (f.cells a n) 28)) = W0 at *
  have BF : Hid (Below w.heap.size w W0) := Lib.hid (by rw [hp.out]; exact AL.out.1)
  have XF : Hid (W0.heap[p]? = some (.cells (f.cells a n) 28 (0, 0))) := Lib.hid AL.out.2
  clear AL
  have c0 := qcell XF.out 0 (.int .i64 f.eye) rfl
  have c1 := qcell XF.out 1 (.int .i64 f.rings) rfl
  have c2 := qcell XF.out 2 (.int .i64 f.sectors) rfl
  have c3 := qcell XF.out 3 (.slice a f.kinds.length n) rfl
  clear c0 c1 c2 c3
  replace HR := Lib.hid (HR.out.below BF.out)
  go_upto_region 1 with fail
  refine yB ?_
  refine yW (.agg (f.cells a n)) ?_ (qyrow (by kernel_rfl) 28 _ rfl p rfl _ 28 (0, 0) _ (fun W hW => by rw [hW]; exact XF.out) Tryz.underlying28 rfl (by exact (qJF f a n)))
  refine yR (fun K hK => ?_)
  go_simp
  refine (regionsP_any f a n _ HR.out).mono ?_
  rintro e U1 ⟨⟨b1, m1, rfl, ll⟩, b⟩
  have RL := Lib.hid ll
  clear ll
  replace BF := Lib.hid (BF.out.trans (b.mono BF.out.size))
  replace HR := Lib.hid (HR.out.below b)
  replace XF := Lib.hid (qblk b XF.out)
  clear b
  obtain ⟨ls, hls⟩ : ∃ x, Hid ((regionsP f).1 = x) := ⟨_, Lib.hid rfl⟩
  obtain ⟨E, hE⟩ : ∃ x, Hid ((regionsP f).2 = x) := ⟨_, Lib.hid rfl⟩
  rw [hls.out] at RL ⊢
  rw [hE.out]
  obtain ⟨N, hN⟩ : ∃ x, Hid (ls.length = x) := ⟨_, Lib.hid rfl⟩
  rw [hN.out] at RL ⊢
  try dsimp only
  refine yK hK ?_
  clear hK K
  refine yM (.tuple #[.slice b1 N m1, .int .i64 E]) ?_
  refine yM (.slice b1 N m1) ?_
  refine yM (.int .i64 E) ?_
  refine yM (.slice b1 N m1) ?_
  refine yM (.int .i64 E) ?_
  refine yE ?_
  have VF : Hid (0 < N → f.valid = true) := Lib.hid (fun h => by
    cases hv : f.valid with
    | true => rfl
    | false =>
      have h1 := hls.out
      unfold regionsP at h1
      rw [if_neg (by rw [hv]; decide)] at h1
      have h2 := hN.out
      rw [← h1] at h2
      simp at h2
      omega)
  have LS : Hid (0 < N → ls = regListF f) := Lib.hid (fun h => by have h1 := hls.out; unfold regionsP at h1; rw [if_pos (VF.out h)] at h1; exact h1.symm)
  have NB : Hid (N ≤ 2304) := Lib.hid (by
    rcases Nat.eq_zero_or_pos N with h | h
    · omega
    · have h1 := LS.out h
      have h2 := hN.out
      rw [h1, regList_len] at h2
      have h3 := (regionsN_le f f.kinds.length).2
      have h4 := FaceV.len_le (VF.out h)
      have h5 : (regionsF f).2 = (regionsN f f.kinds.length).2 := rfl
      omega)
  have BF1 := BF
  have HRU := Lib.hid (fun W (hb : Below U1.heap.size U1 W) => HR.out.below hb)
  have RLU := Lib.hid (fun W (hb : Below U1.heap.size U1 W) => RL.out.below hb)
  have XFU := Lib.hid (fun W (hb : Below U1.heap.size U1 W) => qblk hb XF.out)
  have BU := Lib.hid (Below.refl U1.heap.size U1)
  clear BF HR RL XF
  go_wp2_with fail
  go_loopw [6, 16] (fun o v wr => ∃ (k : Nat) (oa : Option Addr) (oc : Nat), v = .int .i64 (k : Int) ∧ o = .slice oa (deadK f k).length oc ∧ k ≤ N ∧ Hid (wr.ownsRow U1.heap.size 3 1 (.slice oa (deadK f k).length oc) (deadK f k).length ((deadK f k).map intV)) ∧ Hid (Below U1.heap.size U1 wr)) (fun _ v _ => N - (intOf v).toNat)
  case atStart => exact ⟨0, none, 0, rfl, rfl, Nat.zero_le _, Lib.hid (World.ownsRow_nil _ _ _ _), BU⟩
  case round =>
    clear BU
    obtain ⟨k, oa, oc, rfl, rfl, hk, OW, BU⟩ := hrel
    have HR := Lib.hid (HRU.out wr BU.out)
    have RL := Lib.hid (RLU.out wr BU.out)
    have XF := Lib.hid (XFU.out wr BU.out)
    by_cases hkn : k < N
    · have t0 : decide ((k : Int) < (N : Int)) = true := by simp; omega
      have HK64 : Hid ((k : Int) + 1 ≤ 9223372036854775807) := Lib.hid (by have := NB.out; omega)
      have HV := Lib.hid (VF.out (by omega))
      have IV := Lib.hid (FaceV.int HV.out)
      have hls2 := LS.out (by omega)
      obtain ⟨cs, hcs⟩ : ∃ cs, ls[k]? = some cs := ⟨_, List.getElem?_eq_getElem (by rw [hN.out]; exact hkn)⟩
      obtain ⟨R, off, aj, cj, ha, hc, hrd⟩ := RL.out.at_ k cs hcs
      subst ha
      have hcs2 := hcs
      rw [hls2] at hcs2
      obtain ⟨hne, hin⟩ := rg_mem HV.out hcs2
      obtain ⟨x0, hx0⟩ : ∃ x, cs[0]? = some x := ⟨_, List.getElem?_eq_getElem (List.length_pos_iff.2 hne)⟩
      obtain ⟨x1, hx1⟩ : ∃ x, cs[cs.length - 1]? = some x := ⟨_, List.getElem?_eq_getElem (by have := List.length_pos_iff.2 hne; omega)⟩
      have X0 := Lib.hid (hin x0 (List.mem_of_getElem? hx0))
      obtain ⟨i0, hi0⟩ : ∃ i : Nat, Hid (x0 = (i : Int)) := ⟨x0.toNat, Lib.hid (by have := X0.out; omega)⟩
      rw [hi0.out] at hx0 X0
      have IL : Hid (i0 < f.kinds.length) := Lib.hid (by have := X0.out; omega)
      have H0 := Lib.hid hx0
      have H1 := Lib.hid hx1
      have CL : Hid (1 ≤ cs.length ∧ cs.length ≤ 2304) := Lib.hid (by
        have h1 := List.length_pos_iff.2 hne
        have h2 := hrd.le
        refine ⟨h1, ?_⟩
        rw [regList_at (by have := (List.getElem?_eq_some_iff.1 hcs2).1; rw [regList_len] at this; exact this)] at hcs2
        have h3 := Option.some.inj hcs2
        rw [← h3]
        exact Nat.le_trans (regAt_len _ _ _ _) (FaceV.len_le HV.out))
      have DB : Hid (deadB f ((regListF f)[k]?.getD []) = (!decide (f.kat i0 = 0) && decide (x1 < (f.rings - 1) * f.sectors))) := Lib.hid (by
        rw [hcs2]
        unfold deadB
        have e1 : (some cs).getD [] = cs := rfl
        rw [e1, show cs.head?.getD 0 = (i0 : Int) by rw [List.head?_eq_getElem?, hx0]; rfl, show cs.getLast?.getD 0 = x1 by rw [List.getLast?_eq_getElem?, hx1]; rfl, Int.toNat_natCast])
      have RC := Lib.hid hrd
      have GC := Lib.hid hc
      obtain ⟨gj, oj, haj, _⟩ := hrd.get hx0
      subst haj
      obtain ⟨gf, of, haf, _⟩ := HR.out.get (FaceV.kat_at IL.out)
      subst haf
      have DS := Lib.hid (deadK_succ f k)
      have DL := Lib.hid (deadK_len f k)
      clear hx0 hx1 hne hin hcs hcs2 hc hrd hls2
      have W1 := Lib.hid (show wrap64 ((cs.length : Int) - 1) = ((cs.length - 1 : Nat) : Int) by have := CL.out; unfold wrap64; omega)
      have W2 := Lib.hid (show wrap64 (f.rings - 1) = f.rings - 1 by have := IV.out; unfold wrap64; omega)
      obtain ⟨M, hM⟩ : ∃ M, Hid ((f.rings - 1) * f.sectors = M) := ⟨_, Lib.hid rfl⟩
      have MB : Hid (0 ≤ M ∧ M ≤ 2304) := Lib.hid (by have h := IV.out; rw [← hM.out]; exact ⟨Int.mul_nonneg (by omega) (by omega), Int.le_trans (Int.mul_le_mul (show f.rings - 1 ≤ 24 by omega) (show f.sectors ≤ 96 by omega) (by omega) (by omega)) (by omega)⟩)
      have W3 := Lib.hid (show wrap64 ((f.rings - 1) * f.sectors) = M by have := MB.out; have := hM.out; unfold wrap64; omega)
      rw [hM.out] at DB
      obtain ⟨z, hz⟩ : ∃ z : Nat, Hid (cs.length - 1 = z) := ⟨_, Lib.hid rfl⟩
      rw [hz.out] at H1 W1
      have ZL : Hid (z < cs.length) := Lib.hid (by have := CL.out; have := hz.out; omega)
      have zl := ZL.out
      have zi := IL.out
      have zc : 0 < cs.length := by have := CL.out; omega
      have zk : k < N := hkn
      go_upto_region 5 with fail
      clear t0
      refine yB ?_
      refine yM (.int .i64 (k : Int)) ?_
      refine yW (.pointer (some ⟨R, off + k, none⟩)) ?_
      refine yW (.slice (some ⟨gj, oj, none⟩) cs.length cj) ?_ (.inl ⟨by kernel_rfl, by intro W hW; rw [hW]; have c := GC.out; go_simp⟩)
      refine yM (.int .i64 (k : Int)) ?_
      refine yM (.slice (some ⟨gj, oj, none⟩) cs.length cj) ?_
      refine yE ?_
      go_upto_region 6 with fail
      replace GC := GC
      have hd : Below wr.heap.size wr wr.drew := (Below.refl _ _).drew
      replace OW := Lib.hid (own_below OW.out hd)
      replace RC := Lib.hid (RC.out.below hd)
      replace BU := Lib.hid (BU.out.trans (hd.mono BU.out.size))
      replace HR := Lib.hid (HR.out.below hd)
      replace RL := Lib.hid (RL.out.below hd)
      replace XF := Lib.hid (qblk hd XF.out)
      clear hd
      refine zD (fun W => Below wr.drew.heap.size wr.drew W) (Below.refl _ _) (fun hHeld => ?_)
      have BV := Lib.hid hHeld
      generalize wr.drew = V1 at *
      refine zW 0 rfl (.pointer (some ⟨p, 3, none⟩)) ?_
      refine zS 1 rfl (.slice (some ⟨gf, of, none⟩) f.kinds.length n) (fun W hW => by have c := qcell (qblk hW XF.out) 3 (.slice (some ⟨gf, of, none⟩) f.kinds.length n) rfl; go_simp) ?_
      refine zW 2 rfl (.slice (some ⟨gj, oj, none⟩) cs.length cj) ?_
      refine zW 3 rfl (.pointer (some ⟨gj, oj, none⟩)) ?_
      refine zS 4 rfl (.int .i64 (i0 : Int)) (fun W hW => by have c := (show W.cell? ⟨gj, oj, none⟩ = some (.int .i64 (i0 : Int)) from rdi_at (RC.out.below hW) H0.out); go_simp) ?_
      refine zW 5 rfl (.pointer (some ⟨gf, of + i0, none⟩)) ?_
      refine zS 6 rfl (.int .i64 (f.kat i0)) (fun W hW => by have c := rdi_at (HR.out.below hW) (FaceV.kat_at IL.out); go_simp) ?_
      cases hq : (!decide (f.kat i0 = 0))
      · refine zW 7 rfl (.bool false) (hy := .inl ⟨by kernel_rfl, by intro W hW; go_simp; simpa using hq⟩) ?_
        refine zW 8 rfl (.bool false) ?_
        refine zW 9 rfl undef (hy := .inr ⟨by kernel_rfl, rfl⟩) ?_
        refine zW 10 rfl undef (hy := .inr ⟨by kernel_rfl, rfl⟩) ?_
        refine zW 11 rfl undef (hy := .inr ⟨by kernel_rfl, rfl⟩) ?_
        refine zW 12 rfl undef (hy := .inr ⟨by kernel_rfl, rfl⟩) ?_
        refine zW 13 rfl undef (hy := .inr ⟨by kernel_rfl, rfl⟩) ?_
        refine zW 14 rfl undef (hy := .inr ⟨by kernel_rfl, rfl⟩) ?_
        refine zW 15 rfl undef (hy := .inr ⟨by kernel_rfl, rfl⟩) ?_
        refine zW 16 rfl undef (hy := .inr ⟨by kernel_rfl, rfl⟩) ?_
        refine zW 17 rfl undef (hy := .inr ⟨by kernel_rfl, rfl⟩) ?_
        refine zW 18 rfl undef (hy := .inr ⟨by kernel_rfl, rfl⟩) ?_
        refine zW 19 rfl undef (hy := .inr ⟨by kernel_rfl, rfl⟩) ?_
        refine zW 20 rfl undef (hy := .inr ⟨by kernel_rfl, rfl⟩) ?_
        refine zW 21 rfl undef (hy := .inr ⟨by kernel_rfl, rfl⟩) ?_
        refine zW 22 rfl (.bool false) ?_
        refine zE ?_
        have bz := BV.out
        have bz2 := BV.out
        replace BU := Lib.hid (BU.out.trans (bz.mono BU.out.size))
        replace HR := Lib.hid (HR.out.below bz)
        replace RL := Lib.hid (RL.out.below bz)
        replace XF := Lib.hid (qblk bz XF.out)
        clear bz
        clear BV
        replace OW := Lib.hid (own_below OW.out bz2)
        clear bz2
        have HS : Hid (deadB f ((regListF f)[k]?.getD []) = false) := Lib.hid (by rw [DB.out]; simp only [hq]; rfl)
        go_upto_region 8 with fail
        have hk64 := HK64.out
        go_wp2_with fail
        go_roundw
        case rel =>
          have e : deadK f (k + 1) = deadK f k := by rw [DS.out, if_neg (by rw [HS.out]; decide), List.append_nil]
          refine ⟨k + 1, oa, oc, by simp, by rw [e], by omega, ?_, BU⟩
          rw [e]
          exact OW
        case measure => simp [intOf]; omega
      · refine zW 7 rfl (.bool true) (hy := .inl ⟨by kernel_rfl, by intro W hW; go_simp; simpa using hq⟩) ?_
        refine zW 8 rfl (.bool true) ?_
        refine zW 9 rfl (.slice (some ⟨gj, oj, none⟩) cs.length cj) ?_
        refine zW 10 rfl (.slice (some ⟨gj, oj, none⟩) cs.length cj) ?_
        refine zW 11 rfl (.int .i64 (cs.length : Int)) ?_
        refine zW 12 rfl (.int .i64 (z : Int)) (hy := .inl ⟨by kernel_rfl, by intro W hW; go_simp; exact (IntWalk.i64_left _).trans W1.out⟩) ?_
        refine zW 13 rfl (.pointer (some ⟨gj, oj + z, none⟩)) ?_
        refine zS 14 rfl (.int .i64 x1) (fun W hW => by have c := rdi_at (RC.out.below hW) H1.out; go_simp) ?_
        refine zW 15 rfl (.pointer (some ⟨p, 1, none⟩)) ?_
        refine zS 16 rfl (.int .i64 f.rings) (fun W hW => by have c := qcell (qblk hW XF.out) 1 (.int .i64 f.rings) rfl; go_simp) ?_
        refine zW 17 rfl (.int .i64 (f.rings - 1)) (hy := .inl ⟨by kernel_rfl, by intro W hW; go_simp; exact (IntWalk.i64_left _).trans W2.out⟩) ?_
        refine zW 18 rfl (.pointer (some ⟨p, 2, none⟩)) ?_
        refine zS 19 rfl (.int .i64 f.sectors) (fun W hW => by have c := qcell (qblk hW XF.out) 2 (.int .i64 f.sectors) rfl; go_simp) ?_
        refine zW 20 rfl (.int .i64 M) (hy := .inl ⟨by kernel_rfl, by intro W hW; go_simp; exact (IntWalk.i64_left _).trans W3.out⟩) ?_
        cases hs : decide (x1 < M)
        · refine zW 21 rfl (.bool false) ?_
          refine zW 22 rfl (.bool false) ?_
          refine zE ?_
          have bz := BV.out
          have bz2 := BV.out
          replace BU := Lib.hid (BU.out.trans (bz.mono BU.out.size))
          replace HR := Lib.hid (HR.out.below bz)
          replace RL := Lib.hid (RL.out.below bz)
          replace XF := Lib.hid (qblk bz XF.out)
          clear bz
          clear BV
          replace OW := Lib.hid (own_below OW.out bz2)
          clear bz2
          have HS : Hid (deadB f ((regListF f)[k]?.getD []) = false) := Lib.hid (by rw [DB.out]; simp only [hq, hs]; rfl)
          go_upto_region 8 with fail
          have hk64 := HK64.out
          go_wp2_with fail
          go_roundw
          case rel =>
            have e : deadK f (k + 1) = deadK f k := by rw [DS.out, if_neg (by rw [HS.out]; decide), List.append_nil]
            refine ⟨k + 1, oa, oc, by simp, by rw [e], by omega, ?_, BU⟩
            rw [e]
            exact OW
          case measure => simp [intOf]; omega
        · refine zW 21 rfl (.bool true) ?_
          refine zW 22 rfl (.bool true) ?_
          refine zE ?_
          have bz := BV.out
          have bz2 := BV.out
          replace BU := Lib.hid (BU.out.trans (bz.mono BU.out.size))
          replace HR := Lib.hid (HR.out.below bz)
          replace RL := Lib.hid (RL.out.below bz)
          replace XF := Lib.hid (qblk bz XF.out)
          clear bz
          clear BV
          replace OW := Lib.hid (own_below OW.out bz2)
          clear bz2
          have HS : Hid (deadB f ((regListF f)[k]?.getD []) = true) := Lib.hid (by rw [DB.out, hq, hs]; rfl)
          have NK : Hid (k < 2400) := Lib.hid (by have := NB.out; omega)
          go_upto_region 8 with (first
            | (at_builtin; refine appq_ints _ rfl _ _ rfl U1.heap.size _ _ _ (deadK f k) rfl (own_below OW.out (zB V1 _)) _ _ _ [(k : Int)] rfl (lit_int V1 k) (by have := DL.out; have := NB.out; omega) (Nat.le_trans BU.out.size (zB V1 _).size) ?_; intro oa2 oc2 V6 h1 h2 h3; replace BU := Lib.hid (h3 _ (BU.out.trans ((zB V1 _).mono BU.out.size))); replace XF := Lib.hid (h2 _ _ (qblk (zB V1 _) XF.out) (by simp)); replace OW := Lib.hid h1; clear h1 h2 h3)
            | fail)
          have hk64 := HK64.out
          go_wp2_with fail
          go_roundw
          case rel =>
            have e : deadK f (k + 1) = deadK f k ++ [(k : Int)] := by rw [DS.out, if_pos HS.out]
            refine ⟨k + 1, oa2, oc2, by simp, by rw [e, List.length_append]; rfl, by omega, ?_, BU⟩
            rw [e, List.length_append]
            exact OW
          case measure => simp [intOf]; omega
    · have t0 : decide ((k : Int) < (N : Int)) = false := by simp; omega
      have e : k = N := by omega
      subst e
      have DE : Hid (deadP f = (deadK f k, E)) := Lib.hid (by
        have h1 := hls.out
        have h2 := hE.out
        have h3 := hN.out
        unfold regionsP at h1 h2
        unfold deadP deadF
        by_cases hv : f.valid = true
        · rw [if_pos hv] at h1 h2 ⊢
          have h4 : (regListF f).length = k := by rw [← h3, ← h1]
          rw [h4, ← h2]
          rfl
        · rw [if_neg hv] at h1 h2 ⊢
          have h4 : k = 0 := by rw [← h3, ← h1]; rfl
          rw [h4, ← h2]
          rfl)
      go_wp2_with fail
      go_ret2
      rw [DE.out]
      exact ⟨⟨oa, oc, rfl, own_mono OW.out BF1.out.size⟩, BF1.out.trans (BU.out.mono BF1.out.size)⟩
end Go.Proofs.YtmpkglokhchpiaaGreatDoor
namespace Go.Proofs.YtmpkglokhchpiaaGreatDoor
set_option linter.unusedSimpArgs false
set_option linter.unusedVariables false
open Go.RowKit

set_option maxHeartbeats 4000000 in
set_option maxRecDepth 100000 in
theorem group_any (f : FaceV) (a : Option Addr) (n : Nat) (ba bb : Int) (w : World) (he : EnvW w) (hr : RdI w a f.kinds.length n f.kinds) :
    Calls Tryz.prog 7 #[.agg (f.cells a n), .int .i64 ba, .int .i64 bb] w fun e w' => e = .returned (.bool true) ∧ Below w.heap.size w w' := by
  have EV := Lib.hid (fun W (hb : Below w.heap.size w W) => he.below hb)
  have HR := Lib.hid hr
  clear he hr
  have AL := Lib.hid (al1 w (.cells (f.cells a n) 28))
  go_enter Tryz.func7, Tryz.ntmps7
  go_upto_region 1 with fail
  obtain ⟨p, hp⟩ : ∃ p, Hid (w.heap.size = p) := ⟨_, Lib.hid rfl⟩
  rw [hp.out] at AL ⊢
  generalize (w.alloc (.cells (f.cells a n) 28)) = W0 at *
  have BF : Hid (Below w.heap.size w W0) := Lib.hid (by rw [hp.out]; exact AL.out.1)
  have XF : Hid (W0.heap[p]? = some (.cells (f.cells a n) 28 (0, 0))) := Lib.hid AL.out.2
  clear AL
  have c0 := qcell XF.out 0 (.int .i64 f.eye) rfl
  have c1 := qcell XF.out 1 (.int .i64 f.rings) rfl
  have c2 := qcell XF.out 2 (.int .i64 f.sectors) rfl
  have c3 := qcell XF.out 3 (.slice a f.kinds.length n) rfl
  clear c0 c1 c2 c3
  replace HR := Lib.hid (HR.out.below BF.out)
  go_upto_region 1 with fail
  refine yB ?_
  refine yR (fun K hK => ?_)
  go_simp
  refine (awake_any _ (EV.out _ BF.out)).mono ?_
  rintro e U1 ⟨rfl, b⟩
  replace BF := Lib.hid (BF.out.trans (b.mono BF.out.size))
  replace HR := Lib.hid (HR.out.below b)
  replace XF := Lib.hid (qblk b XF.out)
  clear b
  try dsimp only
  refine yK hK ?_
  clear hK K
  refine yM (.bool true) ?_
  refine yE ?_
  go_upto_region 2 with fail
  refine yB ?_
  refine yW (.agg (f.cells a n)) ?_ (qyrow (by kernel_rfl) 28 _ rfl p rfl _ 28 (0, 0) _ (fun W hW => by rw [hW]; exact XF.out) Tryz.underlying28 rfl (by exact (qJF f a n)))
  refine yR (fun K hK => ?_)
  go_simp
  refine (short_any f a n _).mono ?_
  rintro e wr ⟨rfl, b⟩
  replace BF := Lib.hid (BF.out.trans (b.mono BF.out.size))
  replace HR := Lib.hid (HR.out.below b)
  replace XF := Lib.hid (qblk b XF.out)
  clear b
  cases h1 : decide (f.kinds.length ≤ 3000)
  · try dsimp only
    refine yK hK ?_
    clear hK K
    refine yM (.bool true) ?_
    refine yM (.bool true) ?_
    go_skip
    refine yM (.bool true) ?_
    refine yM (.bool true) ?_
    go_skip
    refine yM (.bool true) ?_
    refine yM (.bool true) ?_
    go_skip
    refine yM (.bool true) ?_
    refine yM (.bool true) ?_
    go_skip
    refine yM (.bool true) ?_
    refine yM (.bool true) ?_
    go_skip
    refine yM (.bool true) ?_
    refine yE ?_
    go_wp2_with fail
    go_ret
    exact ⟨rfl, BF.out⟩
  · try dsimp only
    refine yK hK ?_
    clear hK K
    refine yM (.bool false) ?_
    refine yM (.bool false) ?_
    refine yW (.agg (f.cells a n)) ?_ (qyrow (by kernel_rfl) 28 _ rfl p rfl _ 28 (0, 0) _ (fun W hW => by rw [hW]; exact XF.out) Tryz.underlying28 rfl (by exact (qJF f a n)))
    refine yR (fun K hK => ?_)
    go_simp
    refine (valid2_any f a n _ HR.out).mono ?_
    rintro e wr ⟨rfl, b⟩
    replace BF := Lib.hid (BF.out.trans (b.mono BF.out.size))
    replace HR := Lib.hid (HR.out.below b)
    replace XF := Lib.hid (qblk b XF.out)
    clear b
    cases hv : f.valid
    · try dsimp only
      refine yK hK ?_
      clear hK K
      refine yM (.bool true) ?_
      refine yM (.bool true) ?_
      refine yM (.bool true) ?_
      go_skip
      refine yM (.bool true) ?_
      refine yM (.bool true) ?_
      go_skip
      refine yM (.bool true) ?_
      refine yM (.bool true) ?_
      go_skip
      refine yM (.bool true) ?_
      refine yM (.bool true) ?_
      go_skip
      refine yM (.bool true) ?_
      refine yE ?_
      go_wp2_with fail
      go_ret
      exact ⟨rfl, BF.out⟩
    · have HV := Lib.hid hv
      clear hv
      try dsimp only
      refine yK hK ?_
      clear hK K
      refine yM (.bool false) ?_
      refine yM (.bool false) ?_
      refine yM (.bool false) ?_
      refine yM (.int .i64 ba) ?_
      cases k41 : decide (ba < -1000000)
      · refine yW (.bool false) ?_ 
        refine yM (.bool false) ?_
        refine yM (.bool false) ?_
        refine yM (.int .i64 ba) ?_
        cases k45 : decide (1000000 < ba)
        · refine yW (.bool false) ?_ 
          refine yM (.bool false) ?_
          refine yM (.bool false) ?_
          refine yM (.int .i64 bb) ?_
          cases k49 : decide (bb < -1000000)
          · refine yW (.bool false) ?_ 
            refine yM (.bool false) ?_
            refine yM (.bool false) ?_
            refine yM (.int .i64 bb) ?_
            cases k53 : decide (1000000 < bb)
            · refine yW (.bool false) ?_ 
              refine yM (.bool false) ?_
              refine yE ?_
              have WS := Lib.hid (show wrap64 (ba + bb) = ba + bb by have h1 := of_decide_eq_false k41; have h2 := of_decide_eq_false k45; have h3 := of_decide_eq_false k49; have h4 := of_decide_eq_false k53; unfold wrap64; omega)
              have WN := Lib.hid (show wrap64 (-ba) = -ba by have h1 := of_decide_eq_false k41; have h2 := of_decide_eq_false k45; unfold wrap64; omega)
              have VX := Lib.hid (turn_valid HV.out ba)
              have VM := Lib.hid (mirror_valid HV.out)
              have VP := Lib.hid (turn_valid HV.out (-ba))
              clear k41 k45 k49 k53
              go_upto_region 4 with fail
              refine yB ?_
              refine yW (.agg (f.cells a n)) ?_ (qyrow (by kernel_rfl) 28 _ rfl p rfl _ 28 (0, 0) _ (fun W hW => by rw [hW]; exact XF.out) Tryz.underlying28 rfl (by exact (qJF f a n)))
              refine yM (.int .i64 ba) ?_
              refine yR (fun K hK => ?_)
              go_simp
              refine (turnP_any f a n ba _ HR.out).mono ?_
              rintro e U4 ⟨⟨b1, m1, rfl, own⟩, b⟩
              rw [show turnP f ba = ((turnF f ba), 0) by unfold turnP; rw [HV.out]; rfl] at own ⊢
              dsimp only at own
              have R1 := Lib.hid own.rd
              clear own
              replace BF := Lib.hid (BF.out.trans (b.mono BF.out.size))
              replace HR := Lib.hid (HR.out.below b)
              replace XF := Lib.hid (qblk b XF.out)
              clear b
              try dsimp only
              refine yK hK ?_
              clear hK K
              refine yM (.tuple #[.agg ((turnF f ba).cells b1 m1), .int .i64 0]) ?_
              refine yM (.agg ((turnF f ba).cells b1 m1)) ?_
              refine yM (.int .i64 0) ?_
              refine yR (fun K hK => ?_)
              refine qbuild (w' := U4.alloc (.cells #[.int .i64 0, .int .i64 0, .int .i64 0, .slice none 0 0] 28)) (.pointer (some ⟨U4.heap.size, 0, none⟩)) (by kernel_rfl) ?_
              obtain ⟨x8, hx8⟩ : ∃ x, Hid (U4.heap.size = x) := ⟨_, Lib.hid rfl⟩
              have AL := Lib.hid (al1 U4 (.cells #[.int .i64 0, .int .i64 0, .int .i64 0, .slice none 0 0] 28))
              rw [hx8.out] at AL ⊢
              refine yK hK ?_
              clear hK K
              refine yR (fun K hK => ?_)
              refine qstore 28 _ _ rfl x8 #[.int .i64 0, .int .i64 0, .int .i64 0, .slice none 0 0] ((turnF f ba).cells b1 m1) 28 rfl rfl AL.out.2 (by exact qJF (turnF f ba) b1 m1) rfl (qone (turnF f ba) b1 m1) ?_
              intro U5 h8 hg8 hs8
              have b : Below U4.heap.size U4 U5 := qstep (by have h1 := AL.out.1; rw [← hx8.out] at h1; exact h1) hg8 (Nat.le_of_eq hx8.out)
              replace BF := Lib.hid (BF.out.trans (b.mono BF.out.size))
              replace HR := Lib.hid (HR.out.below b)
              replace R1 := Lib.hid (R1.out.below b)
              replace XF := Lib.hid (qblk b XF.out)
              clear b
              have Xx8 := Lib.hid h8
              clear h8 hg8 hs8 AL
              refine yK hK ?_
              clear hK K
              refine yM (.int .i64 0) ?_
              refine yE ?_
              go_upto_region 5 with fail
              refine yB ?_
              refine yW (.agg ((turnF f ba).cells b1 m1)) ?_ (qyrow (by kernel_rfl) 28 _ rfl x8 rfl _ 28 (0, 0) _ (fun W hW => by rw [hW]; exact Xx8.out) Tryz.underlying28 rfl (by exact (qJF (turnF f ba) b1 m1)))
              refine yM (.int .i64 bb) ?_
              refine yR (fun K hK => ?_)
              go_simp
              refine (turnP_any (turnF f ba) b1 m1 bb _ R1.out).mono ?_
              rintro e U6 ⟨⟨b2, m2, rfl, own⟩, b⟩
              rw [show turnP (turnF f ba) bb = ((turnF (turnF f ba) bb), 0) by unfold turnP; rw [VX.out]; rfl] at own ⊢
              dsimp only at own
              have R2 := Lib.hid own.rd
              clear own
              replace BF := Lib.hid (BF.out.trans (b.mono BF.out.size))
              replace HR := Lib.hid (HR.out.below b)
              replace R1 := Lib.hid (R1.out.below b)
              replace XF := Lib.hid (qblk b XF.out)
              replace Xx8 := Lib.hid (qblk b Xx8.out)
              clear b
              try dsimp only
              refine yK hK ?_
              clear hK K
              refine yM (.tuple #[.agg ((turnF (turnF f ba) bb).cells b2 m2), .int .i64 0]) ?_
              refine yM (.agg ((turnF (turnF f ba) bb).cells b2 m2)) ?_
              refine yM (.int .i64 0) ?_
              refine yR (fun K hK => ?_)
              refine qbuild (w' := U6.alloc (.cells #[.int .i64 0, .int .i64 0, .int .i64 0, .slice none 0 0] 28)) (.pointer (some ⟨U6.heap.size, 0, none⟩)) (by kernel_rfl) ?_
              obtain ⟨x10, hx10⟩ : ∃ x, Hid (U6.heap.size = x) := ⟨_, Lib.hid rfl⟩
              have AL := Lib.hid (al1 U6 (.cells #[.int .i64 0, .int .i64 0, .int .i64 0, .slice none 0 0] 28))
              rw [hx10.out] at AL ⊢
              refine yK hK ?_
              clear hK K
              refine yR (fun K hK => ?_)
              refine qstore 28 _ _ rfl x10 #[.int .i64 0, .int .i64 0, .int .i64 0, .slice none 0 0] ((turnF (turnF f ba) bb).cells b2 m2) 28 rfl rfl AL.out.2 (by exact qJF (turnF (turnF f ba) bb) b2 m2) rfl (qone (turnF (turnF f ba) bb) b2 m2) ?_
              intro U7 h8 hg8 hs8
              have b : Below U6.heap.size U6 U7 := qstep (by have h1 := AL.out.1; rw [← hx10.out] at h1; exact h1) hg8 (Nat.le_of_eq hx10.out)
              replace BF := Lib.hid (BF.out.trans (b.mono BF.out.size))
              replace HR := Lib.hid (HR.out.below b)
              replace R1 := Lib.hid (R1.out.below b)
              replace R2 := Lib.hid (R2.out.below b)
              replace XF := Lib.hid (qblk b XF.out)
              replace Xx8 := Lib.hid (qblk b Xx8.out)
              clear b
              have Xx10 := Lib.hid h8
              clear h8 hg8 hs8 AL
              refine yK hK ?_
              clear hK K
              refine yM (.int .i64 0) ?_
              refine yE ?_
              go_upto_region 6 with fail
              refine yB ?_
              refine yW (.agg (f.cells a n)) ?_ (qyrow (by kernel_rfl) 28 _ rfl p rfl _ 28 (0, 0) _ (fun W hW => by rw [hW]; exact XF.out) Tryz.underlying28 rfl (by exact (qJF f a n)))
              refine yM (.int .i64 ba) ?_
              refine yM (.int .i64 bb) ?_
              refine yW (.int .i64 (ba + bb)) ?_ (.inl ⟨by kernel_rfl, by intro W hW; rw [hW]; go_simp; exact (IntWalk.i64_left _).trans WS.out⟩)
              refine yR (fun K hK => ?_)
              go_simp
              refine (turnP_any f a n (ba + bb) _ HR.out).mono ?_
              rintro e U8 ⟨⟨b3, m3, rfl, own⟩, b⟩
              rw [show turnP f (ba + bb) = ((turnF f (ba + bb)), 0) by unfold turnP; rw [HV.out]; rfl] at own ⊢
              dsimp only at own
              have R3 := Lib.hid own.rd
              clear own
              replace BF := Lib.hid (BF.out.trans (b.mono BF.out.size))
              replace HR := Lib.hid (HR.out.below b)
              replace R1 := Lib.hid (R1.out.below b)
              replace R2 := Lib.hid (R2.out.below b)
              replace XF := Lib.hid (qblk b XF.out)
              replace Xx8 := Lib.hid (qblk b Xx8.out)
              replace Xx10 := Lib.hid (qblk b Xx10.out)
              clear b
              try dsimp only
              refine yK hK ?_
              clear hK K
              refine yM (.tuple #[.agg ((turnF f (ba + bb)).cells b3 m3), .int .i64 0]) ?_
              refine yM (.agg ((turnF f (ba + bb)).cells b3 m3)) ?_
              refine yM (.int .i64 0) ?_
              refine yR (fun K hK => ?_)
              refine qbuild (w' := U8.alloc (.cells #[.int .i64 0, .int .i64 0, .int .i64 0, .slice none 0 0] 28)) (.pointer (some ⟨U8.heap.size, 0, none⟩)) (by kernel_rfl) ?_
              obtain ⟨x12, hx12⟩ : ∃ x, Hid (U8.heap.size = x) := ⟨_, Lib.hid rfl⟩
              have AL := Lib.hid (al1 U8 (.cells #[.int .i64 0, .int .i64 0, .int .i64 0, .slice none 0 0] 28))
              rw [hx12.out] at AL ⊢
              refine yK hK ?_
              clear hK K
              refine yR (fun K hK => ?_)
              refine qstore 28 _ _ rfl x12 #[.int .i64 0, .int .i64 0, .int .i64 0, .slice none 0 0] ((turnF f (ba + bb)).cells b3 m3) 28 rfl rfl AL.out.2 (by exact qJF (turnF f (ba + bb)) b3 m3) rfl (qone (turnF f (ba + bb)) b3 m3) ?_
              intro U9 h8 hg8 hs8
              have b : Below U8.heap.size U8 U9 := qstep (by have h1 := AL.out.1; rw [← hx12.out] at h1; exact h1) hg8 (Nat.le_of_eq hx12.out)
              replace BF := Lib.hid (BF.out.trans (b.mono BF.out.size))
              replace HR := Lib.hid (HR.out.below b)
              replace R1 := Lib.hid (R1.out.below b)
              replace R2 := Lib.hid (R2.out.below b)
              replace R3 := Lib.hid (R3.out.below b)
              replace XF := Lib.hid (qblk b XF.out)
              replace Xx8 := Lib.hid (qblk b Xx8.out)
              replace Xx10 := Lib.hid (qblk b Xx10.out)
              clear b
              have Xx12 := Lib.hid h8
              clear h8 hg8 hs8 AL
              refine yK hK ?_
              clear hK K
              refine yM (.int .i64 0) ?_
              refine yE ?_
              go_upto_region 7 with fail
              refine yB ?_
              refine yW (.agg (f.cells a n)) ?_ (qyrow (by kernel_rfl) 28 _ rfl p rfl _ 28 (0, 0) _ (fun W hW => by rw [hW]; exact XF.out) Tryz.underlying28 rfl (by exact (qJF f a n)))
              refine yW (.pointer (some ⟨p, 2, none⟩)) ?_
              refine yW (.int .i64 f.sectors) ?_ (.inl ⟨by kernel_rfl, by intro W hW; rw [hW]; have c := qcell XF.out 2 (.int .i64 f.sectors) rfl; go_simp⟩)
              refine yR (fun K hK => ?_)
              go_simp
              refine (turnP_any f a n f.sectors _ HR.out).mono ?_
              rintro e U10 ⟨⟨b4, m4, rfl, own⟩, b⟩
              rw [show turnP f f.sectors = ((turnF f f.sectors), 0) by unfold turnP; rw [HV.out]; rfl] at own ⊢
              dsimp only at own
              have R4 := Lib.hid own.rd
              clear own
              replace BF := Lib.hid (BF.out.trans (b.mono BF.out.size))
              replace HR := Lib.hid (HR.out.below b)
              replace R1 := Lib.hid (R1.out.below b)
              replace R2 := Lib.hid (R2.out.below b)
              replace R3 := Lib.hid (R3.out.below b)
              replace XF := Lib.hid (qblk b XF.out)
              replace Xx8 := Lib.hid (qblk b Xx8.out)
              replace Xx10 := Lib.hid (qblk b Xx10.out)
              replace Xx12 := Lib.hid (qblk b Xx12.out)
              clear b
              try dsimp only
              refine yK hK ?_
              clear hK K
              refine yM (.tuple #[.agg ((turnF f f.sectors).cells b4 m4), .int .i64 0]) ?_
              refine yM (.agg ((turnF f f.sectors).cells b4 m4)) ?_
              refine yM (.int .i64 0) ?_
              refine yR (fun K hK => ?_)
              refine qbuild (w' := U10.alloc (.cells #[.int .i64 0, .int .i64 0, .int .i64 0, .slice none 0 0] 28)) (.pointer (some ⟨U10.heap.size, 0, none⟩)) (by kernel_rfl) ?_
              obtain ⟨x14, hx14⟩ : ∃ x, Hid (U10.heap.size = x) := ⟨_, Lib.hid rfl⟩
              have AL := Lib.hid (al1 U10 (.cells #[.int .i64 0, .int .i64 0, .int .i64 0, .slice none 0 0] 28))
              rw [hx14.out] at AL ⊢
              refine yK hK ?_
              clear hK K
              refine yR (fun K hK => ?_)
              refine qstore 28 _ _ rfl x14 #[.int .i64 0, .int .i64 0, .int .i64 0, .slice none 0 0] ((turnF f f.sectors).cells b4 m4) 28 rfl rfl AL.out.2 (by exact qJF (turnF f f.sectors) b4 m4) rfl (qone (turnF f f.sectors) b4 m4) ?_
              intro U11 h8 hg8 hs8
              have b : Below U10.heap.size U10 U11 := qstep (by have h1 := AL.out.1; rw [← hx14.out] at h1; exact h1) hg8 (Nat.le_of_eq hx14.out)
              replace BF := Lib.hid (BF.out.trans (b.mono BF.out.size))
              replace HR := Lib.hid (HR.out.below b)
              replace R1 := Lib.hid (R1.out.below b)
              replace R2 := Lib.hid (R2.out.below b)
              replace R3 := Lib.hid (R3.out.below b)
              replace R4 := Lib.hid (R4.out.below b)
              replace XF := Lib.hid (qblk b XF.out)
              replace Xx8 := Lib.hid (qblk b Xx8.out)
              replace Xx10 := Lib.hid (qblk b Xx10.out)
              replace Xx12 := Lib.hid (qblk b Xx12.out)
              clear b
              have Xx14 := Lib.hid h8
              clear h8 hg8 hs8 AL
              refine yK hK ?_
              clear hK K
              refine yM (.int .i64 0) ?_
              refine yE ?_
              go_upto_region 8 with fail
              refine yB ?_
              refine yW (.agg (f.cells a n)) ?_ (qyrow (by kernel_rfl) 28 _ rfl p rfl _ 28 (0, 0) _ (fun W hW => by rw [hW]; exact XF.out) Tryz.underlying28 rfl (by exact (qJF f a n)))
              refine yR (fun K hK => ?_)
              go_simp
              refine (mirrorP_any f a n _ HR.out).mono ?_
              rintro e U12 ⟨⟨b5, m5, rfl, own⟩, b⟩
              rw [show mirrorP f = ((mirrorF f), 0) by unfold mirrorP; rw [HV.out]; rfl] at own ⊢
              dsimp only at own
              have R5 := Lib.hid own.rd
              clear own
              replace BF := Lib.hid (BF.out.trans (b.mono BF.out.size))
              replace HR := Lib.hid (HR.out.below b)
              replace R1 := Lib.hid (R1.out.below b)
              replace R2 := Lib.hid (R2.out.below b)
              replace R3 := Lib.hid (R3.out.below b)
              replace R4 := Lib.hid (R4.out.below b)
              replace XF := Lib.hid (qblk b XF.out)
              replace Xx8 := Lib.hid (qblk b Xx8.out)
              replace Xx10 := Lib.hid (qblk b Xx10.out)
              replace Xx12 := Lib.hid (qblk b Xx12.out)
              replace Xx14 := Lib.hid (qblk b Xx14.out)
              clear b
              try dsimp only
              refine yK hK ?_
              clear hK K
              refine yM (.tuple #[.agg ((mirrorF f).cells b5 m5), .int .i64 0]) ?_
              refine yM (.agg ((mirrorF f).cells b5 m5)) ?_
              refine yM (.int .i64 0) ?_
              refine yR (fun K hK => ?_)
              refine qbuild (w' := U12.alloc (.cells #[.int .i64 0, .int .i64 0, .int .i64 0, .slice none 0 0] 28)) (.pointer (some ⟨U12.heap.size, 0, none⟩)) (by kernel_rfl) ?_
              obtain ⟨x16, hx16⟩ : ∃ x, Hid (U12.heap.size = x) := ⟨_, Lib.hid rfl⟩
              have AL := Lib.hid (al1 U12 (.cells #[.int .i64 0, .int .i64 0, .int .i64 0, .slice none 0 0] 28))
              rw [hx16.out] at AL ⊢
              refine yK hK ?_
              clear hK K
              refine yR (fun K hK => ?_)
              refine qstore 28 _ _ rfl x16 #[.int .i64 0, .int .i64 0, .int .i64 0, .slice none 0 0] ((mirrorF f).cells b5 m5) 28 rfl rfl AL.out.2 (by exact qJF (mirrorF f) b5 m5) rfl (qone (mirrorF f) b5 m5) ?_
              intro U13 h8 hg8 hs8
              have b : Below U12.heap.size U12 U13 := qstep (by have h1 := AL.out.1; rw [← hx16.out] at h1; exact h1) hg8 (Nat.le_of_eq hx16.out)
              replace BF := Lib.hid (BF.out.trans (b.mono BF.out.size))
              replace HR := Lib.hid (HR.out.below b)
              replace R1 := Lib.hid (R1.out.below b)
              replace R2 := Lib.hid (R2.out.below b)
              replace R3 := Lib.hid (R3.out.below b)
              replace R4 := Lib.hid (R4.out.below b)
              replace R5 := Lib.hid (R5.out.below b)
              replace XF := Lib.hid (qblk b XF.out)
              replace Xx8 := Lib.hid (qblk b Xx8.out)
              replace Xx10 := Lib.hid (qblk b Xx10.out)
              replace Xx12 := Lib.hid (qblk b Xx12.out)
              replace Xx14 := Lib.hid (qblk b Xx14.out)
              clear b
              have Xx16 := Lib.hid h8
              clear h8 hg8 hs8 AL
              refine yK hK ?_
              clear hK K
              refine yM (.int .i64 0) ?_
              refine yE ?_
              go_upto_region 9 with fail
              refine yB ?_
              refine yW (.agg ((mirrorF f).cells b5 m5)) ?_ (qyrow (by kernel_rfl) 28 _ rfl x16 rfl _ 28 (0, 0) _ (fun W hW => by rw [hW]; exact Xx16.out) Tryz.underlying28 rfl (by exact (qJF (mirrorF f) b5 m5)))
              refine yR (fun K hK => ?_)
              go_simp
              refine (mirrorP_any (mirrorF f) b5 m5 _ R5.out).mono ?_
              rintro e U14 ⟨⟨b6, m6, rfl, own⟩, b⟩
              rw [show mirrorP (mirrorF f) = ((mirrorF (mirrorF f)), 0) by unfold mirrorP; rw [VM.out]; rfl] at own ⊢
              dsimp only at own
              have R6 := Lib.hid own.rd
              clear own
              replace BF := Lib.hid (BF.out.trans (b.mono BF.out.size))
              replace HR := Lib.hid (HR.out.below b)
              replace R1 := Lib.hid (R1.out.below b)
              replace R2 := Lib.hid (R2.out.below b)
              replace R3 := Lib.hid (R3.out.below b)
              replace R4 := Lib.hid (R4.out.below b)
              replace R5 := Lib.hid (R5.out.below b)
              replace XF := Lib.hid (qblk b XF.out)
              replace Xx8 := Lib.hid (qblk b Xx8.out)
              replace Xx10 := Lib.hid (qblk b Xx10.out)
              replace Xx12 := Lib.hid (qblk b Xx12.out)
              replace Xx14 := Lib.hid (qblk b Xx14.out)
              replace Xx16 := Lib.hid (qblk b Xx16.out)
              clear b
              try dsimp only
              refine yK hK ?_
              clear hK K
              refine yM (.tuple #[.agg ((mirrorF (mirrorF f)).cells b6 m6), .int .i64 0]) ?_
              refine yM (.agg ((mirrorF (mirrorF f)).cells b6 m6)) ?_
              refine yM (.int .i64 0) ?_
              refine yR (fun K hK => ?_)
              refine qbuild (w' := U14.alloc (.cells #[.int .i64 0, .int .i64 0, .int .i64 0, .slice none 0 0] 28)) (.pointer (some ⟨U14.heap.size, 0, none⟩)) (by kernel_rfl) ?_
              obtain ⟨x18, hx18⟩ : ∃ x, Hid (U14.heap.size = x) := ⟨_, Lib.hid rfl⟩
              have AL := Lib.hid (al1 U14 (.cells #[.int .i64 0, .int .i64 0, .int .i64 0, .slice none 0 0] 28))
              rw [hx18.out] at AL ⊢
              refine yK hK ?_
              clear hK K
              refine yR (fun K hK => ?_)
              refine qstore 28 _ _ rfl x18 #[.int .i64 0, .int .i64 0, .int .i64 0, .slice none 0 0] ((mirrorF (mirrorF f)).cells b6 m6) 28 rfl rfl AL.out.2 (by exact qJF (mirrorF (mirrorF f)) b6 m6) rfl (qone (mirrorF (mirrorF f)) b6 m6) ?_
              intro U15 h8 hg8 hs8
              have b : Below U14.heap.size U14 U15 := qstep (by have h1 := AL.out.1; rw [← hx18.out] at h1; exact h1) hg8 (Nat.le_of_eq hx18.out)
              replace BF := Lib.hid (BF.out.trans (b.mono BF.out.size))
              replace HR := Lib.hid (HR.out.below b)
              replace R1 := Lib.hid (R1.out.below b)
              replace R2 := Lib.hid (R2.out.below b)
              replace R3 := Lib.hid (R3.out.below b)
              replace R4 := Lib.hid (R4.out.below b)
              replace R5 := Lib.hid (R5.out.below b)
              replace R6 := Lib.hid (R6.out.below b)
              replace XF := Lib.hid (qblk b XF.out)
              replace Xx8 := Lib.hid (qblk b Xx8.out)
              replace Xx10 := Lib.hid (qblk b Xx10.out)
              replace Xx12 := Lib.hid (qblk b Xx12.out)
              replace Xx14 := Lib.hid (qblk b Xx14.out)
              replace Xx16 := Lib.hid (qblk b Xx16.out)
              clear b
              have Xx18 := Lib.hid h8
              clear h8 hg8 hs8 AL
              refine yK hK ?_
              clear hK K
              refine yM (.int .i64 0) ?_
              refine yE ?_
              go_upto_region 10 with fail
              refine yB ?_
              refine yW (.agg ((mirrorF f).cells b5 m5)) ?_ (qyrow (by kernel_rfl) 28 _ rfl x16 rfl _ 28 (0, 0) _ (fun W hW => by rw [hW]; exact Xx16.out) Tryz.underlying28 rfl (by exact (qJF (mirrorF f) b5 m5)))
              refine yM (.int .i64 ba) ?_
              refine yR (fun K hK => ?_)
              go_simp
              refine (turnP_any (mirrorF f) b5 m5 ba _ R5.out).mono ?_
              rintro e U16 ⟨⟨b7, m7, rfl, own⟩, b⟩
              rw [show turnP (mirrorF f) ba = ((turnF (mirrorF f) ba), 0) by unfold turnP; rw [VM.out]; rfl] at own ⊢
              dsimp only at own
              have R7 := Lib.hid own.rd
              clear own
              replace BF := Lib.hid (BF.out.trans (b.mono BF.out.size))
              replace HR := Lib.hid (HR.out.below b)
              replace R1 := Lib.hid (R1.out.below b)
              replace R2 := Lib.hid (R2.out.below b)
              replace R3 := Lib.hid (R3.out.below b)
              replace R4 := Lib.hid (R4.out.below b)
              replace R5 := Lib.hid (R5.out.below b)
              replace R6 := Lib.hid (R6.out.below b)
              replace XF := Lib.hid (qblk b XF.out)
              replace Xx8 := Lib.hid (qblk b Xx8.out)
              replace Xx10 := Lib.hid (qblk b Xx10.out)
              replace Xx12 := Lib.hid (qblk b Xx12.out)
              replace Xx14 := Lib.hid (qblk b Xx14.out)
              replace Xx16 := Lib.hid (qblk b Xx16.out)
              replace Xx18 := Lib.hid (qblk b Xx18.out)
              clear b
              try dsimp only
              refine yK hK ?_
              clear hK K
              refine yM (.tuple #[.agg ((turnF (mirrorF f) ba).cells b7 m7), .int .i64 0]) ?_
              refine yM (.agg ((turnF (mirrorF f) ba).cells b7 m7)) ?_
              refine yM (.int .i64 0) ?_
              refine yR (fun K hK => ?_)
              refine qbuild (w' := U16.alloc (.cells #[.int .i64 0, .int .i64 0, .int .i64 0, .slice none 0 0] 28)) (.pointer (some ⟨U16.heap.size, 0, none⟩)) (by kernel_rfl) ?_
              obtain ⟨x20, hx20⟩ : ∃ x, Hid (U16.heap.size = x) := ⟨_, Lib.hid rfl⟩
              have AL := Lib.hid (al1 U16 (.cells #[.int .i64 0, .int .i64 0, .int .i64 0, .slice none 0 0] 28))
              rw [hx20.out] at AL ⊢
              refine yK hK ?_
              clear hK K
              refine yR (fun K hK => ?_)
              refine qstore 28 _ _ rfl x20 #[.int .i64 0, .int .i64 0, .int .i64 0, .slice none 0 0] ((turnF (mirrorF f) ba).cells b7 m7) 28 rfl rfl AL.out.2 (by exact qJF (turnF (mirrorF f) ba) b7 m7) rfl (qone (turnF (mirrorF f) ba) b7 m7) ?_
              intro U17 h8 hg8 hs8
              have b : Below U16.heap.size U16 U17 := qstep (by have h1 := AL.out.1; rw [← hx20.out] at h1; exact h1) hg8 (Nat.le_of_eq hx20.out)
              replace BF := Lib.hid (BF.out.trans (b.mono BF.out.size))
              replace HR := Lib.hid (HR.out.below b)
              replace R1 := Lib.hid (R1.out.below b)
              replace R2 := Lib.hid (R2.out.below b)
              replace R3 := Lib.hid (R3.out.below b)
              replace R4 := Lib.hid (R4.out.below b)
              replace R5 := Lib.hid (R5.out.below b)
              replace R6 := Lib.hid (R6.out.below b)
              replace R7 := Lib.hid (R7.out.below b)
              replace XF := Lib.hid (qblk b XF.out)
              replace Xx8 := Lib.hid (qblk b Xx8.out)
              replace Xx10 := Lib.hid (qblk b Xx10.out)
              replace Xx12 := Lib.hid (qblk b Xx12.out)
              replace Xx14 := Lib.hid (qblk b Xx14.out)
              replace Xx16 := Lib.hid (qblk b Xx16.out)
              replace Xx18 := Lib.hid (qblk b Xx18.out)
              clear b
              have Xx20 := Lib.hid h8
              clear h8 hg8 hs8 AL
              refine yK hK ?_
              clear hK K
              refine yM (.int .i64 0) ?_
              refine yE ?_
              go_upto_region 11 with fail
              refine yB ?_
              refine yW (.agg (f.cells a n)) ?_ (qyrow (by kernel_rfl) 28 _ rfl p rfl _ 28 (0, 0) _ (fun W hW => by rw [hW]; exact XF.out) Tryz.underlying28 rfl (by exact (qJF f a n)))
              refine yM (.int .i64 ba) ?_
              refine yW (.int .i64 (-ba)) ?_ (.inl ⟨by kernel_rfl, by intro W hW; rw [hW]; go_simp; exact (IntWalk.i64_left _).trans WN.out⟩)
              refine yR (fun K hK => ?_)
              go_simp
              refine (turnP_any f a n (-ba) _ HR.out).mono ?_
              rintro e U18 ⟨⟨b8, m8, rfl, own⟩, b⟩
              rw [show turnP f (-ba) = ((turnF f (-ba)), 0) by unfold turnP; rw [HV.out]; rfl] at own ⊢
              dsimp only at own
              have R8 := Lib.hid own.rd
              clear own
              replace BF := Lib.hid (BF.out.trans (b.mono BF.out.size))
              replace HR := Lib.hid (HR.out.below b)
              replace R1 := Lib.hid (R1.out.below b)
              replace R2 := Lib.hid (R2.out.below b)
              replace R3 := Lib.hid (R3.out.below b)
              replace R4 := Lib.hid (R4.out.below b)
              replace R5 := Lib.hid (R5.out.below b)
              replace R6 := Lib.hid (R6.out.below b)
              replace R7 := Lib.hid (R7.out.below b)
              replace XF := Lib.hid (qblk b XF.out)
              replace Xx8 := Lib.hid (qblk b Xx8.out)
              replace Xx10 := Lib.hid (qblk b Xx10.out)
              replace Xx12 := Lib.hid (qblk b Xx12.out)
              replace Xx14 := Lib.hid (qblk b Xx14.out)
              replace Xx16 := Lib.hid (qblk b Xx16.out)
              replace Xx18 := Lib.hid (qblk b Xx18.out)
              replace Xx20 := Lib.hid (qblk b Xx20.out)
              clear b
              try dsimp only
              refine yK hK ?_
              clear hK K
              refine yM (.tuple #[.agg ((turnF f (-ba)).cells b8 m8), .int .i64 0]) ?_
              refine yM (.agg ((turnF f (-ba)).cells b8 m8)) ?_
              refine yM (.int .i64 0) ?_
              refine yR (fun K hK => ?_)
              refine qbuild (w' := U18.alloc (.cells #[.int .i64 0, .int .i64 0, .int .i64 0, .slice none 0 0] 28)) (.pointer (some ⟨U18.heap.size, 0, none⟩)) (by kernel_rfl) ?_
              obtain ⟨x22, hx22⟩ : ∃ x, Hid (U18.heap.size = x) := ⟨_, Lib.hid rfl⟩
              have AL := Lib.hid (al1 U18 (.cells #[.int .i64 0, .int .i64 0, .int .i64 0, .slice none 0 0] 28))
              rw [hx22.out] at AL ⊢
              refine yK hK ?_
              clear hK K
              refine yR (fun K hK => ?_)
              refine qstore 28 _ _ rfl x22 #[.int .i64 0, .int .i64 0, .int .i64 0, .slice none 0 0] ((turnF f (-ba)).cells b8 m8) 28 rfl rfl AL.out.2 (by exact qJF (turnF f (-ba)) b8 m8) rfl (qone (turnF f (-ba)) b8 m8) ?_
              intro U19 h8 hg8 hs8
              have b : Below U18.heap.size U18 U19 := qstep (by have h1 := AL.out.1; rw [← hx22.out] at h1; exact h1) hg8 (Nat.le_of_eq hx22.out)
              replace BF := Lib.hid (BF.out.trans (b.mono BF.out.size))
              replace HR := Lib.hid (HR.out.below b)
              replace R1 := Lib.hid (R1.out.below b)
              replace R2 := Lib.hid (R2.out.below b)
              replace R3 := Lib.hid (R3.out.below b)
              replace R4 := Lib.hid (R4.out.below b)
              replace R5 := Lib.hid (R5.out.below b)
              replace R6 := Lib.hid (R6.out.below b)
              replace R7 := Lib.hid (R7.out.below b)
              replace R8 := Lib.hid (R8.out.below b)
              replace XF := Lib.hid (qblk b XF.out)
              replace Xx8 := Lib.hid (qblk b Xx8.out)
              replace Xx10 := Lib.hid (qblk b Xx10.out)
              replace Xx12 := Lib.hid (qblk b Xx12.out)
              replace Xx14 := Lib.hid (qblk b Xx14.out)
              replace Xx16 := Lib.hid (qblk b Xx16.out)
              replace Xx18 := Lib.hid (qblk b Xx18.out)
              replace Xx20 := Lib.hid (qblk b Xx20.out)
              clear b
              have Xx22 := Lib.hid h8
              clear h8 hg8 hs8 AL
              refine yK hK ?_
              clear hK K
              refine yM (.int .i64 0) ?_
              refine yE ?_
              go_upto_region 12 with fail
              refine yB ?_
              refine yW (.agg ((turnF f (-ba)).cells b8 m8)) ?_ (qyrow (by kernel_rfl) 28 _ rfl x22 rfl _ 28 (0, 0) _ (fun W hW => by rw [hW]; exact Xx22.out) Tryz.underlying28 rfl (by exact (qJF (turnF f (-ba)) b8 m8)))
              refine yR (fun K hK => ?_)
              go_simp
              refine (mirrorP_any (turnF f (-ba)) b8 m8 _ R8.out).mono ?_
              rintro e U20 ⟨⟨b9, m9, rfl, own⟩, b⟩
              rw [show mirrorP (turnF f (-ba)) = ((mirrorF (turnF f (-ba))), 0) by unfold mirrorP; rw [VP.out]; rfl] at own ⊢
              dsimp only at own
              have R9 := Lib.hid own.rd
              clear own
              replace BF := Lib.hid (BF.out.trans (b.mono BF.out.size))
              replace HR := Lib.hid (HR.out.below b)
              replace R1 := Lib.hid (R1.out.below b)
              replace R2 := Lib.hid (R2.out.below b)
              replace R3 := Lib.hid (R3.out.below b)
              replace R4 := Lib.hid (R4.out.below b)
              replace R5 := Lib.hid (R5.out.below b)
              replace R6 := Lib.hid (R6.out.below b)
              replace R7 := Lib.hid (R7.out.below b)
              replace R8 := Lib.hid (R8.out.below b)
              replace XF := Lib.hid (qblk b XF.out)
              replace Xx8 := Lib.hid (qblk b Xx8.out)
              replace Xx10 := Lib.hid (qblk b Xx10.out)
              replace Xx12 := Lib.hid (qblk b Xx12.out)
              replace Xx14 := Lib.hid (qblk b Xx14.out)
              replace Xx16 := Lib.hid (qblk b Xx16.out)
              replace Xx18 := Lib.hid (qblk b Xx18.out)
              replace Xx20 := Lib.hid (qblk b Xx20.out)
              replace Xx22 := Lib.hid (qblk b Xx22.out)
              clear b
              try dsimp only
              refine yK hK ?_
              clear hK K
              refine yM (.tuple #[.agg ((mirrorF (turnF f (-ba))).cells b9 m9), .int .i64 0]) ?_
              refine yM (.agg ((mirrorF (turnF f (-ba))).cells b9 m9)) ?_
              refine yM (.int .i64 0) ?_
              refine yR (fun K hK => ?_)
              refine qbuild (w' := U20.alloc (.cells #[.int .i64 0, .int .i64 0, .int .i64 0, .slice none 0 0] 28)) (.pointer (some ⟨U20.heap.size, 0, none⟩)) (by kernel_rfl) ?_
              obtain ⟨x24, hx24⟩ : ∃ x, Hid (U20.heap.size = x) := ⟨_, Lib.hid rfl⟩
              have AL := Lib.hid (al1 U20 (.cells #[.int .i64 0, .int .i64 0, .int .i64 0, .slice none 0 0] 28))
              rw [hx24.out] at AL ⊢
              refine yK hK ?_
              clear hK K
              refine yR (fun K hK => ?_)
              refine qstore 28 _ _ rfl x24 #[.int .i64 0, .int .i64 0, .int .i64 0, .slice none 0 0] ((mirrorF (turnF f (-ba))).cells b9 m9) 28 rfl rfl AL.out.2 (by exact qJF (mirrorF (turnF f (-ba))) b9 m9) rfl (qone (mirrorF (turnF f (-ba))) b9 m9) ?_
              intro U21 h8 hg8 hs8
              have b : Below U20.heap.size U20 U21 := qstep (by have h1 := AL.out.1; rw [← hx24.out] at h1; exact h1) hg8 (Nat.le_of_eq hx24.out)
              replace BF := Lib.hid (BF.out.trans (b.mono BF.out.size))
              replace HR := Lib.hid (HR.out.below b)
              replace R1 := Lib.hid (R1.out.below b)
              replace R2 := Lib.hid (R2.out.below b)
              replace R3 := Lib.hid (R3.out.below b)
              replace R4 := Lib.hid (R4.out.below b)
              replace R5 := Lib.hid (R5.out.below b)
              replace R6 := Lib.hid (R6.out.below b)
              replace R7 := Lib.hid (R7.out.below b)
              replace R8 := Lib.hid (R8.out.below b)
              replace R9 := Lib.hid (R9.out.below b)
              replace XF := Lib.hid (qblk b XF.out)
              replace Xx8 := Lib.hid (qblk b Xx8.out)
              replace Xx10 := Lib.hid (qblk b Xx10.out)
              replace Xx12 := Lib.hid (qblk b Xx12.out)
              replace Xx14 := Lib.hid (qblk b Xx14.out)
              replace Xx16 := Lib.hid (qblk b Xx16.out)
              replace Xx18 := Lib.hid (qblk b Xx18.out)
              replace Xx20 := Lib.hid (qblk b Xx20.out)
              replace Xx22 := Lib.hid (qblk b Xx22.out)
              clear b
              have Xx24 := Lib.hid h8
              clear h8 hg8 hs8 AL
              refine yK hK ?_
              clear hK K
              refine yM (.int .i64 0) ?_
              refine yE ?_
              go_upto_region 13 with fail
              refine yB ?_
              refine yM (.int .i64 0) ?_
              refine yW (.bool false) ?_
              refine yM (.bool false) ?_
              refine yM (.int .i64 0) ?_
              refine yW (.bool false) ?_
              refine yM (.bool false) ?_
              refine yM (.bool false) ?_
              refine yM (.int .i64 0) ?_
              refine yW (.bool false) ?_
              refine yM (.bool false) ?_
              refine yM (.bool false) ?_
              refine yM (.int .i64 0) ?_
              refine yW (.bool false) ?_
              refine yM (.bool false) ?_
              refine yM (.bool false) ?_
              refine yM (.int .i64 0) ?_
              refine yW (.bool false) ?_
              refine yM (.bool false) ?_
              refine yM (.bool false) ?_
              refine yM (.int .i64 0) ?_
              refine yW (.bool false) ?_
              refine yM (.bool false) ?_
              refine yM (.bool false) ?_
              refine yM (.int .i64 0) ?_
              refine yW (.bool false) ?_
              refine yM (.bool false) ?_
              refine yM (.bool false) ?_
              refine yM (.int .i64 0) ?_
              refine yW (.bool false) ?_
              refine yM (.bool false) ?_
              refine yM (.bool false) ?_
              refine yM (.int .i64 0) ?_
              refine yW (.bool false) ?_
              refine yM (.bool false) ?_
              refine yE ?_
              have TM := Lib.hid (turn_mirror HV.out ba)
              go_upto_region 15 with fail
              refine yB ?_
              refine yW (.agg ((turnF (turnF f ba) bb).cells b2 m2)) ?_ (qyrow (by kernel_rfl) 28 _ rfl x10 rfl _ 28 (0, 0) _ (fun W hW => by rw [hW]; exact Xx10.out) Tryz.underlying28 rfl (by exact (qJF (turnF (turnF f ba) bb) b2 m2)))
              refine yW (.agg ((turnF f (ba + bb)).cells b3 m3)) ?_ (qyrow (by kernel_rfl) 28 _ rfl x12 rfl _ 28 (0, 0) _ (fun W hW => by rw [hW]; exact Xx12.out) Tryz.underlying28 rfl (by exact (qJF (turnF f (ba + bb)) b3 m3)))
              refine yR (fun K hK => ?_)
              go_simp
              refine (same_any (turnF (turnF f ba) bb) (turnF f (ba + bb)) b2 b3 m2 m3 _ R2.out R3.out).mono ?_
              rintro e U22 ⟨rfl, b⟩
              rw [show sameF (turnF (turnF f ba) bb) (turnF f (ba + bb)) = true from decide_eq_true (turn_turn HV.out ba bb)]
              replace BF := Lib.hid (BF.out.trans (b.mono BF.out.size))
              replace HR := Lib.hid (HR.out.below b)
              replace R1 := Lib.hid (R1.out.below b)
              replace R2 := Lib.hid (R2.out.below b)
              replace R3 := Lib.hid (R3.out.below b)
              replace R4 := Lib.hid (R4.out.below b)
              replace R5 := Lib.hid (R5.out.below b)
              replace R6 := Lib.hid (R6.out.below b)
              replace R7 := Lib.hid (R7.out.below b)
              replace R8 := Lib.hid (R8.out.below b)
              replace R9 := Lib.hid (R9.out.below b)
              replace XF := Lib.hid (qblk b XF.out)
              replace Xx8 := Lib.hid (qblk b Xx8.out)
              replace Xx10 := Lib.hid (qblk b Xx10.out)
              replace Xx12 := Lib.hid (qblk b Xx12.out)
              replace Xx14 := Lib.hid (qblk b Xx14.out)
              replace Xx16 := Lib.hid (qblk b Xx16.out)
              replace Xx18 := Lib.hid (qblk b Xx18.out)
              replace Xx20 := Lib.hid (qblk b Xx20.out)
              replace Xx22 := Lib.hid (qblk b Xx22.out)
              replace Xx24 := Lib.hid (qblk b Xx24.out)
              clear b
              try dsimp only
              refine yK hK ?_
              clear hK K
              refine yM (.bool false) ?_
              refine yM (.bool false) ?_
              refine yW (.agg ((turnF f f.sectors).cells b4 m4)) ?_ (qyrow (by kernel_rfl) 28 _ rfl x14 rfl _ 28 (0, 0) _ (fun W hW => by rw [hW]; exact Xx14.out) Tryz.underlying28 rfl (by exact (qJF (turnF f f.sectors) b4 m4)))
              refine yW (.agg (f.cells a n)) ?_ (qyrow (by kernel_rfl) 28 _ rfl p rfl _ 28 (0, 0) _ (fun W hW => by rw [hW]; exact XF.out) Tryz.underlying28 rfl (by exact (qJF f a n)))
              refine yR (fun K hK => ?_)
              go_simp
              refine (same_any (turnF f f.sectors) f b4 a m4 n _ R4.out HR.out).mono ?_
              rintro e U23 ⟨rfl, b⟩
              rw [show sameF (turnF f f.sectors) f = true from decide_eq_true (turn_dvd HV.out (by simp))]
              replace BF := Lib.hid (BF.out.trans (b.mono BF.out.size))
              replace HR := Lib.hid (HR.out.below b)
              replace R1 := Lib.hid (R1.out.below b)
              replace R2 := Lib.hid (R2.out.below b)
              replace R3 := Lib.hid (R3.out.below b)
              replace R4 := Lib.hid (R4.out.below b)
              replace R5 := Lib.hid (R5.out.below b)
              replace R6 := Lib.hid (R6.out.below b)
              replace R7 := Lib.hid (R7.out.below b)
              replace R8 := Lib.hid (R8.out.below b)
              replace R9 := Lib.hid (R9.out.below b)
              replace XF := Lib.hid (qblk b XF.out)
              replace Xx8 := Lib.hid (qblk b Xx8.out)
              replace Xx10 := Lib.hid (qblk b Xx10.out)
              replace Xx12 := Lib.hid (qblk b Xx12.out)
              replace Xx14 := Lib.hid (qblk b Xx14.out)
              replace Xx16 := Lib.hid (qblk b Xx16.out)
              replace Xx18 := Lib.hid (qblk b Xx18.out)
              replace Xx20 := Lib.hid (qblk b Xx20.out)
              replace Xx22 := Lib.hid (qblk b Xx22.out)
              replace Xx24 := Lib.hid (qblk b Xx24.out)
              clear b
              try dsimp only
              refine yK hK ?_
              clear hK K
              refine yM (.bool false) ?_
              refine yM (.bool false) ?_
              refine yM (.bool false) ?_
              refine yW (.agg ((mirrorF (mirrorF f)).cells b6 m6)) ?_ (qyrow (by kernel_rfl) 28 _ rfl x18 rfl _ 28 (0, 0) _ (fun W hW => by rw [hW]; exact Xx18.out) Tryz.underlying28 rfl (by exact (qJF (mirrorF (mirrorF f)) b6 m6)))
              refine yW (.agg (f.cells a n)) ?_ (qyrow (by kernel_rfl) 28 _ rfl p rfl _ 28 (0, 0) _ (fun W hW => by rw [hW]; exact XF.out) Tryz.underlying28 rfl (by exact (qJF f a n)))
              refine yR (fun K hK => ?_)
              go_simp
              refine (same_any (mirrorF (mirrorF f)) f b6 a m6 n _ R6.out HR.out).mono ?_
              rintro e U24 ⟨rfl, b⟩
              rw [show sameF (mirrorF (mirrorF f)) f = true from decide_eq_true (mirror_mirror HV.out)]
              replace BF := Lib.hid (BF.out.trans (b.mono BF.out.size))
              replace HR := Lib.hid (HR.out.below b)
              replace R1 := Lib.hid (R1.out.below b)
              replace R2 := Lib.hid (R2.out.below b)
              replace R3 := Lib.hid (R3.out.below b)
              replace R4 := Lib.hid (R4.out.below b)
              replace R5 := Lib.hid (R5.out.below b)
              replace R6 := Lib.hid (R6.out.below b)
              replace R7 := Lib.hid (R7.out.below b)
              replace R8 := Lib.hid (R8.out.below b)
              replace R9 := Lib.hid (R9.out.below b)
              replace XF := Lib.hid (qblk b XF.out)
              replace Xx8 := Lib.hid (qblk b Xx8.out)
              replace Xx10 := Lib.hid (qblk b Xx10.out)
              replace Xx12 := Lib.hid (qblk b Xx12.out)
              replace Xx14 := Lib.hid (qblk b Xx14.out)
              replace Xx16 := Lib.hid (qblk b Xx16.out)
              replace Xx18 := Lib.hid (qblk b Xx18.out)
              replace Xx20 := Lib.hid (qblk b Xx20.out)
              replace Xx22 := Lib.hid (qblk b Xx22.out)
              replace Xx24 := Lib.hid (qblk b Xx24.out)
              clear b
              try dsimp only
              refine yK hK ?_
              clear hK K
              refine yM (.bool false) ?_
              refine yM (.bool false) ?_
              refine yM (.bool false) ?_
              refine yW (.agg ((turnF (mirrorF f) ba).cells b7 m7)) ?_ (qyrow (by kernel_rfl) 28 _ rfl x20 rfl _ 28 (0, 0) _ (fun W hW => by rw [hW]; exact Xx20.out) Tryz.underlying28 rfl (by exact (qJF (turnF (mirrorF f) ba) b7 m7)))
              refine yW (.agg ((mirrorF (turnF f (-ba))).cells b9 m9)) ?_ (qyrow (by kernel_rfl) 28 _ rfl x24 rfl _ 28 (0, 0) _ (fun W hW => by rw [hW]; exact Xx24.out) Tryz.underlying28 rfl (by exact (qJF (mirrorF (turnF f (-ba))) b9 m9)))
              refine yR (fun K hK => ?_)
              go_simp
              refine (same_any (turnF (mirrorF f) ba) (mirrorF (turnF f (-ba))) b7 b9 m7 m9 _ R7.out R9.out).mono ?_
              rintro e U25 ⟨rfl, b⟩
              rw [show sameF (turnF (mirrorF f) ba) (mirrorF (turnF f (-ba))) = true from decide_eq_true (TM.out)]
              replace BF := Lib.hid (BF.out.trans (b.mono BF.out.size))
              replace HR := Lib.hid (HR.out.below b)
              replace R1 := Lib.hid (R1.out.below b)
              replace R2 := Lib.hid (R2.out.below b)
              replace R3 := Lib.hid (R3.out.below b)
              replace R4 := Lib.hid (R4.out.below b)
              replace R5 := Lib.hid (R5.out.below b)
              replace R6 := Lib.hid (R6.out.below b)
              replace R7 := Lib.hid (R7.out.below b)
              replace R8 := Lib.hid (R8.out.below b)
              replace R9 := Lib.hid (R9.out.below b)
              replace XF := Lib.hid (qblk b XF.out)
              replace Xx8 := Lib.hid (qblk b Xx8.out)
              replace Xx10 := Lib.hid (qblk b Xx10.out)
              replace Xx12 := Lib.hid (qblk b Xx12.out)
              replace Xx14 := Lib.hid (qblk b Xx14.out)
              replace Xx16 := Lib.hid (qblk b Xx16.out)
              replace Xx18 := Lib.hid (qblk b Xx18.out)
              replace Xx20 := Lib.hid (qblk b Xx20.out)
              replace Xx22 := Lib.hid (qblk b Xx22.out)
              replace Xx24 := Lib.hid (qblk b Xx24.out)
              clear b
              try dsimp only
              refine yK hK ?_
              clear hK K
              refine yM (.bool false) ?_
              refine yM (.bool false) ?_
              refine yE ?_
              go_upto_region 17 with fail
              refine yB ?_
              refine yW (.agg (f.cells a n)) ?_ (qyrow (by kernel_rfl) 28 _ rfl p rfl _ 28 (0, 0) _ (fun W hW => by rw [hW]; exact XF.out) Tryz.underlying28 rfl (by exact (qJF f a n)))
              refine yR (fun K hK => ?_)
              go_simp
              refine (regionsP_any f a n _ HR.out).mono ?_
              rintro e U26 ⟨⟨c17, d17, rfl, ll⟩, b⟩
              clear ll
              replace BF := Lib.hid (BF.out.trans (b.mono BF.out.size))
              replace HR := Lib.hid (HR.out.below b)
              replace R1 := Lib.hid (R1.out.below b)
              replace R2 := Lib.hid (R2.out.below b)
              replace R3 := Lib.hid (R3.out.below b)
              replace R4 := Lib.hid (R4.out.below b)
              replace R5 := Lib.hid (R5.out.below b)
              replace R6 := Lib.hid (R6.out.below b)
              replace R7 := Lib.hid (R7.out.below b)
              replace R8 := Lib.hid (R8.out.below b)
              replace R9 := Lib.hid (R9.out.below b)
              replace XF := Lib.hid (qblk b XF.out)
              replace Xx8 := Lib.hid (qblk b Xx8.out)
              replace Xx10 := Lib.hid (qblk b Xx10.out)
              replace Xx12 := Lib.hid (qblk b Xx12.out)
              replace Xx14 := Lib.hid (qblk b Xx14.out)
              replace Xx16 := Lib.hid (qblk b Xx16.out)
              replace Xx18 := Lib.hid (qblk b Xx18.out)
              replace Xx20 := Lib.hid (qblk b Xx20.out)
              replace Xx22 := Lib.hid (qblk b Xx22.out)
              replace Xx24 := Lib.hid (qblk b Xx24.out)
              clear b
              rw [show (regionsP f).2 = 0 by unfold regionsP; rw [if_pos HV.out]]
              obtain ⟨N1, hN1⟩ : ∃ x, Hid ((regionsP f).1.length = x) := ⟨_, Lib.hid rfl⟩
              rw [hN1.out]
              try dsimp only
              refine yK hK ?_
              clear hK K
              refine yM (.tuple #[.slice c17 N1 d17, .int .i64 0]) ?_
              refine yM (.slice c17 N1 d17) ?_
              refine yM (.int .i64 0) ?_
              refine yM (.slice c17 N1 d17) ?_
              refine yM (.int .i64 0) ?_
              refine yE ?_
              go_upto_region 18 with fail
              refine yB ?_
              refine yW (.agg ((turnF f ba).cells b1 m1)) ?_ (qyrow (by kernel_rfl) 28 _ rfl x8 rfl _ 28 (0, 0) _ (fun W hW => by rw [hW]; exact Xx8.out) Tryz.underlying28 rfl (by exact (qJF (turnF f ba) b1 m1)))
              refine yR (fun K hK => ?_)
              go_simp
              refine (regionsP_any (turnF f ba) b1 m1 _ R1.out).mono ?_
              rintro e U27 ⟨⟨c18, d18, rfl, ll⟩, b⟩
              clear ll
              replace BF := Lib.hid (BF.out.trans (b.mono BF.out.size))
              replace HR := Lib.hid (HR.out.below b)
              replace R1 := Lib.hid (R1.out.below b)
              replace R2 := Lib.hid (R2.out.below b)
              replace R3 := Lib.hid (R3.out.below b)
              replace R4 := Lib.hid (R4.out.below b)
              replace R5 := Lib.hid (R5.out.below b)
              replace R6 := Lib.hid (R6.out.below b)
              replace R7 := Lib.hid (R7.out.below b)
              replace R8 := Lib.hid (R8.out.below b)
              replace R9 := Lib.hid (R9.out.below b)
              replace XF := Lib.hid (qblk b XF.out)
              replace Xx8 := Lib.hid (qblk b Xx8.out)
              replace Xx10 := Lib.hid (qblk b Xx10.out)
              replace Xx12 := Lib.hid (qblk b Xx12.out)
              replace Xx14 := Lib.hid (qblk b Xx14.out)
              replace Xx16 := Lib.hid (qblk b Xx16.out)
              replace Xx18 := Lib.hid (qblk b Xx18.out)
              replace Xx20 := Lib.hid (qblk b Xx20.out)
              replace Xx22 := Lib.hid (qblk b Xx22.out)
              replace Xx24 := Lib.hid (qblk b Xx24.out)
              clear b
              rw [show (regionsP (turnF f ba)).2 = 0 by unfold regionsP; rw [if_pos VX.out]]
              obtain ⟨N2, hN2⟩ : ∃ x, Hid ((regionsP (turnF f ba)).1.length = x) := ⟨_, Lib.hid rfl⟩
              rw [hN2.out]
              try dsimp only
              refine yK hK ?_
              clear hK K
              refine yM (.tuple #[.slice c18 N2 d18, .int .i64 0]) ?_
              refine yM (.slice c18 N2 d18) ?_
              refine yM (.int .i64 0) ?_
              refine yM (.slice c18 N2 d18) ?_
              refine yM (.int .i64 0) ?_
              refine yE ?_
              go_upto_region 19 with fail
              refine yB ?_
              refine yW (.agg (f.cells a n)) ?_ (qyrow (by kernel_rfl) 28 _ rfl p rfl _ 28 (0, 0) _ (fun W hW => by rw [hW]; exact XF.out) Tryz.underlying28 rfl (by exact (qJF f a n)))
              refine yR (fun K hK => ?_)
              go_simp
              refine (deadP_any f a n _ HR.out).mono ?_
              rintro e U28 ⟨⟨c19, d19, rfl, ll⟩, b⟩
              clear ll
              replace BF := Lib.hid (BF.out.trans (b.mono BF.out.size))
              replace HR := Lib.hid (HR.out.below b)
              replace R1 := Lib.hid (R1.out.below b)
              replace R2 := Lib.hid (R2.out.below b)
              replace R3 := Lib.hid (R3.out.below b)
              replace R4 := Lib.hid (R4.out.below b)
              replace R5 := Lib.hid (R5.out.below b)
              replace R6 := Lib.hid (R6.out.below b)
              replace R7 := Lib.hid (R7.out.below b)
              replace R8 := Lib.hid (R8.out.below b)
              replace R9 := Lib.hid (R9.out.below b)
              replace XF := Lib.hid (qblk b XF.out)
              replace Xx8 := Lib.hid (qblk b Xx8.out)
              replace Xx10 := Lib.hid (qblk b Xx10.out)
              replace Xx12 := Lib.hid (qblk b Xx12.out)
              replace Xx14 := Lib.hid (qblk b Xx14.out)
              replace Xx16 := Lib.hid (qblk b Xx16.out)
              replace Xx18 := Lib.hid (qblk b Xx18.out)
              replace Xx20 := Lib.hid (qblk b Xx20.out)
              replace Xx22 := Lib.hid (qblk b Xx22.out)
              replace Xx24 := Lib.hid (qblk b Xx24.out)
              clear b
              rw [show (deadP f).2 = 0 by unfold deadP; rw [if_pos HV.out]]
              obtain ⟨N3, hN3⟩ : ∃ x, Hid ((deadP f).1.length = x) := ⟨_, Lib.hid rfl⟩
              rw [hN3.out]
              try dsimp only
              refine yK hK ?_
              clear hK K
              refine yM (.tuple #[.slice c19 N3 d19, .int .i64 0]) ?_
              refine yM (.slice c19 N3 d19) ?_
              refine yM (.int .i64 0) ?_
              refine yM (.slice c19 N3 d19) ?_
              refine yM (.int .i64 0) ?_
              refine yE ?_
              go_upto_region 20 with fail
              refine yB ?_
              refine yW (.agg ((turnF f ba).cells b1 m1)) ?_ (qyrow (by kernel_rfl) 28 _ rfl x8 rfl _ 28 (0, 0) _ (fun W hW => by rw [hW]; exact Xx8.out) Tryz.underlying28 rfl (by exact (qJF (turnF f ba) b1 m1)))
              refine yR (fun K hK => ?_)
              go_simp
              refine (deadP_any (turnF f ba) b1 m1 _ R1.out).mono ?_
              rintro e U29 ⟨⟨c20, d20, rfl, ll⟩, b⟩
              clear ll
              replace BF := Lib.hid (BF.out.trans (b.mono BF.out.size))
              replace HR := Lib.hid (HR.out.below b)
              replace R1 := Lib.hid (R1.out.below b)
              replace R2 := Lib.hid (R2.out.below b)
              replace R3 := Lib.hid (R3.out.below b)
              replace R4 := Lib.hid (R4.out.below b)
              replace R5 := Lib.hid (R5.out.below b)
              replace R6 := Lib.hid (R6.out.below b)
              replace R7 := Lib.hid (R7.out.below b)
              replace R8 := Lib.hid (R8.out.below b)
              replace R9 := Lib.hid (R9.out.below b)
              replace XF := Lib.hid (qblk b XF.out)
              replace Xx8 := Lib.hid (qblk b Xx8.out)
              replace Xx10 := Lib.hid (qblk b Xx10.out)
              replace Xx12 := Lib.hid (qblk b Xx12.out)
              replace Xx14 := Lib.hid (qblk b Xx14.out)
              replace Xx16 := Lib.hid (qblk b Xx16.out)
              replace Xx18 := Lib.hid (qblk b Xx18.out)
              replace Xx20 := Lib.hid (qblk b Xx20.out)
              replace Xx22 := Lib.hid (qblk b Xx22.out)
              replace Xx24 := Lib.hid (qblk b Xx24.out)
              clear b
              rw [show (deadP (turnF f ba)).2 = 0 by unfold deadP; rw [if_pos VX.out]]
              obtain ⟨N4, hN4⟩ : ∃ x, Hid ((deadP (turnF f ba)).1.length = x) := ⟨_, Lib.hid rfl⟩
              rw [hN4.out]
              try dsimp only
              refine yK hK ?_
              clear hK K
              refine yM (.tuple #[.slice c20 N4 d20, .int .i64 0]) ?_
              refine yM (.slice c20 N4 d20) ?_
              refine yM (.int .i64 0) ?_
              refine yM (.slice c20 N4 d20) ?_
              refine yM (.int .i64 0) ?_
              refine yE ?_
              have TC := turn_counts HV.out ba
              have E1 : N1 = N2 := by
                rw [← hN1.out, ← hN2.out]
                unfold regionsP
                rw [if_pos HV.out, if_pos VX.out]
                exact TC.1.symm
              have E2 : N3 = N4 := by
                rw [← hN3.out, ← hN4.out]
                unfold deadP
                rw [if_pos HV.out, if_pos VX.out]
                exact TC.2.symm
              clear TC hN1 hN2 hN3 hN4
              subst E1
              subst E2
              go_upto_region 21 with fail
              refine yB ?_
              refine yM (.bool true) ?_
              refine yM (.bool true) ?_
              refine yM (.int .i64 0) ?_
              refine yW (.bool true) ?_
              refine yM (.bool true) ?_
              refine yM (.bool true) ?_
              refine yM (.int .i64 0) ?_
              refine yW (.bool true) ?_
              refine yM (.bool true) ?_
              refine yM (.bool true) ?_
              refine yM (.int .i64 0) ?_
              refine yW (.bool true) ?_
              refine yM (.bool true) ?_
              refine yM (.bool true) ?_
              refine yM (.int .i64 0) ?_
              refine yW (.bool true) ?_
              refine yM (.bool true) ?_
              refine yM (.bool true) ?_
              refine yM (.slice c17 N1 d17) ?_
              refine yW (.int .i64 (N1 : Int)) ?_
              refine yM (.slice c18 N1 d18) ?_
              refine yW (.int .i64 (N1 : Int)) ?_
              refine yW (.bool true) ?_
              refine yM (.bool true) ?_
              refine yM (.bool true) ?_
              refine yM (.slice c19 N3 d19) ?_
              refine yW (.int .i64 (N3 : Int)) ?_
              refine yM (.slice c20 N3 d20) ?_
              refine yW (.int .i64 (N3 : Int)) ?_
              refine yW (.bool true) ?_
              refine yM (.bool true) ?_
              refine yM (.bool true) ?_
              refine yE ?_
              go_wp2_with fail
              go_ret
              exact ⟨rfl, BF.out⟩
            · refine yW (.bool true) ?_ 
              refine yM (.bool true) ?_
              refine yE ?_
              go_wp2_with fail
              go_ret
              exact ⟨rfl, BF.out⟩
          · refine yW (.bool true) ?_ 
            refine yM (.bool true) ?_
            refine yM (.bool true) ?_
            go_skip
            refine yM (.bool true) ?_
            refine yE ?_
            go_wp2_with fail
            go_ret
            exact ⟨rfl, BF.out⟩
        · refine yW (.bool true) ?_ 
          refine yM (.bool true) ?_
          refine yM (.bool true) ?_
          go_skip
          refine yM (.bool true) ?_
          refine yM (.bool true) ?_
          go_skip
          refine yM (.bool true) ?_
          refine yE ?_
          go_wp2_with fail
          go_ret
          exact ⟨rfl, BF.out⟩
      · refine yW (.bool true) ?_ 
        refine yM (.bool true) ?_
        refine yM (.bool true) ?_
        go_skip
        refine yM (.bool true) ?_
        refine yM (.bool true) ?_
        go_skip
        refine yM (.bool true) ?_
        refine yM (.bool true) ?_
        go_skip
        refine yM (.bool true) ?_
        refine yE ?_
        go_wp2_with fail
        go_ret
        exact ⟨rfl, BF.out⟩
end Go.Proofs.YtmpkglokhchpiaaGreatDoor
namespace Go.Proofs.YtmpkglokhchpiaaGreatDoor
set_option linter.unusedSimpArgs false
set_option linter.unusedVariables false
open Go.RowKit

def drainsB (f : FaceV) : Bool := decide ((deadP f).2 = 0) && decide ((deadP f).1.length = 0)
set_option maxHeartbeats 4000000 in
set_option maxRecDepth 100000 in
theorem drainsP_any (f : FaceV) (a : Option Addr) (n : Nat) (w : World) (hr : RdI w a f.kinds.length n f.kinds) :
    Calls Tryz.prog 42 #[.agg (f.cells a n)] w fun e w' => e = .returned (.tuple #[.bool (drainsB f), .int .i64 (deadP f).2]) ∧ Below w.heap.size w w' := by
  have HR := Lib.hid hr
  clear hr
  have AL := Lib.hid (al1 w (.cells (f.cells a n) 28))
  go_enter Tryz.func42, Tryz.ntmps42
  go_upto_region 1 with fail
  obtain ⟨p, hp⟩ : ∃ p, Hid (w.heap.size = p) := ⟨_, Lib.hid rfl⟩
  rw [hp.out] at AL ⊢
  generalize (w.alloc (.cells (f.cells a n) 28)) = W0 at *
  have BF : Hid (Below w.heap.size w W0) := Lib.hid (by rw [hp.out]; exact AL.out.1)
  have XF : Hid (W0.heap[p]? = some (.cells (f.cells a n) 28 (0, 0))) := Lib.hid AL.out.2
  clear AL
  have c0 := qcell XF.out 0 (.int .i64 f.eye) rfl
  have c1 := qcell XF.out 1 (.int .i64 f.rings) rfl
  have c2 := qcell XF.out 2 (.int .i64 f.sectors) rfl
  have c3 := qcell XF.out 3 (.slice a f.kinds.length n) rfl
  clear c0 c1 c2 c3
  replace HR := Lib.hid (HR.out.below BF.out)
  go_upto_region 1 with fail
  refine yB ?_
  refine yW (.agg (f.cells a n)) ?_ (qyrow (by kernel_rfl) 28 _ rfl p rfl _ 28 (0, 0) _ (fun W hW => by rw [hW]; exact XF.out) Tryz.underlying28 rfl (by exact (qJF f a n)))
  refine yR (fun K hK => ?_)
  go_simp
  refine (deadP_any f a n _ HR.out).mono ?_
  rintro e U1 ⟨⟨b1, m1, rfl, own⟩, b⟩
  replace BF := Lib.hid (BF.out.trans (b.mono BF.out.size))
  replace HR := Lib.hid (HR.out.below b)
  replace XF := Lib.hid (qblk b XF.out)
  clear b
  clear own
  obtain ⟨N, hN⟩ : ∃ x, Hid ((deadP f).1.length = x) := ⟨_, Lib.hid rfl⟩
  obtain ⟨E, hE⟩ : ∃ x, Hid ((deadP f).2 = x) := ⟨_, Lib.hid rfl⟩
  rw [hN.out, hE.out]
  have DB : Hid (drainsB f = (decide (E = 0) && decide (N = 0))) := Lib.hid (by unfold drainsB; rw [hE.out, hN.out])
  try dsimp only
  refine yK hK ?_
  clear hK K
  refine yM (.tuple #[.slice b1 N m1, .int .i64 E]) ?_
  refine yM (.slice b1 N m1) ?_
  refine yM (.int .i64 E) ?_
  refine yM (.slice b1 N m1) ?_
  refine yM (.int .i64 E) ?_
  refine yE ?_
  go_upto_region 2 with fail
  refine yB ?_
  refine yM (.int .i64 E) ?_
  cases h1 : decide (E = 0)
  · refine yW (.bool false) ?_ (.inl ⟨by kernel_rfl, by intro W hW; rw [hW]; have h2 : (E == 0) = _ := h1; go_simp⟩) 
    refine yM (.bool false) ?_
    go_skip
    refine yM (.bool false) ?_
    refine yM (.int .i64 E) ?_
    refine yM (.bool false) ?_
    refine yM (.int .i64 E) ?_
    refine yE ?_
    have DV : Hid (drainsB f = false) := Lib.hid (by rw [DB.out]; simp only [h1]; rfl)
    go_wp2_with fail
    go_ret2
    rw [DV.out, hE.out]
    exact ⟨rfl, BF.out⟩
  · refine yW (.bool true) ?_ (.inl ⟨by kernel_rfl, by intro W hW; rw [hW]; have h2 : (E == 0) = _ := h1; go_simp⟩) 
    refine yM (.bool true) ?_
    refine yM (.slice b1 N m1) ?_
    refine yW (.int .i64 (N : Int)) ?_
    cases h2 : decide (N = 0)
    · refine yW (.bool false) ?_ (.inl ⟨by kernel_rfl, by intro W hW; rw [hW]; go_simp; simpa using h2⟩) 
      refine yM (.bool false) ?_
      refine yM (.int .i64 E) ?_
      refine yM (.bool false) ?_
      refine yM (.int .i64 E) ?_
      refine yE ?_
      have DV : Hid (drainsB f = false) := Lib.hid (by rw [DB.out]; simp only [h1, h2]; rfl)
      go_wp2_with fail
      go_ret2
      rw [DV.out, hE.out]
      exact ⟨rfl, BF.out⟩
    · refine yW (.bool true) ?_ (.inl ⟨by kernel_rfl, by intro W hW; rw [hW]; go_simp; simpa using h2⟩) 
      refine yM (.bool true) ?_
      refine yM (.int .i64 E) ?_
      refine yM (.bool true) ?_
      refine yM (.int .i64 E) ?_
      refine yE ?_
      have DV : Hid (drainsB f = true) := Lib.hid (by rw [DB.out]; simp only [h1, h2]; rfl)
      go_wp2_with fail
      go_ret2
      rw [DV.out, hE.out]
      exact ⟨rfl, BF.out⟩
end Go.Proofs.YtmpkglokhchpiaaGreatDoor
