/- Parts of the proof, in this order: Same of the reference; Rows of ints of the call's own, as values; within, Place, Valid, Has, asked, Number, Round, Weight of the reference; At, Index, CellOf, copied, Set of the reference; A row that is written from its beginning on, plain; turned, Turn, Mirror of the reference; less of the reference; Normal of the reference; Turns, Period of the reference. -/
import Derived.Test.YtimmadkbkimonaaGreatDoorKPso5
set_option linter.unusedSimpArgs false
set_option linter.unusedVariables false
open List renaming getElem_toArray → lq0, getElem_cons_succ → lq1, getElem_cons_zero → lq2, setIfInBounds_toArray → lq3, set_cons_zero → lq4, set_cons_succ → lq5
namespace Go.Proofs.YtimmadkbkimonaaGreatDoor
set_option linter.unusedSimpArgs false
set_option linter.unusedVariables false
open Go.RowKit

set_option maxHeartbeats 4000000 in
set_option maxRecDepth 100000 in
theorem rsame_any (f : FaceV) (a : Option Addr) (n : Nat) (g : FaceV) (b : Option Addr) (m : Nat) (w : World) (hr : RdI w a f.kinds.length n f.kinds) (hg : RdI w b g.kinds.length m g.kinds) :
    Calls Tryz.prog 16 #[.agg (f.cells a n), .agg (g.cells b m)] w fun e w' => e = .returned (.bool (sameF f g)) ∧ Below w.heap.size w w' := by
  have HR := Lib.hid hr
  have HG := Lib.hid hg
  clear hr hg
  have AL := Lib.hid (al2 w (.cells (f.cells a n) 28) (.cells (g.cells b m) 28))
  go_enter Tryz.func16, Tryz.ntmps16
  go_upto_region 1 with fail
  obtain ⟨p, hp⟩ : ∃ p, Hid (w.heap.size = p) := ⟨_, Lib.hid rfl⟩
  obtain ⟨q, hq⟩ : ∃ q, Hid (w.heap.size + 1 = q) := ⟨_, Lib.hid rfl⟩
  rw [hq.out] at AL ⊢
  rw [hp.out] at AL ⊢
  generalize ((w.alloc (.cells (f.cells a n) 28)).alloc (.cells (g.cells b m) 28)) = W0 at *
  have BF : Hid (Below w.heap.size w W0) := Lib.hid (by rw [hp.out]; exact AL.out.1)
  have XF : Hid (W0.heap[p]? = some (.cells (f.cells a n) 28 (0, 0))) := Lib.hid AL.out.2.1
  have XG : Hid (W0.heap[q]? = some (.cells (g.cells b m) 28 (0, 0))) := Lib.hid AL.out.2.2
  clear AL
  have c0 := qcell XF.out 0 (.int .i64 f.eye) rfl
  have c1 := qcell XF.out 1 (.int .i64 f.rings) rfl
  have c2 := qcell XF.out 2 (.int .i64 f.sectors) rfl
  have c3 := qcell XF.out 3 (.slice a f.kinds.length n) rfl
  have d0 := qcell XG.out 0 (.int .i64 g.eye) rfl
  have d1 := qcell XG.out 1 (.int .i64 g.rings) rfl
  have d2 := qcell XG.out 2 (.int .i64 g.sectors) rfl
  have d3 := qcell XG.out 3 (.slice b g.kinds.length m) rfl
  clear c0 c1 c2 c3 d0 d1 d2 d3
  replace HR := Lib.hid (HR.out.below BF.out)
  replace HG := Lib.hid (HG.out.below BF.out)
  go_upto_region 1 with fail
  refine yB ?_
  refine yW (.pointer (some ⟨p, 0, none⟩)) ?_
  refine yW (.int .i64 f.eye) ?_ (.inl ⟨by kernel_rfl, by intro W hW; rw [hW]; have c := qcell XF.out 0 (.int .i64 f.eye) rfl; go_simp⟩)
  refine yW (.pointer (some ⟨q, 0, none⟩)) ?_
  refine yW (.int .i64 g.eye) ?_ (.inl ⟨by kernel_rfl, by intro W hW; rw [hW]; have c := qcell XG.out 0 (.int .i64 g.eye) rfl; go_simp⟩)
  cases h1 : decide (f.eye = g.eye)
  · have SN : Hid (sameF f g = false) := Lib.hid (by unfold sameF; rw [decide_eq_false_iff_not]; intro e; subst e; simp at h1)
    refine yW (.bool false) ?_ (.inl ⟨by kernel_rfl, by intro W hW; rw [hW]; go_simp; simpa using h1⟩)
    refine yM (.bool false) ?_
    go_skip
    refine yM (.bool false) ?_
    refine yM (.bool false) ?_
    go_skip
    refine yM (.bool false) ?_
    refine yM (.bool false) ?_
    go_skip
    refine yM (.bool false) ?_
    refine yM (.bool false) ?_
    refine yE ?_
    go_wp2_with fail
    go_ret
    exact ⟨by rw [SN.out]; rfl, BF.out⟩
  · refine yW (.bool true) ?_ (.inl ⟨by kernel_rfl, by intro W hW; rw [hW]; go_simp; simpa using h1⟩)
    refine yM (.bool true) ?_
    refine yW (.pointer (some ⟨p, 1, none⟩)) ?_
    refine yW (.int .i64 f.rings) ?_ (.inl ⟨by kernel_rfl, by intro W hW; rw [hW]; have c := qcell XF.out 1 (.int .i64 f.rings) rfl; go_simp⟩)
    refine yW (.pointer (some ⟨q, 1, none⟩)) ?_
    refine yW (.int .i64 g.rings) ?_ (.inl ⟨by kernel_rfl, by intro W hW; rw [hW]; have c := qcell XG.out 1 (.int .i64 g.rings) rfl; go_simp⟩)
    cases h2 : decide (f.rings = g.rings)
    · have SN : Hid (sameF f g = false) := Lib.hid (by unfold sameF; rw [decide_eq_false_iff_not]; intro e; subst e; simp at h2)
      refine yW (.bool false) ?_ (.inl ⟨by kernel_rfl, by intro W hW; rw [hW]; go_simp; simpa using h2⟩)
      refine yM (.bool false) ?_
      refine yM (.bool false) ?_
      go_skip
      refine yM (.bool false) ?_
      refine yM (.bool false) ?_
      go_skip
      refine yM (.bool false) ?_
      refine yM (.bool false) ?_
      refine yE ?_
      go_wp2_with fail
      go_ret
      exact ⟨by rw [SN.out]; rfl, BF.out⟩
    · refine yW (.bool true) ?_ (.inl ⟨by kernel_rfl, by intro W hW; rw [hW]; go_simp; simpa using h2⟩)
      refine yM (.bool true) ?_
      refine yM (.bool true) ?_
      refine yW (.pointer (some ⟨p, 2, none⟩)) ?_
      refine yW (.int .i64 f.sectors) ?_ (.inl ⟨by kernel_rfl, by intro W hW; rw [hW]; have c := qcell XF.out 2 (.int .i64 f.sectors) rfl; go_simp⟩)
      refine yW (.pointer (some ⟨q, 2, none⟩)) ?_
      refine yW (.int .i64 g.sectors) ?_ (.inl ⟨by kernel_rfl, by intro W hW; rw [hW]; have c := qcell XG.out 2 (.int .i64 g.sectors) rfl; go_simp⟩)
      cases h3 : decide (f.sectors = g.sectors)
      · have SN : Hid (sameF f g = false) := Lib.hid (by unfold sameF; rw [decide_eq_false_iff_not]; intro e; subst e; simp at h3)
        refine yW (.bool false) ?_ (.inl ⟨by kernel_rfl, by intro W hW; rw [hW]; go_simp; simpa using h3⟩)
        refine yM (.bool false) ?_
        refine yM (.bool false) ?_
        go_skip
        refine yM (.bool false) ?_
        refine yM (.bool false) ?_
        refine yE ?_
        go_wp2_with fail
        go_ret
        exact ⟨by rw [SN.out]; rfl, BF.out⟩
      · refine yW (.bool true) ?_ (.inl ⟨by kernel_rfl, by intro W hW; rw [hW]; go_simp; simpa using h3⟩)
        refine yM (.bool true) ?_
        refine yM (.bool true) ?_
        refine yW (.pointer (some ⟨p, 3, none⟩)) ?_
        refine yW (.slice a f.kinds.length n) ?_ (.inl ⟨by kernel_rfl, by intro W hW; rw [hW]; have c := qcell XF.out 3 (.slice a f.kinds.length n) rfl; go_simp⟩)
        refine yW (.pointer (some ⟨q, 3, none⟩)) ?_
        refine yW (.slice b g.kinds.length m) ?_ (.inl ⟨by kernel_rfl, by intro W hW; rw [hW]; have c := qcell XG.out 3 (.slice b g.kinds.length m) rfl; go_simp⟩)
        refine yR (fun K hK => ?_)
        go_simp
        refine (sameInts2_any a f.kinds.length n f.kinds b g.kinds.length m g.kinds _ HR.out HG.out).mono ?_
        rintro e U1 ⟨rfl, b⟩
        replace BF := Lib.hid (BF.out.trans (b.mono BF.out.size))
        replace HR := Lib.hid (HR.out.below b)
        replace HG := Lib.hid (HG.out.below b)
        replace XF := Lib.hid (qblk b XF.out)
        replace XG := Lib.hid (qblk b XG.out)
        clear b
        cases h4 : decide (f.kinds = g.kinds)
        · have SN : Hid (sameF f g = false) := Lib.hid (by unfold sameF; rw [decide_eq_false_iff_not]; intro e; subst e; simp at h4)
          try dsimp only
          refine yK hK ?_
          clear hK K
          refine yM (.bool false) ?_
          refine yM (.bool false) ?_
          refine yE ?_
          go_wp2_with fail
          go_ret
          exact ⟨by rw [SN.out]; rfl, BF.out⟩
        · have SN : Hid (sameF f g = true) := Lib.hid (by unfold sameF; rw [decide_eq_true_eq]; simp only [decide_eq_true_eq] at h1 h2 h3 h4; cases f; cases g; simp_all)
          try dsimp only
          refine yK hK ?_
          clear hK K
          refine yM (.bool true) ?_
          refine yM (.bool true) ?_
          refine yE ?_
          go_wp2_with fail
          go_ret
          exact ⟨by rw [SN.out]; rfl, BF.out⟩
end Go.Proofs.YtimmadkbkimonaaGreatDoor
namespace Go.Proofs.YtimmadkbkimonaaGreatDoor
set_option linter.unusedSimpArgs false
set_option linter.unusedVariables false
open Go.RowKit

def OwnI (w W : World) (a : Option Addr) (N n : Nat) (l : List Int) : Prop := W.ownsRow w.heap.size 3 1 (.slice a N n) N (l.map intV)
theorem OwnI.below {w W W' : World} {a : Option Addr} {N n : Nat} {l : List Int} (h : OwnI w W a N n l) (hb : Below W.heap.size W W') : OwnI w W' a N n l := own_below h hb
theorem OwnI.mono {w V W : World} {a : Option Addr} {N n : Nat} {l : List Int} (h : OwnI V W a N n l) (hb : w.heap.size ≤ V.heap.size) : OwnI w W a N n l := own_mono h hb
theorem OwnI.kept {w W W' : World} {a : Option Addr} {N n p : Nat} {l : List Int} {A : Array Value} {t : TypeId} (h : OwnI w W a N n l) (hg : W.grownBy W' (some p)) (hp : W.heap[p]? = some (.cells A t (0, 0))) (ht : t ≠ 3) : OwnI w W' a N n l :=
  World.ownsRow.kept h hg (.inr (qown_no h hp (fun cur e => ht (by cases e; rfl))).symm)
theorem OwnI.len {w W : World} {a : Option Addr} {N n : Nat} {l : List Int} (h : OwnI w W a N n l) : l.length = N := by have := h.1; simpa using this
theorem OwnI.rd {w W : World} {a : Option Addr} {N n : Nat} {l : List Int} (h : OwnI w W a N n l) : RdI W a N n l := RdA.of_own h
theorem OwnI.at {w W : World} {a : Option Addr} {N n i : Nat} {l : List Int} (h : OwnI w W a N n l) (hi : i < N) : ∃ g, a = some ⟨g, 0, none⟩ := by
  rcases h.2 with ⟨h1, h2⟩ | ⟨g', cap, cur, h1, _⟩
  · omega
  · simp only [Value.slice.injEq] at h1; exact ⟨g', h1.1⟩
theorem OwnI.put {w W : World} {g N n i : Nat} {l : List Int} (h : OwnI w W (some ⟨g, 0, none⟩) N n l) (hi : i < N) (v : Int) (hw : w.heap.size ≤ W.heap.size) :
    OwnI w (W.setCell ⟨g, i, none⟩ (.int .i64 v)) (some ⟨g, 0, none⟩) N n (l.set i v) ∧ W.cell? ⟨g, i, none⟩ = some (.int .i64 (l[i]?.getD 0)) ∧ W.frozen? ⟨g, i, none⟩ = false ∧ KeptBut w.heap.size W (W.setCell ⟨g, i, none⟩ (.int .i64 v)) := by
  obtain ⟨cur, hc⟩ := own_block h
  obtain ⟨o1, o2, o3, o4⟩ := own_put h hi v
  exact ⟨o1, o2, o3, kept_put hc o4 hw⟩
end Go.Proofs.YtimmadkbkimonaaGreatDoor
namespace Go.Proofs.YtimmadkbkimonaaGreatDoor
set_option linter.unusedSimpArgs false
set_option linter.unusedVariables false
open Go.RowKit

set_option maxHeartbeats 4000000 in
set_option maxRecDepth 100000 in
theorem rwithin_any (x lo hi : Int) (w : World) : Calls Tryz.prog 72 #[.int .i64 x, .int .i64 lo, .int .i64 hi] w fun e w' => e = .returned (.bool (inB x lo hi)) ∧ w' = w := by
  by_cases h1 : lo ≤ x
  · have t1 : decide (lo ≤ x) = true := by simp; omega
    by_cases h2 : x ≤ hi
    · have t2 : decide (x ≤ hi) = true := by simp; omega
      have t3 : inB x lo hi = true := inB_true.2 ⟨h1, h2⟩
      rw [t3]; clear t3
      go_enter Tryz.func72, Tryz.ntmps72
      go_wp2_with fail
      go_ret
      exact ⟨rfl, rfl⟩
    · have t2 : decide (x ≤ hi) = false := by simp; omega
      have t3 : inB x lo hi = false := inB_false.2 (fun h => h2 h.2)
      rw [t3]; clear t3
      go_enter Tryz.func72, Tryz.ntmps72
      go_wp2_with fail
      go_ret
      exact ⟨rfl, rfl⟩
  · have t1 : decide (lo ≤ x) = false := by simp; omega
    have t3 : inB x lo hi = false := inB_false.2 (fun h => h1 h.1)
    rw [t3]; clear t3
    go_enter Tryz.func72, Tryz.ntmps72
    go_wp2_with fail
    go_ret
    exact ⟨rfl, rfl⟩
set_option maxHeartbeats 4000000 in
set_option maxRecDepth 100000 in
theorem rplace_any (f : FaceV) (a : Option Addr) (c : Nat) (i : Int) (w : World) (hs : 1 ≤ f.sectors ∧ f.sectors ≤ 1000000) (hi : 0 ≤ i ∧ i ≤ 9223372036854775807) :
    Calls Tryz.prog 92 #[.agg (f.cells a c), .int .i64 i] w fun e w' => e = .returned (.agg #[.int .i64 (cellF f i).1, .int .i64 (cellF f i).2]) ∧ Below w.heap.size w w' := by
  have J2 := Lib.hid (show ∀ x y : Value, (Tryz.prog.info? 41).map (·.size) = some (#[x, y] : Array Value).size from fun x y => by kernel_rfl)
  have B0 := Lib.hid (((Below.refl w.heap.size w).alloc (Nat.le_refl _) (.cells (f.cells a c) 28)).alloc (by simp) (.cells #[.int .i64 0, .int .i64 0] 41))
  have X0 := Lib.hid (qblk ((Below.refl _ _).alloc (Nat.le_refl _) (.cells #[.int .i64 0, .int .i64 0] 41)) (qlast w (.cells (f.cells a c) 28)))
  have R0 := Lib.hid (qat (w.alloc (.cells (f.cells a c) 28)) (.cells #[.int .i64 0, .int .i64 0] 41) (w.heap.size + 1) (by simp))
  have NE := Lib.hid (show ¬ f.sectors = 0 by omega)
  have D1 := Lib.hid (show wrap64 (i.tdiv f.sectors) = i / f.sectors by
    rw [Int.tdiv_eq_ediv_of_nonneg hi.1]
    have h1 : 0 ≤ i / f.sectors := Int.ediv_nonneg hi.1 (by omega)
    have h2 : i / f.sectors ≤ i := Int.ediv_le_self _ hi.1
    unfold wrap64
    omega)
  have D2 := Lib.hid (show i.tmod f.sectors = i % f.sectors from Int.tmod_eq_emod_of_nonneg hi.1)
  clear hs hi
  go_enter Tryz.func92, Tryz.ntmps92
  go_upto_region 1 with fail
  obtain ⟨p, hp⟩ : ∃ p, Hid (w.heap.size = p) := ⟨_, Lib.hid rfl⟩
  obtain ⟨q, hq⟩ : ∃ q, Hid (w.heap.size + 1 = q) := ⟨_, Lib.hid rfl⟩
  rw [hq.out] at R0 ⊢
  rw [hp.out] at X0 ⊢
  generalize (w.alloc (.cells (f.cells a c) 28)).alloc (.cells #[.int .i64 0, .int .i64 0] 41) = W0 at *
  have hd : Below W0.heap.size W0 W0.drew := (Below.refl _ _).drew
  have Q0 := Lib.hid (qblk hd R0.out)
  have NQ : Hid (p ≠ q) := Lib.hid (by have := hp.out; have := hq.out; omega)
  have GE : Hid (w.heap.size ≤ q) := Lib.hid (by have := hq.out; omega)
  refine zD (fun W => Below w.heap.size w W ∧ W.heap[p]? = some (.cells (f.cells a c) 28 (0, 0))) ⟨B0.out.drew, qblk hd X0.out⟩ (fun hHeld => ?_)
  have BV := Lib.hid hHeld
  clear hd
  generalize W0.drew = V0 at *
  refine zW 0 rfl (.int .i64 i) ?_
  refine zW 1 rfl (.pointer (some ⟨p, 2, none⟩)) ?_
  refine zS 2 rfl (.int .i64 f.sectors) (fun W hW => by have c := qcell hW.2 2 (.int .i64 f.sectors) rfl; go_simp) ?_
  refine zW 3 rfl (.int .i64 (i / f.sectors)) (hy := .inl ⟨by kernel_rfl, by intro W _; go_simp; rw [if_neg NE.out, (IntWalk.i64_left _).trans D1.out]⟩) ?_
  refine zW 4 rfl (.int .i64 i) ?_
  refine zW 5 rfl (.pointer (some ⟨p, 2, none⟩)) ?_
  refine zS 6 rfl (.int .i64 f.sectors) (fun W hW => by have c := qcell hW.2 2 (.int .i64 f.sectors) rfl; go_simp) ?_
  refine zW 7 rfl (.int .i64 (i % f.sectors)) (hy := .inl ⟨by kernel_rfl, by intro W _; go_simp; rw [if_neg NE.out, D2.out]⟩) ?_
  refine zW 8 rfl (.agg #[.int .i64 (i / f.sectors), .int .i64 (i % f.sectors)]) ?_
  refine zR 9 rfl (fun K hK => ?_)
  rw [if_pos (by kernel_rfl)]
  refine qstore 41 _ _ rfl q #[.int .i64 0, .int .i64 0] #[.int .i64 (i / f.sectors), .int .i64 (i % f.sectors)] 41 rfl rfl Q0.out (J2.out _ _) rfl (by simp [Value.oneCell']) ?_
  intro X h8 hg8 hs8
  have BX := Lib.hid (BV.out.1.grown hg8 BV.out.1.size (fun k e => by cases e; exact GE.out))
  have PX := Lib.hid (qgrown hg8 BV.out.2 (fun e => NQ.out (Option.some.inj e)))
  have RX := Lib.hid h8
  clear h8 hg8 hs8
  refine zK hK ⟨BX.out, PX.out⟩ (fun hHeld => ?_)
  clear hK K
  refine zE ?_
  go_wp2_with fail
  refine bodyPost_ret (results_cell_row rfl _ X q 41 _ (0, 0) _ rfl RX.out Tryz.underlying41 rfl (J2.out _ _)) rfl ?_
  exact ⟨rfl, BX.out⟩
theorem FaceV.kat_at2 {f : FaceV} {k : Nat} (h : k < f.kinds.length) : f.kinds[k]? = some (f.kat k) := by
  unfold FaceV.kat
  rw [List.getElem?_eq_getElem h]
  rfl
set_option maxHeartbeats 4000000 in
set_option maxRecDepth 100000 in
theorem rvalid_any (f : FaceV) (a : Option Addr) (n : Nat) (w : World) (hr : RdI w a f.kinds.length n f.kinds) :
    Calls Tryz.prog 57 #[.agg (f.cells a n)] w fun e w' => e = .returned (.bool f.valid) ∧ Below w.heap.size w w' := by
  have B0 := Lib.hid ((Below.refl w.heap.size w).alloc (Nat.le_refl _) (.cells (f.cells a n) 28))
  have X0 := Lib.hid (qlast w (.cells (f.cells a n) 28))
  have HR := Lib.hid (fun W (hb : Below w.heap.size w W) => hr.below hb)
  have V1 : Hid (inB f.eye 1 16 = false → f.valid = false) := Lib.hid (fun h => by unfold FaceV.valid FaceV.sized; rw [h]; rfl)
  have V2 : Hid (inB f.rings 1 24 = false → f.valid = false) := Lib.hid (fun h => by unfold FaceV.valid FaceV.sized; rw [h]; simp)
  have V3 : Hid (inB f.sectors 2 96 = false → f.valid = false) := Lib.hid (fun h => by unfold FaceV.valid FaceV.sized; rw [h]; simp)
  have V4 : Hid (((f.kinds.length : Int) != f.rings * f.sectors) = true → f.valid = false) := Lib.hid (fun h => by unfold FaceV.valid FaceV.sized; rw [bne_iff_ne] at h; simp [h])
  have V5 : Hid (inB f.eye 1 16 = true → inB f.rings 1 24 = true → inB f.sectors 2 96 = true → ((f.kinds.length : Int) != f.rings * f.sectors) = false → f.valid = f.kinds.all kindB) := Lib.hid (fun h1 h2 h3 h4 => by
    have h4 : (f.kinds.length : Int) = f.rings * f.sectors := by simpa using h4
    unfold FaceV.valid FaceV.sized
    rw [h1, h2, h3, h4]
    simp)
  clear hr
  go_enter Tryz.func57, Tryz.ntmps57
  go_upto_region 1 with fail
  obtain ⟨p, hp⟩ : ∃ p, Hid (w.heap.size = p) := ⟨_, Lib.hid rfl⟩
  rw [hp.out] at X0 ⊢
  generalize w.alloc (.cells (f.cells a n) 28) = W0 at *
  have c0 := qcell X0.out 0 (.int .i64 f.eye) rfl
  have c1 := qcell X0.out 1 (.int .i64 f.rings) rfl
  have c2 := qcell X0.out 2 (.int .i64 f.sectors) rfl
  have c3 := qcell X0.out 3 (.slice a f.kinds.length n) rfl
  go_wp2_with fail
  refine (rwithin_any f.eye 1 16 W0).mono ?_
  rintro e W1 ⟨rfl, rfl⟩
  cases h1 : inB f.eye 1 16
  · have VV := Lib.hid (V1.out h1)
    go_wp2_with fail
    go_ret
    exact ⟨by rw [VV.out]; rfl, B0.out⟩
  go_wp2_with fail
  refine (rwithin_any f.rings 1 24 W1).mono ?_
  rintro e W2 ⟨rfl, rfl⟩
  cases h2 : inB f.rings 1 24
  · have VV := Lib.hid (V2.out h2)
    go_wp2_with fail
    go_ret
    exact ⟨by rw [VV.out]; rfl, B0.out⟩
  go_wp2_with fail
  refine (rwithin_any f.sectors 2 96 W2).mono ?_
  rintro e W3 ⟨rfl, rfl⟩
  cases h3 : inB f.sectors 2 96
  · have VV := Lib.hid (V3.out h3)
    go_wp2_with fail
    go_ret
    exact ⟨by rw [VV.out]; rfl, B0.out⟩
  have ew : wrap64 (f.rings * f.sectors) = f.rings * f.sectors := by
    rw [inB_true] at h2 h3
    have h5 : f.rings * f.sectors ≤ 24 * 96 := Int.mul_le_mul (by omega) (by omega) (by omega) (by omega)
    have h6 := Int.mul_nonneg (show 0 ≤ f.rings by omega) (show 0 ≤ f.sectors by omega)
    unfold wrap64
    omega
  cases h4 : ((f.kinds.length : Int) != f.rings * f.sectors)
  case true =>
    have VV := Lib.hid (V4.out h4)
    go_wp2_with fail
    go_ret
    exact ⟨by rw [VV.out]; rfl, B0.out⟩
  have VV := Lib.hid (V5.out h1 h2 h3 h4)
  clear V1 V2 V3 V4 V5
  have LL : Hid (f.kinds.length ≤ 2304) := Lib.hid (by
    have h8 : (f.kinds.length : Int) = f.rings * f.sectors := by simpa using h4
    rw [inB_true] at h2 h3
    have h5 : f.rings * f.sectors ≤ 24 * 96 := Int.mul_le_mul (by omega) (by omega) (by omega) (by omega)
    omega)
  go_wp2_with fail
  clear ew c0 c1 c2 c3
  go_loopw [3] (fun v wr => ∃ k : Nat, v = .int .i64 (k : Int) ∧ k ≤ f.kinds.length ∧ Hid (∀ j, j < k → kindB (f.kat j) = true) ∧ Hid (Below w.heap.size w wr) ∧ Hid (wr.heap[p]? = some (.cells (f.cells a n) 28 (0, 0)))) (fun v _ => f.kinds.length - (intOf v).toNat)
  case atStart => exact ⟨0, rfl, Nat.zero_le _, Lib.hid (fun j hj => by omega), B0, X0⟩
  case round =>
    clear B0 X0
    obtain ⟨k, rfl, hk, KK, B0, X0⟩ := hrel
    have c3 := qcell X0.out 3 (.slice a f.kinds.length n) rfl
    by_cases hkn : k < f.kinds.length
    · have t0 : decide ((k : Int) < (f.kinds.length : Int)) = true := by simp; omega
      have HK64 : Hid ((k : Int) + 1 ≤ 9223372036854775807) := Lib.hid (by have := LL.out; omega)
      obtain ⟨b, off, rfl, hx⟩ := (HR.out _ B0.out).get (FaceV.kat_at2 hkn)
      obtain ⟨y, hy⟩ : ∃ y, Hid (f.kat k = y) := ⟨_, Lib.hid rfl⟩
      rw [hy.out] at hx
      go_wp2_with fail
      refine (rwithin_any y 0 2 wr).mono ?_
      rintro e W4 ⟨rfl, rfl⟩
      cases he : inB y 0 2
      · have FV : Hid (f.valid = false) := Lib.hid (by
          rw [VV.out]
          have h9 : ¬ (f.kinds.all kindB = true) := by
            rw [List.all_eq_true]
            intro h
            have h8 := h y (by rw [← hy.out]; exact List.mem_of_getElem? (FaceV.kat_at2 hkn))
            unfold kindB at h8
            rw [he] at h8
            cases h8
          simpa using h9)
        go_wp2_with fail
        go_ret
        exact ⟨by rw [FV.out]; rfl, B0.out⟩
      · have hk64 := HK64.out
        go_wp2_with fail
        go_roundw
        case rel => exact ⟨k + 1, by simp, by omega, Lib.hid (fun j hj => by
          rcases Nat.lt_or_ge j k with h | h
          · exact KK.out j h
          · have : j = k := by omega
            subst this
            rw [hy.out]
            exact he), B0, X0⟩
        case measure => simp [intOf]; omega
    · have t0 : decide ((k : Int) < (f.kinds.length : Int)) = false := by simp; omega
      have e : k = f.kinds.length := by omega
      subst e
      have FV : Hid (f.valid = true) := Lib.hid (by
        rw [VV.out, List.all_eq_true]
        intro x hx
        obtain ⟨j, hj, hx2⟩ := List.mem_iff_getElem.1 hx
        have h9 := KK.out j hj
        unfold FaceV.kat at h9
        rw [List.getElem?_eq_getElem hj, hx2] at h9
        exact h9)
      go_wp2_with fail
      go_ret
      exact ⟨by rw [FV.out]; rfl, B0.out⟩
set_option maxHeartbeats 4000000 in
set_option maxRecDepth 100000 in
theorem rnumber_any (f : FaceV) (a : Option Addr) (n : Nat) (c : CellV) (w : World) (hs : 1 ≤ f.sectors ∧ f.sectors ≤ 1000000) (hc : -1000000 ≤ c.1 ∧ c.1 ≤ 1000000) (h2 : -1000000 ≤ c.2 ∧ c.2 ≤ 1000000) :
    Calls Tryz.prog 67 #[.agg (f.cells a n), .agg (cellA c)] w fun e w' => e = .returned (.int .i64 (c.1 * f.sectors + c.2)) ∧ Below w.heap.size w w' := by
  have W1 := Lib.hid (show wrap64 (c.1 * f.sectors) = c.1 * f.sectors by
    have h1 : c.1 * f.sectors ≤ 1000000 * 1000000 := by
      rcases Int.le_total 0 c.1 with h | h
      · exact Int.mul_le_mul hc.2 hs.2 (by omega) (by omega)
      · have := Int.mul_nonpos_of_nonpos_of_nonneg h (show 0 ≤ f.sectors by omega); omega
    have h2 : -(1000000 * 1000000) ≤ c.1 * f.sectors := by
      rcases Int.le_total 0 c.1 with h | h
      · have := Int.mul_nonneg h (show 0 ≤ f.sectors by omega); omega
      · have := Int.mul_le_mul (show -c.1 ≤ 1000000 by omega) hs.2 (by omega) (by omega)
        rw [Int.neg_mul] at this
        omega
    unfold wrap64
    omega)
  have W2 := Lib.hid (show wrap64 (c.1 * f.sectors + c.2) = c.1 * f.sectors + c.2 by
    have h1 : c.1 * f.sectors ≤ 1000000 * 1000000 := by
      rcases Int.le_total 0 c.1 with h | h
      · exact Int.mul_le_mul hc.2 hs.2 (by omega) (by omega)
      · have := Int.mul_nonpos_of_nonpos_of_nonneg h (show 0 ≤ f.sectors by omega); omega
    have h2 : -(1000000 * 1000000) ≤ c.1 * f.sectors := by
      rcases Int.le_total 0 c.1 with h | h
      · have := Int.mul_nonneg h (show 0 ≤ f.sectors by omega); omega
      · have := Int.mul_le_mul (show -c.1 ≤ 1000000 by omega) hs.2 (by omega) (by omega)
        rw [Int.neg_mul] at this
        omega
    unfold wrap64
    omega)
  clear hs hc h2
  have AL := Lib.hid (al2 w (.cells (f.cells a n) 28) (.cells (cellA c) 41))
  obtain ⟨M, hM⟩ : ∃ M, Hid (c.1 * f.sectors + c.2 = M) := ⟨_, Lib.hid rfl⟩
  rw [hM.out] at W2 ⊢
  go_enter Tryz.func67, Tryz.ntmps67
  go_upto_region 1 with fail
  obtain ⟨p, hp⟩ : ∃ p, Hid (w.heap.size = p) := ⟨_, Lib.hid rfl⟩
  obtain ⟨q, hq⟩ : ∃ q, Hid (w.heap.size + 1 = q) := ⟨_, Lib.hid rfl⟩
  rw [hq.out] at AL ⊢
  rw [hp.out] at AL ⊢
  generalize ((w.alloc (.cells (f.cells a n) 28)).alloc (.cells (cellA c) 41)) = W0 at *
  have BF : Hid (Below w.heap.size w W0) := Lib.hid (by rw [hp.out]; exact AL.out.1)
  have XF : Hid (W0.heap[p]? = some (.cells (f.cells a n) 28 (0, 0))) := Lib.hid AL.out.2.1
  have XC : Hid (W0.heap[q]? = some (.cells (cellA c) 41 (0, 0))) := Lib.hid AL.out.2.2
  clear AL
  have c0 := qcell XF.out 0 (.int .i64 f.eye) rfl
  have c1 := qcell XF.out 1 (.int .i64 f.rings) rfl
  have c2 := qcell XF.out 2 (.int .i64 f.sectors) rfl
  have c3 := qcell XF.out 3 (.slice a f.kinds.length n) rfl
  have d0 := qcell XC.out 0 (.int .i64 c.1) rfl
  have d1 := qcell XC.out 1 (.int .i64 c.2) rfl
  have HW : Hid (wrap64 (wrap64 (c.1 * f.sectors) + c.2) = M) := Lib.hid (by rw [W1.out, hM.out, W2.out])
  go_wp2_with (first
    | (refine wpList_load_row rfl 28 _ rfl p rfl 28 (f.cells a n) (0, 0) _ XF.out Tryz.underlying28 rfl (by exact (qJF f a n)) ?_)
    | (refine wpList_load_row rfl 41 _ rfl q rfl 41 (cellA c) (0, 0) _ XC.out Tryz.underlying41 rfl (by exact (qJC c)) ?_)
    | fail)
  go_ret
  exact ⟨by first | rfl | (rw [← HW.out]; rfl), BF.out⟩
set_option maxHeartbeats 4000000 in
set_option maxRecDepth 100000 in
theorem rround_any (f : FaceV) (a : Option Addr) (n : Nat) (x : Int) (w : World) (hs : 1 ≤ f.sectors ∧ f.sectors ≤ 1000000) :
    Calls Tryz.prog 68 #[.agg (f.cells a n), .int .i64 x] w fun e w' => e = .returned (.int .i64 (around x f.sectors)) ∧ Below w.heap.size w w' := by
  have HA := Lib.hid (around_tmod x f.sectors hs)
  have NE := Lib.hid (show ¬ f.sectors = 0 by omega)
  clear hs
  have AL := Lib.hid (al1 w (.cells (f.cells a n) 28))
  go_enter Tryz.func68, Tryz.ntmps68
  go_upto_region 1 with fail
  obtain ⟨p, hp⟩ : ∃ p, Hid (w.heap.size = p) := ⟨_, Lib.hid rfl⟩
  rw [hp.out] at AL ⊢
  generalize (w.alloc (.cells (f.cells a n) 28)) = W0 at *
  have BF : Hid (Below w.heap.size w W0) := Lib.hid (by rw [hp.out]; exact AL.out.1)
  have XF : Hid (W0.heap[p]? = some (.cells (f.cells a n) 28 (0, 0))) := Lib.hid AL.out.2
  clear AL
  have c0 := qcell XF.out 0 (.int .i64 f.eye) rfl
  have c1 := qcell XF.out 1 (.int .i64 f.rings) rfl
  have c2 := qcell XF.out 2 (.int .i64 f.sectors) rfl
  have c3 := qcell XF.out 3 (.slice a f.kinds.length n) rfl
  clear c0 c1 c2 c3
  go_upto_region 1 with fail
  have hd : Below W0.heap.size W0 W0.drew := (Below.refl _ _).drew
  replace BF := Lib.hid (BF.out.trans (hd.mono BF.out.size))
  replace XF := Lib.hid (qblk hd XF.out)
  clear hd
  refine zD (fun W => Below W0.drew.heap.size W0.drew W) (Below.refl _ _) (fun hHeld => ?_)
  have BV := Lib.hid hHeld
  generalize W0.drew = V1 at *
  refine zW 0 rfl (.int .i64 x) ?_
  refine zW 1 rfl (.pointer (some ⟨p, 2, none⟩)) ?_
  refine zS 2 rfl (.int .i64 f.sectors) (fun W hW => by have c := qcell (qblk hW XF.out) 2 (.int .i64 f.sectors) rfl; go_simp) ?_
  refine zW 3 rfl (.int .i64 (x.tmod f.sectors)) (hy := .inl ⟨by kernel_rfl, by intro W _; go_simp; first | exact NE.out | rw [if_neg NE.out]⟩) ?_
  refine zW 4 rfl (.pointer (some ⟨p, 2, none⟩)) ?_
  refine zS 5 rfl (.int .i64 f.sectors) (fun W hW => by have c := qcell (qblk hW XF.out) 2 (.int .i64 f.sectors) rfl; go_simp) ?_
  refine zW 6 rfl (.int .i64 (wrap64 (x.tmod f.sectors + f.sectors))) (hy := .inl ⟨by kernel_rfl, by intro W _; go_simp; exact IntWalk.i64_left _⟩) ?_
  refine zW 7 rfl (.pointer (some ⟨p, 2, none⟩)) ?_
  refine zS 8 rfl (.int .i64 f.sectors) (fun W hW => by have c := qcell (qblk hW XF.out) 2 (.int .i64 f.sectors) rfl; go_simp) ?_
  refine zW 9 rfl (.int .i64 (around x f.sectors)) (hy := .inl ⟨by kernel_rfl, by intro W _; go_simp; rw [if_neg NE.out, HA.out]⟩) ?_
  refine zW 10 rfl (.int .i64 (around x f.sectors)) ?_
  refine zE ?_
  have bz := BV.out
  replace BF := Lib.hid (BF.out.trans (bz.mono BF.out.size))
  replace XF := Lib.hid (qblk bz XF.out)
  clear bz
  clear BV
  go_wp2_with fail
  go_ret
  exact ⟨rfl, BF.out⟩
end Go.Proofs.YtimmadkbkimonaaGreatDoor
namespace Go.Proofs.YtimmadkbkimonaaGreatDoor
set_option linter.unusedSimpArgs false
set_option linter.unusedVariables false
open Go.RowKit

theorem rnum_any (f : FaceV) (a : Option Addr) (n : Nat) (c : CellV) (w : World) (hv : f.valid = true) (hc : hasF f c = true) :
    Calls Tryz.prog 67 #[.agg (f.cells a n), .agg (cellA c)] w fun e w' => e = .returned (.int .i64 (indexF f c.1 c.2)) ∧ Below w.heap.size w w' := by
  have IV := FaceV.int hv
  have HC := hasF_iff.1 hc
  rw [indexF_of hv c.1 ⟨HC.2.1, by omega⟩]
  exact rnumber_any f a n c w ⟨by omega, by omega⟩ ⟨by omega, by omega⟩ ⟨by omega, by omega⟩
set_option maxHeartbeats 4000000 in
set_option maxRecDepth 100000 in
theorem rcopied_any (f : FaceV) (a : Option Addr) (n : Nat) (w : World) (hn : f.kinds.length ≤ 1000000) (hr : RdI w a f.kinds.length n f.kinds) :
    Calls Tryz.prog 102 #[.agg (f.cells a n)] w fun e w' => (∃ a' n', e = .returned (.agg (f.cells a' n')) ∧ OwnI w w' a' f.kinds.length n' f.kinds) ∧ Below w.heap.size w w' := by
  have HR := Lib.hid (fun W (hb : Below w.heap.size w W) => hr.below hb)
  clear hr
  have AL := Lib.hid (al2 w (.cells (f.cells a n) 28) (.cells #[.int .i64 0, .int .i64 0, .int .i64 0, .slice none 0 0] 28))
  go_enter Tryz.func102, Tryz.ntmps102
  go_upto_region 1 with fail
  obtain ⟨p, hp⟩ : ∃ p, Hid (w.heap.size = p) := ⟨_, Lib.hid rfl⟩
  obtain ⟨z, hz⟩ : ∃ z, Hid (w.heap.size + 1 = z) := ⟨_, Lib.hid rfl⟩
  rw [hz.out] at AL ⊢
  rw [hp.out] at AL ⊢
  generalize ((w.alloc (.cells (f.cells a n) 28)).alloc (.cells #[.int .i64 0, .int .i64 0, .int .i64 0, .slice none 0 0] 28)) = W0 at *
  have BF : Hid (Below w.heap.size w W0) := Lib.hid (by rw [hp.out]; exact AL.out.1)
  have XF : Hid (W0.heap[p]? = some (.cells (f.cells a n) 28 (0, 0))) := Lib.hid AL.out.2.1
  have XZ : Hid (W0.heap[z]? = some (.cells (zeroF.cells none 0) 28 (0, 0))) := Lib.hid AL.out.2.2
  clear AL
  have c0 := qcell XF.out 0 (.int .i64 f.eye) rfl
  have c1 := qcell XF.out 1 (.int .i64 f.rings) rfl
  have c2 := qcell XF.out 2 (.int .i64 f.sectors) rfl
  have c3 := qcell XF.out 3 (.slice a f.kinds.length n) rfl
  clear c0 c1 c2 c3
  refine yB ?_
  refine yR (fun K hK => ?_)
  refine qbuild (w' := W0.alloc (.cells #[] 3)) (.slice (some ⟨W0.heap.size, 0, none⟩) 0 0) (by kernel_rfl) ?_
  have b := zB W0 (.cells #[] 3)
  have OW : Hid (OwnI w (W0.alloc (.cells #[] 3)) (some ⟨W0.heap.size, 0, none⟩) 0 0 []) := Lib.hid (World.ownsRow_lit (base := w.heap.size) (e := 3) (size := 1) W0 #[] 0 BF.out.size (by unfold maxLen; omega) rfl)
  obtain ⟨y, hy⟩ : ∃ x, Hid (W0.heap.size = x) := ⟨_, Lib.hid rfl⟩
  replace BF := Lib.hid (BF.out.trans (b.mono BF.out.size))
  replace XF := Lib.hid (qblk b XF.out)
  replace XZ := Lib.hid (qblk b XZ.out)
  clear b
  rw [hy.out] at OW ⊢
  generalize hV9 : W0.alloc (.cells #[] 3) = W1 at *
  clear hV9
  refine yK hK ?_
  clear hK K
  refine yW (.pointer (some ⟨p, 3, none⟩)) ?_
  refine yW (.slice a f.kinds.length n) ?_ (.inl ⟨by kernel_rfl, by intro W hW; rw [hW]; have c := qcell XF.out 3 (.slice a f.kinds.length n) rfl; go_simp⟩)
  refine yR (fun K hK => ?_)
  obtain ⟨oa2, oc2, W2, hrun, ho7, hk7, hb7⟩ := run_app_q W1 w.heap.size (some ⟨y, 0, none⟩) 0 0 [] OW.out a f.kinds.length n f.kinds (HR.out W1 BF.out) (by omega) BF.out.size
  refine qappend _ _ _ rfl _ _ _ rfl rfl hrun ?_
  clear hrun
  rw [List.nil_append, Nat.zero_add] at ho7
  rw [Nat.zero_add]
  replace OW := Lib.hid (show OwnI w W2 oa2 f.kinds.length oc2 f.kinds from ho7)
  replace BF := Lib.hid (hb7 _ BF.out)
  replace XF := Lib.hid (hk7 _ _ XF.out (by simp))
  replace XZ := Lib.hid (hk7 _ _ XZ.out (by simp))
  clear hk7 hb7 ho7
  refine yK hK ?_
  clear hK K
  refine yW (.pointer (some ⟨p, 3, none⟩)) ?_
  refine yR (fun K hK => ?_)
  have cz := qcell XF.out 3 (.slice a f.kinds.length n) rfl
  have fz := qfroz XF.out 3
  go_simp
  clear cz fz
  refine yK hK ?_
  clear hK K
  refine yE ?_
  have HG := qput_grown W2 p 3 (.slice oa2 f.kinds.length oc2)
  have XG : Hid ((W2.setCell ⟨p, 3, none⟩ (.slice oa2 f.kinds.length oc2)).heap[p]? = some (.cells (f.cells oa2 oc2) 28 (0, 0))) := Lib.hid (by rw [qput_at XF.out 3 _]; rfl)
  replace OW := Lib.hid (OW.out.kept HG XF.out (by decide))
  replace BF := Lib.hid (qstep BF.out HG (by have h1 := hp.out; omega))
  replace XZ := Lib.hid (qgrown HG XZ.out (fun e => by have h1 := hp.out; have h2 := hz.out; have := Option.some.inj e; omega))
  clear HG XF
  generalize W2.setCell ⟨p, 3, none⟩ (.slice oa2 f.kinds.length oc2) = W3 at *
  go_wp2_with (first
    | (refine wpList_load_row rfl 28 _ rfl p rfl 28 (f.cells oa2 oc2) (0, 0) _ XG.out Tryz.underlying28 rfl (by exact (qJF f oa2 oc2)) ?_)
    | (refine wpList_load_row rfl 28 _ rfl z rfl 28 (zeroF.cells none 0) (0, 0) _ XZ.out Tryz.underlying28 rfl (by exact (qJF zeroF none 0)) ?_)
    | (refine wpList_qstore rfl 28 _ _ rfl z (zeroF.cells none 0) (f.cells oa2 oc2) 28 rfl rfl XZ.out (by exact (qJF f oa2 oc2)) rfl (qone f oa2 oc2) ?_; intro VZ hzz hgz; replace BF := Lib.hid (qstep BF.out hgz (by have h1 := hz.out; omega)); replace XG := Lib.hid (qgrown hgz XG.out (fun e => by have h1 := hp.out; have h2 := hz.out; have := Option.some.inj e; omega)); replace OW := Lib.hid (OW.out.kept hgz XZ.out (by decide)); replace XZ := Lib.hid hzz; clear hzz hgz)
    | fail)
  (try simp only [Exit.inBlock, Exit.then])
  refine bodyPost_ret (results_cell_row rfl _ VZ z 28 (f.cells oa2 oc2) (0, 0) _ rfl XZ.out Tryz.underlying28 rfl (by exact (qJF f oa2 oc2))) rfl ?_
  exact ⟨⟨oa2, oc2, rfl, OW.out⟩, BF.out⟩
end Go.Proofs.YtimmadkbkimonaaGreatDoor
namespace Go.Proofs.YtimmadkbkimonaaGreatDoor
set_option linter.unusedSimpArgs false
set_option linter.unusedVariables false
open Go.RowKit

def partK (l : List Int) (g : Nat → Int) (k : Nat) : List Int := (List.range l.length).map fun (j : Nat) => if j < k then g j else l[j]?.getD 0
theorem partK_len (l : List Int) (g : Nat → Int) (k : Nat) : (partK l g k).length = l.length := by unfold partK; simp
theorem partK_zero (l : List Int) (g : Nat → Int) : partK l g 0 = l := by
  refine List.ext_getElem? fun i => ?_
  unfold partK
  rw [List.getElem?_map]
  by_cases hi : i < l.length
  · rw [List.getElem?_range hi, List.getElem?_eq_getElem hi]; simp [List.getElem?_eq_getElem hi]
  · rw [List.getElem?_eq_none (by simp; omega), List.getElem?_eq_none (by omega)]; rfl
theorem partK_set (l : List Int) (g : Nat → Int) {k : Nat} (hk : k < l.length) {v : Int} (hv : v = g k) : (partK l g k).set k v = partK l g (k + 1) := by
  subst hv
  refine List.ext_getElem? fun i => ?_
  rw [List.getElem?_set]
  unfold partK
  rw [List.getElem?_map, List.getElem?_map, List.length_map, List.length_range]
  by_cases hi : i < l.length
  · rw [List.getElem?_range hi]
    by_cases e : k = i
    · subst e
      rw [if_pos rfl, if_pos hk]
      simp
    · rw [if_neg e]
      simp only [Option.map_some]
      congr 1
      by_cases h2 : i < k
      · rw [if_pos h2, if_pos (by omega)]
      · rw [if_neg h2, if_neg (by omega)]
  · rw [if_neg (by omega)]
    rw [List.getElem?_eq_none (by simp; omega)]
    rfl
theorem partK_all (l : List Int) (g : Nat → Int) : partK l g l.length = (List.range l.length).map g := by
  unfold partK
  refine List.map_congr_left fun j hj => ?_
  rw [if_pos (List.mem_range.1 hj)]
end Go.Proofs.YtimmadkbkimonaaGreatDoor
namespace Go.Proofs.YtimmadkbkimonaaGreatDoor
set_option linter.unusedSimpArgs false
set_option linter.unusedVariables false
open Go.RowKit

theorem FaceV.kat_some {f : FaceV} {k : Nat} (h : k < f.kinds.length) : f.kinds[k]? = some (f.kat k) := by
  unfold FaceV.kat
  rw [List.getElem?_eq_getElem h]
  rfl
def turnG (f : FaceV) (B : Int) (k : Nat) : Int := f.kat ((k : Int) / f.sectors * f.sectors + around ((k : Int) % f.sectors - B) f.sectors).toNat
def mirrG (f : FaceV) (k : Nat) : Int := f.kat ((k : Int) / f.sectors * f.sectors + (f.sectors - 1 - (k : Int) % f.sectors)).toNat
theorem turnG_all (f : FaceV) (b : Int) : ({ f with kinds := partK f.kinds (turnG f (b.tmod f.sectors)) f.kinds.length } : FaceV) = rTurnF f b := by rw [partK_all]; rfl
theorem mirrG_all (f : FaceV) : ({ f with kinds := partK f.kinds (mirrG f) f.kinds.length } : FaceV) = rMirrorF f := by rw [partK_all]; rfl
theorem fcells_len (f : FaceV) (l : List Int) (h : l.length = f.kinds.length) (a : Option Addr) (n : Nat) : ({ f with kinds := l } : FaceV).cells a n = f.cells a n := by unfold FaceV.cells; rw [h]
theorem cellF_in {f : FaceV} (hv : f.valid = true) {k : Nat} (hk : k < f.kinds.length) : (0 ≤ (cellF f k).1 ∧ (cellF f k).1 ≤ f.rings - 1) ∧ 0 ≤ (cellF f k).2 ∧ (cellF f k).2 ≤ f.sectors - 1 :=
  hasF_iff.1 (cellF_has hv (i := (k : Int)) ⟨by omega, by omega⟩).1
set_option maxHeartbeats 4000000 in
set_option maxRecDepth 100000 in
theorem rturnedR_any (f : FaceV) (a : Option Addr) (n : Nat) (by_ : Int) (w : World) (hv : f.valid = true) (hr : RdI w a f.kinds.length n f.kinds) :
    Calls Tryz.prog 99 #[.agg (f.cells a n), .int .i64 by_] w fun e w' => (∃ a' n', e = .returned (.agg ((rTurnF f by_).cells a' n')) ∧ FOwn w w' (rTurnF f by_) a' n') ∧ Below w.heap.size w w' := by
  have HR := Lib.hid (fun W (hb : Below w.heap.size w W) => hr.below hb)
  have HV := Lib.hid hv
  have IV := Lib.hid (FaceV.int hv)
  have LL := Lib.hid (FaceV.len_le hv)
  have NE := Lib.hid (show ¬ f.sectors = 0 by have := FaceV.int hv; omega)
  clear hr hv
  have AL := Lib.hid (al2 w (.cells (f.cells a n) 28) (.cells #[.int .i64 0, .int .i64 0, .int .i64 0, .slice none 0 0] 28))
  go_enter Tryz.func99, Tryz.ntmps99
  go_upto_region 1 with fail
  obtain ⟨p, hp⟩ : ∃ p, Hid (w.heap.size = p) := ⟨_, Lib.hid rfl⟩
  obtain ⟨z, hz⟩ : ∃ z, Hid (w.heap.size + 1 = z) := ⟨_, Lib.hid rfl⟩
  rw [hz.out] at AL ⊢
  rw [hp.out] at AL ⊢
  generalize ((w.alloc (.cells (f.cells a n) 28)).alloc (.cells #[.int .i64 0, .int .i64 0, .int .i64 0, .slice none 0 0] 28)) = W0 at *
  have BF : Hid (Below w.heap.size w W0) := Lib.hid (by rw [hp.out]; exact AL.out.1)
  have XF : Hid (W0.heap[p]? = some (.cells (f.cells a n) 28 (0, 0))) := Lib.hid AL.out.2.1
  have XZ : Hid (W0.heap[z]? = some (.cells (zeroF.cells none 0) 28 (0, 0))) := Lib.hid AL.out.2.2
  clear AL
  have c0 := qcell XF.out 0 (.int .i64 f.eye) rfl
  have c1 := qcell XF.out 1 (.int .i64 f.rings) rfl
  have c2 := qcell XF.out 2 (.int .i64 f.sectors) rfl
  have c3 := qcell XF.out 3 (.slice a f.kinds.length n) rfl
  clear c0 c1 c2 c3
  refine yB ?_
  refine yW (.agg (f.cells a n)) ?_ (qyrow (by kernel_rfl) 28 _ rfl p rfl _ 28 (0, 0) _ (fun W hW => by rw [hW]; exact XF.out) Tryz.underlying28 rfl (by exact (qJF f a n)))
  refine yR (fun K hK => ?_)
  go_simp
  refine (rcopied_any f a n _ (by have := LL.out; omega) (HR.out _ BF.out)).mono ?_
  rintro e U1 ⟨⟨a1, n1, rfl, own⟩, b⟩
  have OW := Lib.hid (own.mono BF.out.size)
  clear own
  replace BF := Lib.hid (BF.out.trans (b.mono BF.out.size))
  replace XF := Lib.hid (qblk b XF.out)
  replace XZ := Lib.hid (qblk b XZ.out)
  clear b
  try dsimp only
  refine yK hK ?_
  clear hK K
  refine yR (fun K hK => ?_)
  refine qbuild (w' := U1.alloc (.cells #[.int .i64 0, .int .i64 0, .int .i64 0, .slice none 0 0] 28)) (.pointer (some ⟨U1.heap.size, 0, none⟩)) (by kernel_rfl) ?_
  obtain ⟨x5, hx5⟩ : ∃ x, Hid (U1.heap.size = x) := ⟨_, Lib.hid rfl⟩
  have AL := Lib.hid (al1 U1 (.cells #[.int .i64 0, .int .i64 0, .int .i64 0, .slice none 0 0] 28))
  rw [hx5.out] at AL ⊢
  refine yK hK ?_
  clear hK K
  refine yR (fun K hK => ?_)
  refine qstore 28 _ _ rfl x5 #[.int .i64 0, .int .i64 0, .int .i64 0, .slice none 0 0] (f.cells a1 n1) 28 rfl rfl AL.out.2 (by exact qJF f a1 n1) rfl (qone f a1 n1) ?_
  intro U2 h8 hg8 hs8
  have b : Below U1.heap.size U1 U2 := qstep (by have h1 := AL.out.1; rw [← hx5.out] at h1; exact h1) hg8 (Nat.le_of_eq hx5.out)
  replace BF := Lib.hid (BF.out.trans (b.mono BF.out.size))
  replace OW := Lib.hid (OW.out.below b)
  replace XF := Lib.hid (qblk b XF.out)
  replace XZ := Lib.hid (qblk b XZ.out)
  clear b
  have Xx5 := Lib.hid h8
  clear h8 hg8 hs8 AL
  refine yK hK ?_
  clear hK K
  refine yE ?_
  obtain ⟨B, hB⟩ : ∃ z, Hid (by_.tmod f.sectors = z) := ⟨_, Lib.hid rfl⟩
  have HBS : Hid (-f.sectors < B ∧ B < f.sectors) := Lib.hid (by
    have h0 := IV.out
    have h1 := Int.lt_tmod_of_pos by_ (show 0 < f.sectors by omega)
    have h2 := Int.tmod_lt_of_pos by_ (show 0 < f.sectors by omega)
    rw [← hB.out]
    exact ⟨h1, h2⟩)
  go_upto_region 2 with fail
  refine yB ?_
  refine yM (.int .i64 by_) ?_
  refine yW (.pointer (some ⟨p, 2, none⟩)) ?_
  refine yW (.int .i64 f.sectors) ?_ (.inl ⟨by kernel_rfl, by intro W hW; rw [hW]; have c := qcell XF.out 2 (.int .i64 f.sectors) rfl; go_simp⟩)
  refine yW (.int .i64 B) ?_ (.inl ⟨by kernel_rfl, by intro W hW; rw [hW]; go_simp; rw [if_neg NE.out, hB.out]⟩)
  refine yM (.int .i64 B) ?_
  refine yE ?_
  have OW0 : Hid (OwnI w U2 a1 f.kinds.length n1 (partK f.kinds (turnG f B) 0)) := Lib.hid (by rw [partK_zero]; exact OW.out)
  clear OW
  have OW := OW0
  clear OW0
  go_upto_region 3 with fail
  go_wp2_with fail
  generalize U2 = Y1 at *
  go_loopw [6] (fun v wr => ∃ k : Nat, v = .int .i64 (k : Int) ∧ k ≤ f.kinds.length ∧ Hid (Below w.heap.size w wr) ∧ Hid (wr.heap[p]? = some (.cells (f.cells a n) 28 (0, 0))) ∧ Hid (wr.heap[z]? = some (.cells (zeroF.cells none 0) 28 (0, 0))) ∧ Hid (wr.heap[x5]? = some (.cells (f.cells a1 n1) 28 (0, 0))) ∧ Hid (OwnI w wr a1 f.kinds.length n1 (partK f.kinds (turnG f B) k))) (fun v _ => f.kinds.length - (intOf v).toNat)
  case atStart => exact ⟨0, rfl, Nat.zero_le _, BF, XF, XZ, Xx5, OW⟩
  case round =>
    clear BF XF XZ Xx5 OW
    obtain ⟨k, rfl, hk, BF, XF, XZ, Xx5, OW⟩ := hrel
    have cz := qcell Xx5.out 3 (.slice a1 f.kinds.length n1) rfl
    by_cases hkn : k < f.kinds.length
    · have t0 : decide ((k : Int) < (f.kinds.length : Int)) = true := by simp; omega
      have HK64 : Hid ((k : Int) + 1 ≤ 9223372036854775807) := Lib.hid (by have := LL.out; omega)
      have HKN : Hid (k < f.kinds.length) := Lib.hid hkn
      go_upto_region 6 with fail
      clear t0 cz
      obtain ⟨b0, off, ha, _⟩ := (HR.out wr BF.out).get (FaceV.kat_some HKN.out)
      subst ha
      obtain ⟨gb, hg⟩ := OW.out.at HKN.out
      subst hg
      have HC := Lib.hid (cellF_in HV.out HKN.out)
      obtain ⟨rr, hrr⟩ : ∃ z, Hid ((cellF f k).1 = z) := ⟨_, Lib.hid rfl⟩
      obtain ⟨ss, hss⟩ : ∃ z, Hid ((cellF f k).2 = z) := ⟨_, Lib.hid rfl⟩
      have HCE : Hid (cellF f k = (rr, ss)) := Lib.hid (Prod.ext hrr.out hss.out)
      rw [hrr.out, hss.out] at HC
      refine yB ?_
      refine yW (.agg (f.cells (some ⟨b0, off, none⟩) n)) ?_ (qyrow (by kernel_rfl) 28 _ rfl p rfl _ 28 (0, 0) _ (fun W hW => by rw [hW]; exact XF.out) Tryz.underlying28 rfl (by exact (qJF f (some ⟨b0, off, none⟩) n)))
      refine yM (.int .i64 (k : Int)) ?_
      refine yR (fun K hK => ?_)
      go_simp
      refine (rplace_any f (some ⟨b0, off, none⟩) n (k : Int) _ (by have := IV.out; omega) (by have := LL.out; have := HKN.out; omega)).mono ?_
      rintro e U3 ⟨rfl, b⟩
      rw [HCE.out]
      replace BF := Lib.hid (BF.out.trans (b.mono BF.out.size))
      replace OW := Lib.hid (OW.out.below b)
      replace XF := Lib.hid (qblk b XF.out)
      replace XZ := Lib.hid (qblk b XZ.out)
      replace Xx5 := Lib.hid (qblk b Xx5.out)
      clear b
      try dsimp only
      refine yK hK ?_
      clear hK K
      refine yR (fun K hK => ?_)
      refine qbuild (w' := U3.alloc (.cells #[.int .i64 0, .int .i64 0] 41)) (.pointer (some ⟨U3.heap.size, 0, none⟩)) (by kernel_rfl) ?_
      obtain ⟨x7, hx7⟩ : ∃ x, Hid (U3.heap.size = x) := ⟨_, Lib.hid rfl⟩
      have AL := Lib.hid (al1 U3 (.cells #[.int .i64 0, .int .i64 0] 41))
      rw [hx7.out] at AL ⊢
      refine yK hK ?_
      clear hK K
      refine yR (fun K hK => ?_)
      refine qstore 41 _ _ rfl x7 #[.int .i64 0, .int .i64 0] (cellA (rr, ss)) 41 rfl rfl AL.out.2 (by exact (qJC (rr, ss))) rfl (qoneC (rr, ss)) ?_
      intro U4 h8 hg8 hs8
      have b : Below U3.heap.size U3 U4 := qstep (by have h1 := AL.out.1; rw [← hx7.out] at h1; exact h1) hg8 (Nat.le_of_eq hx7.out)
      replace BF := Lib.hid (BF.out.trans (b.mono BF.out.size))
      replace OW := Lib.hid (OW.out.below b)
      replace XF := Lib.hid (qblk b XF.out)
      replace XZ := Lib.hid (qblk b XZ.out)
      replace Xx5 := Lib.hid (qblk b Xx5.out)
      clear b
      have Xx7 := Lib.hid h8
      clear h8 hg8 hs8 AL
      refine yK hK ?_
      clear hK K
      refine yE ?_
      have WS := Lib.hid (show wrap64 (ss - B) = ss - B by have := HC.out; have := HBS.out; have := IV.out; unfold wrap64; omega)
      have HSR : Hid (0 ≤ (around (ss - B) f.sectors) ∧ (around (ss - B) f.sectors) ≤ f.sectors - 1) := Lib.hid (by have := around_lt HV.out (ss - B); omega)
      have HHC : Hid (hasF f (rr, (around (ss - B) f.sectors)) = true) := Lib.hid (hasF_iff.2 ⟨by have := HC.out; exact this.1, by have := HC.out; have := HSR.out; dsimp only; omega⟩)
      have IL := Lib.hid (index_lt HV.out HC.out.1 ((around (ss - B) f.sectors)))
      obtain ⟨i, hi⟩ : ∃ i, Hid ((indexF f rr ((around (ss - B) f.sectors))).toNat = i) := ⟨_, Lib.hid rfl⟩
      have HI : Hid (indexF f rr ((around (ss - B) f.sectors)) = (i : Int)) := Lib.hid (by have := IL.out; have := hi.out; omega)
      have HL : Hid (i < f.kinds.length) := Lib.hid (by have := IL.out; have := hi.out; omega)
      have HX := Lib.hid (FaceV.kat_some HL.out)
      have HG : Hid ((turnG f B) k = f.kat i) := Lib.hid (by
        have h1 := HI.out
        rw [indexF_of HV.out rr ⟨by have := HSR.out; omega, by have := HSR.out; omega⟩] at h1
        have h2 : (k : Int) / f.sectors = rr := hrr.out
        have h3 : (k : Int) % f.sectors = ss := hss.out
        unfold turnG
        rw [h2, h3, h1, Int.toNat_natCast])
      obtain ⟨v, hv⟩ : ∃ v, Hid (f.kat i = v) := ⟨_, Lib.hid rfl⟩
      rw [hv.out] at HX HG
      have hlt : i < f.kinds.length := HL.out
      have hlk : k < f.kinds.length := HKN.out
      go_upto_region 7 with fail
      have hd : Below U4.heap.size U4 U4.drew := (Below.refl _ _).drew
      replace BF := Lib.hid (BF.out.trans (hd.mono BF.out.size))
      replace OW := Lib.hid (OW.out.below hd)
      replace XF := Lib.hid (qblk hd XF.out)
      replace XZ := Lib.hid (qblk hd XZ.out)
      replace Xx5 := Lib.hid (qblk hd Xx5.out)
      replace Xx7 := Lib.hid (qblk hd Xx7.out)
      clear hd
      refine bD 19 (fun W => Below U4.drew.heap.size U4.drew W) (Below.refl _ _) (fun hHeld => ?_)
      have BV := Lib.hid hHeld
      generalize U4.drew = V7 at *
      have GC := Lib.hid (show ∀ W, Below V7.heap.size V7 W → W.cell? ⟨b0, off + i, none⟩ = some (.int .i64 v) from fun W hb => by
        obtain ⟨b1, o1, e1, h1⟩ := (HR.out W (BF.out.trans (hb.mono BF.out.size))).get HX.out
        cases e1
        exact h1)
      refine bW 0 rfl (.pointer (some ⟨x5, 3, none⟩)) ?_
      refine bS 1 rfl (.slice (some ⟨gb, 0, none⟩) f.kinds.length n1) (fun W hW => by have c := qcell (qblk hW Xx5.out) 3 (.slice (some ⟨gb, 0, none⟩) f.kinds.length n1) rfl; go_simp) ?_
      refine bW 2 rfl (.int .i64 (k : Int)) ?_
      refine bW 3 rfl (.pointer (some ⟨p, 3, none⟩)) ?_
      refine bS 4 rfl (.slice (some ⟨b0, off, none⟩) f.kinds.length n) (fun W hW => by have c := qcell (qblk hW XF.out) 3 (.slice (some ⟨b0, off, none⟩) f.kinds.length n) rfl; go_simp) ?_
      refine bW 5 rfl (.agg (f.cells (some ⟨b0, off, none⟩) n)) (hy := qyrow (by kernel_rfl) 28 _ rfl p rfl _ 28 (0, 0) _ (fun W hW => qblk hW XF.out) Tryz.underlying28 rfl (by exact (qJF f (some ⟨b0, off, none⟩) n))) ?_
      refine bW 6 rfl (.pointer (some ⟨x7, 0, none⟩)) ?_
      refine bS 7 rfl (.int .i64 (rr, ss).1) (fun W hW => by have c := qcell (qblk hW Xx7.out) 0 (.int .i64 (rr, ss).1) rfl; go_simp) ?_
      refine bW 8 rfl (.agg (f.cells (some ⟨b0, off, none⟩) n)) (hy := qyrow (by kernel_rfl) 28 _ rfl p rfl _ 28 (0, 0) _ (fun W hW => qblk hW XF.out) Tryz.underlying28 rfl (by exact (qJF f (some ⟨b0, off, none⟩) n))) ?_
      refine bW 9 rfl (.pointer (some ⟨x7, 1, none⟩)) ?_
      refine bS 10 rfl (.int .i64 (rr, ss).2) (fun W hW => by have c := qcell (qblk hW Xx7.out) 1 (.int .i64 (rr, ss).2) rfl; go_simp) ?_
      refine bW 11 rfl (.int .i64 B) ?_
      refine bW 12 rfl (.int .i64 (ss - B)) (hy := .inl ⟨by kernel_rfl, by intro W hW; go_simp; exact (IntWalk.i64_left _).trans WS.out⟩) ?_
      refine bR 13 rfl (fun K hK => ?_)
      go_simp
      refine (rround_any f (some ⟨b0, off, none⟩) n (ss - B) _ (by have := IV.out; omega)).mono ?_
      rintro e Z2 ⟨rfl, b⟩
      have BV2 := Lib.hid (BV.out.trans (b.mono BV.out.size))
      clear b BV
      have BV := BV2
      clear BV2
      try dsimp only
      refine bK hK BV.out (fun hHeld => ?_)
      clear hK K
      refine bW 14 rfl (.agg (cellA (rr, (around (ss - B) f.sectors)))) (hy := .inl ⟨by kernel_rfl, by intro W hW; go_simp; rfl⟩) ?_
      refine bR 15 rfl (fun K hK => ?_)
      go_simp
      refine (rnum_any f (some ⟨b0, off, none⟩) n (rr, (around (ss - B) f.sectors)) _ HV.out HHC.out).mono ?_
      rintro e Z3 ⟨rfl, b⟩
      dsimp only
      rw [HI.out]
      have BV2 := Lib.hid (BV.out.trans (b.mono BV.out.size))
      clear b BV
      have BV := BV2
      clear BV2
      try dsimp only
      refine bK hK BV.out (fun hHeld => ?_)
      clear hK K
      refine bW 16 rfl (.pointer (some ⟨b0, off + i, none⟩)) ?_
      refine bS 17 rfl (.int .i64 v) (fun W hW => by have c := (GC.out W hW); go_simp) ?_
      refine bW 18 rfl (.pointer (some ⟨gb, k, none⟩)) ?_
      have bz := BV.out
      replace BF := Lib.hid (BF.out.trans (bz.mono BF.out.size))
      replace OW := Lib.hid (OW.out.below bz)
      replace XF := Lib.hid (qblk bz XF.out)
      replace XZ := Lib.hid (qblk bz XZ.out)
      replace Xx5 := Lib.hid (qblk bz Xx5.out)
      replace Xx7 := Lib.hid (qblk bz Xx7.out)
      clear bz
      clear BV
      refine bL rfl (fun K hK => ?_)
      have OP := Lib.hid (OW.out.put HKN.out v BF.out.size)
      have cc := OP.out.2.1
      have cf := OP.out.2.2.1
      go_simp
      refine hK.out _ _ ?_
      clear hK K cc cf hHeld GC
      replace BF := Lib.hid (OP.out.2.2.2.2 w BF.out)
      replace XF := Lib.hid (OP.out.2.2.2.1 _ _ XF.out (by simp))
      replace XZ := Lib.hid (OP.out.2.2.2.1 _ _ XZ.out (by simp))
      replace Xx5 := Lib.hid (OP.out.2.2.2.1 _ _ Xx5.out (by simp))
      replace OW := Lib.hid OP.out.1
      rw [partK_set _ _ HKN.out HG.out.symm] at OW
      clear OP hlt hlk
      generalize Z3.setCell ⟨gb, k, none⟩ (.int .i64 v) = X5 at *
      refine bE ?_
      go_upto_region 5 with fail
      have hk64 := HK64.out
      go_wp2_with fail
      go_roundw
      case rel => exact ⟨k + 1, by simp, by omega, BF, XF, XZ, Xx5, OW⟩
      case measure => simp [intOf]; omega
    · have t0 : decide ((k : Int) < (f.kinds.length : Int)) = false := by simp; omega
      have e : k = f.kinds.length := by omega
      subst e
      go_upto_region 8 with fail
      clear t0 cz
      go_wp2_with (first
        | (refine wpList_load_row rfl 28 _ rfl x5 rfl 28 (f.cells a1 n1) (0, 0) _ Xx5.out Tryz.underlying28 rfl (by exact qJF f a1 n1) ?_)
        | (refine wpList_qstore rfl 28 _ _ rfl z (zeroF.cells none 0) (f.cells a1 n1) 28 rfl rfl XZ.out (by exact qJF f a1 n1) rfl (qone f a1 n1) ?_; intro VZ hzz hgz; replace BF := Lib.hid (qstep BF.out hgz (by have h1 := hz.out; omega)); replace OW := Lib.hid (OW.out.kept hgz XZ.out (by decide)); replace XZ := Lib.hid hzz; clear hzz hgz)
        | fail)
      (try simp only [Exit.inBlock, Exit.then])
      refine bodyPost_ret (results_cell_row rfl _ VZ z 28 (f.cells a1 n1) (0, 0) _ rfl XZ.out Tryz.underlying28 rfl (by exact qJF f a1 n1)) rfl ?_
      refine ⟨⟨a1, n1, ?_, ?_⟩, BF.out⟩
      · rw [← turnG_all, fcells_len f _ (partK_len ..)]
      · show OwnI w VZ a1 (rTurnF f by_).kinds.length n1 (rTurnF f by_).kinds
        rw [← turnG_all, hB.out]
        show OwnI w VZ a1 (partK ..).length n1 (partK ..)
        rw [partK_len]
        exact OW.out
theorem rturned_any (f : FaceV) (a : Option Addr) (n : Nat) (by_ : Int) (w : World) (hv : f.valid = true) (hr : RdI w a f.kinds.length n f.kinds) :
    Calls Tryz.prog 99 #[.agg (f.cells a n), .int .i64 by_] w fun e w' => (∃ a' n', e = .returned (.agg ((turnF f by_).cells a' n')) ∧ FOwn w w' (turnF f by_) a' n') ∧ Below w.heap.size w w' := by
  have h := rturnedR_any f a n by_ w hv hr
  rw [rTurn_eq hv by_] at h
  exact h
set_option maxHeartbeats 4000000 in
set_option maxRecDepth 100000 in
theorem rturnP_any (f : FaceV) (a : Option Addr) (n : Nat) (by_ : Int) (w : World) (hr : RdI w a f.kinds.length n f.kinds) :
    Calls Tryz.prog 41 #[.agg (f.cells a n), .int .i64 by_] w fun e w' => (∃ a' n', e = .returned (.tuple #[.agg ((turnP f by_).1.cells a' n'), .int .i64 (turnP f by_).2]) ∧ FOwn w w' (turnP f by_).1 a' n') ∧ Below w.heap.size w w' := by
  have AV := Lib.hid (fun W (hb : Below w.heap.size w W) => rvalid_any f a n W (hr.below hb))
  have HR := Lib.hid (fun W (hb : Below w.heap.size w W) => hr.below hb)
  clear hr
  have AL := Lib.hid (al2 w (.cells (f.cells a n) 28) (.cells #[.int .i64 0, .int .i64 0, .int .i64 0, .slice none 0 0] 28))
  go_enter Tryz.func41, Tryz.ntmps41
  go_upto_region 1 with fail
  obtain ⟨p, hp⟩ : ∃ p, Hid (w.heap.size = p) := ⟨_, Lib.hid rfl⟩
  obtain ⟨z, hz⟩ : ∃ z, Hid (w.heap.size + 1 = z) := ⟨_, Lib.hid rfl⟩
  rw [hz.out] at AL ⊢
  rw [hp.out] at AL ⊢
  generalize ((w.alloc (.cells (f.cells a n) 28)).alloc (.cells #[.int .i64 0, .int .i64 0, .int .i64 0, .slice none 0 0] 28)) = W0 at *
  have BF : Hid (Below w.heap.size w W0) := Lib.hid (by rw [hp.out]; exact AL.out.1)
  have XF : Hid (W0.heap[p]? = some (.cells (f.cells a n) 28 (0, 0))) := Lib.hid AL.out.2.1
  have XZ : Hid (W0.heap[z]? = some (.cells (zeroF.cells none 0) 28 (0, 0))) := Lib.hid AL.out.2.2
  clear AL
  have c0 := qcell XF.out 0 (.int .i64 f.eye) rfl
  have c1 := qcell XF.out 1 (.int .i64 f.rings) rfl
  have c2 := qcell XF.out 2 (.int .i64 f.sectors) rfl
  have c3 := qcell XF.out 3 (.slice a f.kinds.length n) rfl
  go_wp2_with (first
    | (refine wpList_load_row rfl 28 _ rfl p rfl 28 (f.cells a n) (0, 0) _ XF.out Tryz.underlying28 rfl (by exact (qJF f a n)) ?_)
    | (refine wpList_load_row rfl 28 _ rfl z rfl 28 (zeroF.cells none 0) (0, 0) _ XZ.out Tryz.underlying28 rfl (by exact (qJF zeroF none 0)) ?_)
    | fail)
  refine (AV.out W0 BF.out).mono ?_
  rintro e V1 ⟨rfl, b⟩
  clear c0 c1 c2 c3
  replace BF := Lib.hid (BF.out.trans (b.mono BF.out.size))
  replace XF := Lib.hid (qblk b XF.out)
  replace XZ := Lib.hid (qblk b XZ.out)
  clear b
  have c0 := qcell XF.out 0 (.int .i64 f.eye) rfl
  have c1 := qcell XF.out 1 (.int .i64 f.rings) rfl
  have c2 := qcell XF.out 2 (.int .i64 f.sectors) rfl
  have c3 := qcell XF.out 3 (.slice a f.kinds.length n) rfl
  cases hv : f.valid
  · go_wp2_with (first
      | (refine wpList_load_row rfl 28 _ rfl p rfl 28 (f.cells a n) (0, 0) _ XF.out Tryz.underlying28 rfl (by exact (qJF f a n)) ?_)
      | (refine wpList_load_row rfl 28 _ rfl z rfl 28 (zeroF.cells none 0) (0, 0) _ XZ.out Tryz.underlying28 rfl (by exact (qJF zeroF none 0)) ?_)
      | (refine wpList_qstore rfl 28 _ _ rfl z (zeroF.cells none 0) (zeroF.cells none 0) 28 rfl rfl XZ.out (by exact (qJF zeroF none 0)) rfl (qone zeroF none 0) ?_; intro VZ hzz hgz; clear c0 c1 c2 c3; replace BF := Lib.hid (qstep BF.out hgz (by have h1 := hz.out; omega)); replace XF := Lib.hid (qgrown hgz XF.out (fun e => by have h1 := hp.out; have h2 := hz.out; have := Option.some.inj e; omega)); replace XZ := Lib.hid hzz; clear hzz hgz; have c0 := qcell XF.out 0 (.int .i64 f.eye) rfl; have c1 := qcell XF.out 1 (.int .i64 f.rings) rfl; have c2 := qcell XF.out 2 (.int .i64 f.sectors) rfl; have c3 := qcell XF.out 3 (.slice a f.kinds.length n) rfl)
      | fail)
    (try simp only [Exit.inBlock, Exit.then])
    refine bodyPost_ret (results_ct rfl _ VZ z 28 (zeroF.cells none 0) (0, 0) _ rfl XZ.out Tryz.underlying28 rfl (by exact (qJF zeroF none 0))) rfl ?_
    unfold turnP
    rw [hv]
    exact ⟨⟨none, 0, rfl, FOwn.nil _ _⟩, BF.out⟩
  · have HV := Lib.hid hv
    clear hv
    go_wp2_with (first
      | (refine wpList_load_row rfl 28 _ rfl p rfl 28 (f.cells a n) (0, 0) _ XF.out Tryz.underlying28 rfl (by exact (qJF f a n)) ?_)
      | (refine wpList_load_row rfl 28 _ rfl z rfl 28 (zeroF.cells none 0) (0, 0) _ XZ.out Tryz.underlying28 rfl (by exact (qJF zeroF none 0)) ?_)
      | fail)
    refine (rturned_any f a n by_ V1 HV.out (HR.out V1 BF.out)).mono ?_
    rintro e V3 ⟨⟨a', n', rfl, own⟩, b⟩
    have OW := Lib.hid (own.mono BF.out.size)
    clear own
    clear c0 c1 c2 c3
    replace BF := Lib.hid (BF.out.trans (b.mono BF.out.size))
    replace XF := Lib.hid (qblk b XF.out)
    replace XZ := Lib.hid (qblk b XZ.out)
    clear b
    have c0 := qcell XF.out 0 (.int .i64 f.eye) rfl
    have c1 := qcell XF.out 1 (.int .i64 f.rings) rfl
    have c2 := qcell XF.out 2 (.int .i64 f.sectors) rfl
    have c3 := qcell XF.out 3 (.slice a f.kinds.length n) rfl
    go_wp2_with (first
      | (refine wpList_load_row rfl 28 _ rfl p rfl 28 (f.cells a n) (0, 0) _ XF.out Tryz.underlying28 rfl (by exact (qJF f a n)) ?_)
      | (refine wpList_load_row rfl 28 _ rfl z rfl 28 (zeroF.cells none 0) (0, 0) _ XZ.out Tryz.underlying28 rfl (by exact (qJF zeroF none 0)) ?_)
      | (refine wpList_qstore rfl 28 _ _ rfl z (zeroF.cells none 0) ((turnF f by_).cells a' n') 28 rfl rfl XZ.out (by exact (qJF (turnF f by_) a' n')) rfl (qone (turnF f by_) a' n') ?_; intro VZ hzz hgz; clear c0 c1 c2 c3; replace BF := Lib.hid (qstep BF.out hgz (by have h1 := hz.out; omega)); replace XF := Lib.hid (qgrown hgz XF.out (fun e => by have h1 := hp.out; have h2 := hz.out; have := Option.some.inj e; omega)); replace OW := Lib.hid (OW.out.kept hgz XZ.out); replace XZ := Lib.hid hzz; clear hzz hgz; have c0 := qcell XF.out 0 (.int .i64 f.eye) rfl; have c1 := qcell XF.out 1 (.int .i64 f.rings) rfl; have c2 := qcell XF.out 2 (.int .i64 f.sectors) rfl; have c3 := qcell XF.out 3 (.slice a f.kinds.length n) rfl)
      | fail)
    (try simp only [Exit.inBlock, Exit.then])
    refine bodyPost_ret (results_ct rfl _ VZ z 28 ((turnF f by_).cells a' n') (0, 0) _ rfl XZ.out Tryz.underlying28 rfl (by exact (qJF (turnF f by_) a' n'))) rfl ?_
    unfold turnP
    rw [HV.out]
    exact ⟨⟨a', n', rfl, OW.out⟩, BF.out⟩
set_option maxHeartbeats 4000000 in
set_option maxRecDepth 100000 in
theorem rmirrorP_any (f : FaceV) (a : Option Addr) (n : Nat) (w : World) (hr : RdI w a f.kinds.length n f.kinds) :
    Calls Tryz.prog 43 #[.agg (f.cells a n)] w fun e w' => (∃ a' n', e = .returned (.tuple #[.agg ((mirrorP f).1.cells a' n'), .int .i64 (mirrorP f).2]) ∧ FOwn w w' (mirrorP f).1 a' n') ∧ Below w.heap.size w w' := by
  have AV := Lib.hid (fun W (hb : Below w.heap.size w W) => rvalid_any f a n W (hr.below hb))
  have HR := Lib.hid (fun W (hb : Below w.heap.size w W) => hr.below hb)
  clear hr
  have AL := Lib.hid (al2 w (.cells (f.cells a n) 28) (.cells #[.int .i64 0, .int .i64 0, .int .i64 0, .slice none 0 0] 28))
  go_enter Tryz.func43, Tryz.ntmps43
  go_upto_region 1 with fail
  obtain ⟨p, hp⟩ : ∃ p, Hid (w.heap.size = p) := ⟨_, Lib.hid rfl⟩
  obtain ⟨z, hz⟩ : ∃ z, Hid (w.heap.size + 1 = z) := ⟨_, Lib.hid rfl⟩
  rw [hz.out] at AL ⊢
  rw [hp.out] at AL ⊢
  generalize ((w.alloc (.cells (f.cells a n) 28)).alloc (.cells #[.int .i64 0, .int .i64 0, .int .i64 0, .slice none 0 0] 28)) = W0 at *
  have BF : Hid (Below w.heap.size w W0) := Lib.hid (by rw [hp.out]; exact AL.out.1)
  have XF : Hid (W0.heap[p]? = some (.cells (f.cells a n) 28 (0, 0))) := Lib.hid AL.out.2.1
  have XZ : Hid (W0.heap[z]? = some (.cells (zeroF.cells none 0) 28 (0, 0))) := Lib.hid AL.out.2.2
  clear AL
  have c0 := qcell XF.out 0 (.int .i64 f.eye) rfl
  have c1 := qcell XF.out 1 (.int .i64 f.rings) rfl
  have c2 := qcell XF.out 2 (.int .i64 f.sectors) rfl
  have c3 := qcell XF.out 3 (.slice a f.kinds.length n) rfl
  go_wp2_with (first
    | (refine wpList_load_row rfl 28 _ rfl p rfl 28 (f.cells a n) (0, 0) _ XF.out Tryz.underlying28 rfl (by exact (qJF f a n)) ?_)
    | (refine wpList_load_row rfl 28 _ rfl z rfl 28 (zeroF.cells none 0) (0, 0) _ XZ.out Tryz.underlying28 rfl (by exact (qJF zeroF none 0)) ?_)
    | fail)
  refine (AV.out W0 BF.out).mono ?_
  rintro e V1 ⟨rfl, b⟩
  clear c0 c1 c2 c3
  replace BF := Lib.hid (BF.out.trans (b.mono BF.out.size))
  replace XF := Lib.hid (qblk b XF.out)
  replace XZ := Lib.hid (qblk b XZ.out)
  clear b
  have c0 := qcell XF.out 0 (.int .i64 f.eye) rfl
  have c1 := qcell XF.out 1 (.int .i64 f.rings) rfl
  have c2 := qcell XF.out 2 (.int .i64 f.sectors) rfl
  have c3 := qcell XF.out 3 (.slice a f.kinds.length n) rfl
  cases hv : f.valid
  · go_wp2_with (first
      | (refine wpList_load_row rfl 28 _ rfl p rfl 28 (f.cells a n) (0, 0) _ XF.out Tryz.underlying28 rfl (by exact (qJF f a n)) ?_)
      | (refine wpList_load_row rfl 28 _ rfl z rfl 28 (zeroF.cells none 0) (0, 0) _ XZ.out Tryz.underlying28 rfl (by exact (qJF zeroF none 0)) ?_)
      | (refine wpList_qstore rfl 28 _ _ rfl z (zeroF.cells none 0) (zeroF.cells none 0) 28 rfl rfl XZ.out (by exact (qJF zeroF none 0)) rfl (qone zeroF none 0) ?_; intro VZ hzz hgz; clear c0 c1 c2 c3; replace BF := Lib.hid (qstep BF.out hgz (by have h1 := hz.out; omega)); replace XF := Lib.hid (qgrown hgz XF.out (fun e => by have h1 := hp.out; have h2 := hz.out; have := Option.some.inj e; omega)); replace XZ := Lib.hid hzz; clear hzz hgz; have c0 := qcell XF.out 0 (.int .i64 f.eye) rfl; have c1 := qcell XF.out 1 (.int .i64 f.rings) rfl; have c2 := qcell XF.out 2 (.int .i64 f.sectors) rfl; have c3 := qcell XF.out 3 (.slice a f.kinds.length n) rfl)
      | fail)
    (try simp only [Exit.inBlock, Exit.then])
    refine bodyPost_ret (results_ct rfl _ VZ z 28 (zeroF.cells none 0) (0, 0) _ rfl XZ.out Tryz.underlying28 rfl (by exact (qJF zeroF none 0))) rfl ?_
    unfold mirrorP
    rw [hv]
    exact ⟨⟨none, 0, rfl, FOwn.nil _ _⟩, BF.out⟩
  · have HV := Lib.hid hv
    have IV := Lib.hid (FaceV.int hv)
    have LL := Lib.hid (FaceV.len_le hv)
    clear hv
    clear c0 c1 c2 c3
    go_upto_region 3 with fail
    refine yB ?_
    refine yW (.agg (f.cells a n)) ?_ (qyrow (by kernel_rfl) 28 _ rfl p rfl _ 28 (0, 0) _ (fun W hW => by rw [hW]; exact XF.out) Tryz.underlying28 rfl (by exact (qJF f a n)))
    refine yR (fun K hK => ?_)
    go_simp
    refine (rcopied_any f a n _ (by have := LL.out; omega) (HR.out _ BF.out)).mono ?_
    rintro e U1 ⟨⟨a1, n1, rfl, own⟩, b⟩
    have OW := Lib.hid (own.mono BF.out.size)
    clear own
    replace BF := Lib.hid (BF.out.trans (b.mono BF.out.size))
    replace XF := Lib.hid (qblk b XF.out)
    replace XZ := Lib.hid (qblk b XZ.out)
    clear b
    try dsimp only
    refine yK hK ?_
    clear hK K
    refine yR (fun K hK => ?_)
    refine qbuild (w' := U1.alloc (.cells #[.int .i64 0, .int .i64 0, .int .i64 0, .slice none 0 0] 28)) (.pointer (some ⟨U1.heap.size, 0, none⟩)) (by kernel_rfl) ?_
    obtain ⟨x4, hx4⟩ : ∃ x, Hid (U1.heap.size = x) := ⟨_, Lib.hid rfl⟩
    have AL := Lib.hid (al1 U1 (.cells #[.int .i64 0, .int .i64 0, .int .i64 0, .slice none 0 0] 28))
    rw [hx4.out] at AL ⊢
    refine yK hK ?_
    clear hK K
    refine yR (fun K hK => ?_)
    refine qstore 28 _ _ rfl x4 #[.int .i64 0, .int .i64 0, .int .i64 0, .slice none 0 0] (f.cells a1 n1) 28 rfl rfl AL.out.2 (by exact qJF f a1 n1) rfl (qone f a1 n1) ?_
    intro U2 h8 hg8 hs8
    have b : Below U1.heap.size U1 U2 := qstep (by have h1 := AL.out.1; rw [← hx4.out] at h1; exact h1) hg8 (Nat.le_of_eq hx4.out)
    replace BF := Lib.hid (BF.out.trans (b.mono BF.out.size))
    replace OW := Lib.hid (OW.out.below b)
    replace XF := Lib.hid (qblk b XF.out)
    replace XZ := Lib.hid (qblk b XZ.out)
    clear b
    have Xx4 := Lib.hid h8
    clear h8 hg8 hs8 AL
    refine yK hK ?_
    clear hK K
    refine yE ?_
    have OW0 : Hid (OwnI w U2 a1 f.kinds.length n1 (partK f.kinds (mirrG f) 0)) := Lib.hid (by rw [partK_zero]; exact OW.out)
    clear OW
    have OW := OW0
    clear OW0
    go_upto_region 4 with fail
    go_wp2_with fail
    generalize U2 = Y1 at *
    go_loopw [5] (fun v wr => ∃ k : Nat, v = .int .i64 (k : Int) ∧ k ≤ f.kinds.length ∧ Hid (Below w.heap.size w wr) ∧ Hid (wr.heap[p]? = some (.cells (f.cells a n) 28 (0, 0))) ∧ Hid (wr.heap[z]? = some (.cells (zeroF.cells none 0) 28 (0, 0))) ∧ Hid (wr.heap[x4]? = some (.cells (f.cells a1 n1) 28 (0, 0))) ∧ Hid (OwnI w wr a1 f.kinds.length n1 (partK f.kinds (mirrG f) k))) (fun v _ => f.kinds.length - (intOf v).toNat)
    case atStart => exact ⟨0, rfl, Nat.zero_le _, BF, XF, XZ, Xx4, OW⟩
    case round =>
      clear BF XF XZ Xx4 OW
      obtain ⟨k, rfl, hk, BF, XF, XZ, Xx4, OW⟩ := hrel
      have cz := qcell Xx4.out 3 (.slice a1 f.kinds.length n1) rfl
      by_cases hkn : k < f.kinds.length
      · have t0 : decide ((k : Int) < (f.kinds.length : Int)) = true := by simp; omega
        have HK64 : Hid ((k : Int) + 1 ≤ 9223372036854775807) := Lib.hid (by have := LL.out; omega)
        have HKN : Hid (k < f.kinds.length) := Lib.hid hkn
        go_upto_region 7 with fail
        clear t0 cz
        obtain ⟨b0, off, ha, _⟩ := (HR.out wr BF.out).get (FaceV.kat_some HKN.out)
        subst ha
        obtain ⟨gb, hg⟩ := OW.out.at HKN.out
        subst hg
        have HC := Lib.hid (cellF_in HV.out HKN.out)
        obtain ⟨rr, hrr⟩ : ∃ z, Hid ((cellF f k).1 = z) := ⟨_, Lib.hid rfl⟩
        obtain ⟨ss, hss⟩ : ∃ z, Hid ((cellF f k).2 = z) := ⟨_, Lib.hid rfl⟩
        have HCE : Hid (cellF f k = (rr, ss)) := Lib.hid (Prod.ext hrr.out hss.out)
        rw [hrr.out, hss.out] at HC
        refine yB ?_
        refine yW (.agg (f.cells (some ⟨b0, off, none⟩) n)) ?_ (qyrow (by kernel_rfl) 28 _ rfl p rfl _ 28 (0, 0) _ (fun W hW => by rw [hW]; exact XF.out) Tryz.underlying28 rfl (by exact (qJF f (some ⟨b0, off, none⟩) n)))
        refine yM (.int .i64 (k : Int)) ?_
        refine yR (fun K hK => ?_)
        go_simp
        refine (rplace_any f (some ⟨b0, off, none⟩) n (k : Int) _ (by have := IV.out; omega) (by have := LL.out; have := HKN.out; omega)).mono ?_
        rintro e U3 ⟨rfl, b⟩
        rw [HCE.out]
        replace BF := Lib.hid (BF.out.trans (b.mono BF.out.size))
        replace OW := Lib.hid (OW.out.below b)
        replace XF := Lib.hid (qblk b XF.out)
        replace XZ := Lib.hid (qblk b XZ.out)
        replace Xx4 := Lib.hid (qblk b Xx4.out)
        clear b
        try dsimp only
        refine yK hK ?_
        clear hK K
        refine yR (fun K hK => ?_)
        refine qbuild (w' := U3.alloc (.cells #[.int .i64 0, .int .i64 0] 41)) (.pointer (some ⟨U3.heap.size, 0, none⟩)) (by kernel_rfl) ?_
        obtain ⟨x6, hx6⟩ : ∃ x, Hid (U3.heap.size = x) := ⟨_, Lib.hid rfl⟩
        have AL := Lib.hid (al1 U3 (.cells #[.int .i64 0, .int .i64 0] 41))
        rw [hx6.out] at AL ⊢
        refine yK hK ?_
        clear hK K
        refine yR (fun K hK => ?_)
        refine qstore 41 _ _ rfl x6 #[.int .i64 0, .int .i64 0] (cellA (rr, ss)) 41 rfl rfl AL.out.2 (by exact (qJC (rr, ss))) rfl (qoneC (rr, ss)) ?_
        intro U4 h8 hg8 hs8
        have b : Below U3.heap.size U3 U4 := qstep (by have h1 := AL.out.1; rw [← hx6.out] at h1; exact h1) hg8 (Nat.le_of_eq hx6.out)
        replace BF := Lib.hid (BF.out.trans (b.mono BF.out.size))
        replace OW := Lib.hid (OW.out.below b)
        replace XF := Lib.hid (qblk b XF.out)
        replace XZ := Lib.hid (qblk b XZ.out)
        replace Xx4 := Lib.hid (qblk b Xx4.out)
        clear b
        have Xx6 := Lib.hid h8
        clear h8 hg8 hs8 AL
        refine yK hK ?_
        clear hK K
        refine yE ?_
        have WS1 := Lib.hid (show wrap64 (f.sectors - 1) = f.sectors - 1 by have := IV.out; unfold wrap64; omega)
        have WS2 := Lib.hid (show wrap64 (f.sectors - 1 - ss) = f.sectors - 1 - ss by have := HC.out; have := IV.out; unfold wrap64; omega)
        have HSR : Hid (0 ≤ (f.sectors - 1 - ss) ∧ (f.sectors - 1 - ss) ≤ f.sectors - 1) := Lib.hid (by have := HC.out; omega)
        have HHC : Hid (hasF f (rr, (f.sectors - 1 - ss)) = true) := Lib.hid (hasF_iff.2 ⟨by have := HC.out; exact this.1, by have := HC.out; have := HSR.out; dsimp only; omega⟩)
        have IL := Lib.hid (index_lt HV.out HC.out.1 ((f.sectors - 1 - ss)))
        obtain ⟨i, hi⟩ : ∃ i, Hid ((indexF f rr ((f.sectors - 1 - ss))).toNat = i) := ⟨_, Lib.hid rfl⟩
        have HI : Hid (indexF f rr ((f.sectors - 1 - ss)) = (i : Int)) := Lib.hid (by have := IL.out; have := hi.out; omega)
        have HL : Hid (i < f.kinds.length) := Lib.hid (by have := IL.out; have := hi.out; omega)
        have HX := Lib.hid (FaceV.kat_some HL.out)
        have HG : Hid ((mirrG f) k = f.kat i) := Lib.hid (by
          have h1 := HI.out
          rw [indexF_of HV.out rr ⟨by have := HSR.out; omega, by have := HSR.out; omega⟩] at h1
          have h2 : (k : Int) / f.sectors = rr := hrr.out
          have h3 : (k : Int) % f.sectors = ss := hss.out
          unfold mirrG
          rw [h2, h3, h1, Int.toNat_natCast])
        obtain ⟨v, hv⟩ : ∃ v, Hid (f.kat i = v) := ⟨_, Lib.hid rfl⟩
        rw [hv.out] at HX HG
        have hlt : i < f.kinds.length := HL.out
        have hlk : k < f.kinds.length := HKN.out
        go_upto_region 8 with fail
        have hd : Below U4.heap.size U4 U4.drew := (Below.refl _ _).drew
        replace BF := Lib.hid (BF.out.trans (hd.mono BF.out.size))
        replace OW := Lib.hid (OW.out.below hd)
        replace XF := Lib.hid (qblk hd XF.out)
        replace XZ := Lib.hid (qblk hd XZ.out)
        replace Xx4 := Lib.hid (qblk hd Xx4.out)
        replace Xx6 := Lib.hid (qblk hd Xx6.out)
        clear hd
        refine bD 19 (fun W => Below U4.drew.heap.size U4.drew W) (Below.refl _ _) (fun hHeld => ?_)
        have BV := Lib.hid hHeld
        generalize U4.drew = V7 at *
        have GC := Lib.hid (show ∀ W, Below V7.heap.size V7 W → W.cell? ⟨b0, off + i, none⟩ = some (.int .i64 v) from fun W hb => by
          obtain ⟨b1, o1, e1, h1⟩ := (HR.out W (BF.out.trans (hb.mono BF.out.size))).get HX.out
          cases e1
          exact h1)
        refine bW 0 rfl (.pointer (some ⟨x4, 3, none⟩)) ?_
        refine bS 1 rfl (.slice (some ⟨gb, 0, none⟩) f.kinds.length n1) (fun W hW => by have c := qcell (qblk hW Xx4.out) 3 (.slice (some ⟨gb, 0, none⟩) f.kinds.length n1) rfl; go_simp) ?_
        refine bW 2 rfl (.int .i64 (k : Int)) ?_
        refine bW 3 rfl (.pointer (some ⟨p, 3, none⟩)) ?_
        refine bS 4 rfl (.slice (some ⟨b0, off, none⟩) f.kinds.length n) (fun W hW => by have c := qcell (qblk hW XF.out) 3 (.slice (some ⟨b0, off, none⟩) f.kinds.length n) rfl; go_simp) ?_
        refine bW 5 rfl (.agg (f.cells (some ⟨b0, off, none⟩) n)) (hy := qyrow (by kernel_rfl) 28 _ rfl p rfl _ 28 (0, 0) _ (fun W hW => qblk hW XF.out) Tryz.underlying28 rfl (by exact (qJF f (some ⟨b0, off, none⟩) n))) ?_
        refine bW 6 rfl (.pointer (some ⟨x6, 0, none⟩)) ?_
        refine bS 7 rfl (.int .i64 (rr, ss).1) (fun W hW => by have c := qcell (qblk hW Xx6.out) 0 (.int .i64 (rr, ss).1) rfl; go_simp) ?_
        refine bW 8 rfl (.pointer (some ⟨p, 2, none⟩)) ?_
        refine bS 9 rfl (.int .i64 f.sectors) (fun W hW => by have c := qcell (qblk hW XF.out) 2 (.int .i64 f.sectors) rfl; go_simp) ?_
        refine bW 10 rfl (.int .i64 (f.sectors - 1)) (hy := .inl ⟨by kernel_rfl, by intro W hW; go_simp; exact (IntWalk.i64_left _).trans WS1.out⟩) ?_
        refine bW 11 rfl (.pointer (some ⟨x6, 1, none⟩)) ?_
        refine bS 12 rfl (.int .i64 (rr, ss).2) (fun W hW => by have c := qcell (qblk hW Xx6.out) 1 (.int .i64 (rr, ss).2) rfl; go_simp) ?_
        refine bW 13 rfl (.int .i64 (f.sectors - 1 - ss)) (hy := .inl ⟨by kernel_rfl, by intro W hW; go_simp; exact (IntWalk.i64_left _).trans WS2.out⟩) ?_
        refine bW 14 rfl (.agg (cellA (rr, (f.sectors - 1 - ss)))) (hy := .inl ⟨by kernel_rfl, by intro W hW; go_simp; rfl⟩) ?_
        refine bR 15 rfl (fun K hK => ?_)
        go_simp
        refine (rnum_any f (some ⟨b0, off, none⟩) n (rr, (f.sectors - 1 - ss)) _ HV.out HHC.out).mono ?_
        rintro e Z3 ⟨rfl, b⟩
        dsimp only
        rw [HI.out]
        have BV2 := Lib.hid (BV.out.trans (b.mono BV.out.size))
        clear b BV
        have BV := BV2
        clear BV2
        try dsimp only
        refine bK hK BV.out (fun hHeld => ?_)
        clear hK K
        refine bW 16 rfl (.pointer (some ⟨b0, off + i, none⟩)) ?_
        refine bS 17 rfl (.int .i64 v) (fun W hW => by have c := (GC.out W hW); go_simp) ?_
        refine bW 18 rfl (.pointer (some ⟨gb, k, none⟩)) ?_
        have bz := BV.out
        replace BF := Lib.hid (BF.out.trans (bz.mono BF.out.size))
        replace OW := Lib.hid (OW.out.below bz)
        replace XF := Lib.hid (qblk bz XF.out)
        replace XZ := Lib.hid (qblk bz XZ.out)
        replace Xx4 := Lib.hid (qblk bz Xx4.out)
        replace Xx6 := Lib.hid (qblk bz Xx6.out)
        clear bz
        clear BV
        refine bL rfl (fun K hK => ?_)
        have OP := Lib.hid (OW.out.put HKN.out v BF.out.size)
        have cc := OP.out.2.1
        have cf := OP.out.2.2.1
        go_simp
        refine hK.out _ _ ?_
        clear hK K cc cf hHeld GC
        replace BF := Lib.hid (OP.out.2.2.2.2 w BF.out)
        replace XF := Lib.hid (OP.out.2.2.2.1 _ _ XF.out (by simp))
        replace XZ := Lib.hid (OP.out.2.2.2.1 _ _ XZ.out (by simp))
        replace Xx4 := Lib.hid (OP.out.2.2.2.1 _ _ Xx4.out (by simp))
        replace OW := Lib.hid OP.out.1
        rw [partK_set _ _ HKN.out HG.out.symm] at OW
        clear OP hlt hlk
        generalize Z3.setCell ⟨gb, k, none⟩ (.int .i64 v) = X5 at *
        refine bE ?_
        go_upto_region 6 with fail
        have hk64 := HK64.out
        go_wp2_with fail
        go_roundw
        case rel => exact ⟨k + 1, by simp, by omega, BF, XF, XZ, Xx4, OW⟩
        case measure => simp [intOf]; omega
      · have t0 : decide ((k : Int) < (f.kinds.length : Int)) = false := by simp; omega
        have e : k = f.kinds.length := by omega
        subst e
        go_upto_region 9 with fail
        clear t0 cz
        go_wp2_with (first
          | (refine wpList_load_row rfl 28 _ rfl x4 rfl 28 (f.cells a1 n1) (0, 0) _ Xx4.out Tryz.underlying28 rfl (by exact qJF f a1 n1) ?_)
          | (refine wpList_qstore rfl 28 _ _ rfl z (zeroF.cells none 0) (f.cells a1 n1) 28 rfl rfl XZ.out (by exact qJF f a1 n1) rfl (qone f a1 n1) ?_; intro VZ hzz hgz; replace BF := Lib.hid (qstep BF.out hgz (by have h1 := hz.out; omega)); replace OW := Lib.hid (OW.out.kept hgz XZ.out (by decide)); replace XZ := Lib.hid hzz; clear hzz hgz)
          | fail)
        (try simp only [Exit.inBlock, Exit.then])
        refine bodyPost_ret (results_ct rfl _ VZ z 28 (f.cells a1 n1) (0, 0) _ rfl XZ.out Tryz.underlying28 rfl (by exact qJF f a1 n1)) rfl ?_
        unfold mirrorP
        rw [HV.out]
        refine ⟨⟨a1, n1, ?_, ?_⟩, BF.out⟩
        · show _ = Ending.returned (.tuple #[.agg ((mirrorF f).cells a1 n1), .int .i64 0])
          rw [← rMirror_eq HV.out, ← mirrG_all, fcells_len f _ (partK_len ..)]
          rfl
        · show OwnI w VZ a1 (mirrorF f).kinds.length n1 (mirrorF f).kinds
          rw [← rMirror_eq HV.out, ← mirrG_all]
          show OwnI w VZ a1 (partK ..).length n1 (partK ..)
          rw [partK_len]
          exact OW.out
end Go.Proofs.YtimmadkbkimonaaGreatDoor
namespace Go.Proofs.YtimmadkbkimonaaGreatDoor
set_option linter.unusedSimpArgs false
set_option linter.unusedVariables false
open Go.RowKit

theorem lessB_same : ∀ {l l' : List Int}, l.length = l'.length → (∀ j : Nat, j < l.length → l[j]?.getD 0 = l'[j]?.getD 0) → lessB l l' = false
  | [], [], _, _ => rfl
  | [], _ :: _, h, _ => by cases h
  | _ :: _, [], h, _ => by cases h
  | x :: xs, y :: ys, h, hh => by
    have h0 : x = y := by have := hh 0 (by simp); simpa using this
    unfold lessB
    rw [if_pos h0]
    exact lessB_same (by simpa using h) (fun j hj => by have := hh (j + 1) (by simp; omega); simpa using this)
theorem lessB_at : ∀ {l l' : List Int} {k : Nat}, l.length = l'.length → k < l.length → (∀ j : Nat, j < k → l[j]?.getD 0 = l'[j]?.getD 0) → l[k]?.getD 0 ≠ l'[k]?.getD 0 → lessB l l' = decide (l[k]?.getD 0 < l'[k]?.getD 0)
  | [], _, k, _, hk, _, _ => by simp at hk
  | _ :: _, [], _, h, _, _, _ => by cases h
  | x :: xs, y :: ys, 0, h, hk, hh, hn => by
    have hn2 : x ≠ y := by simpa using hn
    unfold lessB
    rw [if_neg hn2]
    simp
  | x :: xs, y :: ys, k + 1, h, hk, hh, hn => by
    have h0 : x = y := by have := hh 0 (by omega); simpa using this
    unfold lessB
    rw [if_pos h0]
    have := lessB_at (l := xs) (l' := ys) (k := k) (by simpa using h) (by simp at hk; omega) (fun j hj => by have := hh (j + 1) (by omega); simpa using this) (by simpa using hn)
    rw [this]
    simp
theorem rless_any (a : Option Addr) (n c : Nat) (l : List Int) (a' : Option Addr) (c' : Nat) (l' : List Int) (w : World) (hr : RdI w a n c l) (hr' : RdI w a' n c' l') :
    Calls Tryz.prog 104 #[.slice a n c, .slice a' n c'] w fun e w' => e = .returned (.bool (lessB l l')) ∧ Below w.heap.size w w' := by
  have hm := RdI.maxn hr
  have hl := Lib.hid hr.len
  have hl' := Lib.hid hr'.len
  have QF : Hid ((∀ j, j < n → l[j]?.getD 0 = l'[j]?.getD 0) → lessB l l' = false) := Lib.hid (fun h => lessB_same (by rw [hl.out, hl'.out]) (fun j hj => h j (by rw [hl.out] at hj; omega)))
  have QG : Hid (∀ k : Nat, k < n → (∀ j : Nat, j < k → l[j]?.getD 0 = l'[j]?.getD 0) → l[k]?.getD 0 ≠ l'[k]?.getD 0 → lessB l l' = decide (l[k]?.getD 0 < l'[k]?.getD 0)) := Lib.hid (fun k hk h h2 => lessB_at (by rw [hl.out, hl'.out]) (by rw [hl.out]; omega) h h2)
  generalize lessB l l' = q at *
  go_enter Tryz.func104, Tryz.ntmps104
  go_wp2
  go_loopw [5] (fun i wr => ∃ k : Nat, k ≤ n ∧ i = .int .i64 k ∧ (∀ j, j < k → l[j]?.getD 0 = l'[j]?.getD 0) ∧ ∃ q, wr = w.drewN q) (fun i _ => n - (intOf i).toNat)
  case atStart => exact ⟨0, Nat.zero_le _, rfl, fun j hj => by omega, 0, rfl⟩
  case round =>
    obtain ⟨k, hk, rfl, hrl, q9, rfl⟩ := hrel
    have HR := Lib.hid hrl; clear hrl
    by_cases hlt : k < n
    · obtain ⟨b, off, rfl, hc⟩ := hr.at (by omega)
      obtain ⟨b', off', rfl, hc'⟩ := hr'.at (by omega)
      have hx := hc k hlt
      have hx' := hc' k hlt
      clear hc hc' hr hr'
      have hk64 : (k : Int) ≤ 9223372036854775807 := by omega
      by_cases he : l[k]?.getD 0 = l'[k]?.getD 0
      · have hb := int_eq he
        have HE := Lib.hid he; clear he
        go_wp2
        go_quiet (fail)
        go_wp2
        go_roundw
        case rel => exact ⟨k + 1, by omega, by go_num, fun j hj => by
          rcases Nat.lt_succ_iff_lt_or_eq.1 hj with h | h
          · exact HR.out j h
          · rw [h]; exact HE.out, _, rfl⟩
        case measure => simp [intOf]; omega
      · have hb := int_ne he
        have HE := Lib.hid (QG.out k hlt HR.out he); clear he
        obtain ⟨x, hx9⟩ : ∃ x, Hid (l[k]?.getD 0 = x) := ⟨_, Lib.hid rfl⟩
        obtain ⟨y, hy9⟩ : ∃ x, Hid (l'[k]?.getD 0 = x) := ⟨_, Lib.hid rfl⟩
        rw [hx9.out] at hx hb HE
        rw [hy9.out] at hx' hb HE
        cases hlt9 : decide (x < y)
        · have HN := Lib.hid (HE.out.trans hlt9)
          go_wp2
          go_quiet (fail)
          go_wp2
          go_quiet (fail)
          go_wp2
          go_ret
          exact ⟨by rw [HN.out]; rfl, rfl, rfl, rfl, Nat.le_refl _, fun _ _ => rfl⟩
        · have HN := Lib.hid (HE.out.trans hlt9)
          go_wp2
          go_quiet (fail)
          go_wp2
          go_quiet (fail)
          go_wp2
          go_ret
          exact ⟨by rw [HN.out]; rfl, rfl, rfl, rfl, Nat.le_refl _, fun _ _ => rfl⟩
    · have HE := Lib.hid (QF.out (fun j hj => HR.out j (by omega)))
      go_wp2
      go_ret
      exact ⟨by rw [HE.out]; rfl, rfl, rfl, rfl, Nat.le_refl _, fun _ _ => rfl⟩
end Go.Proofs.YtimmadkbkimonaaGreatDoor
namespace Go.Proofs.YtimmadkbkimonaaGreatDoor
set_option linter.unusedSimpArgs false
set_option linter.unusedVariables false
open Go.RowKit

def norR (f : FaceV) (k : Nat) : FaceV := (List.range' 1 (k - 1)).foldl (fun best (n : Nat) => if lessB (rTurnF f n).kinds best.kinds = true then rTurnF f n else best) f
theorem norR_succ {f : FaceV} (hv : f.valid = true) {k : Nat} (h : 1 ≤ k) : norR f (k + 1) = if lessB (turnF f k).kinds (norR f k).kinds = true then turnF f k else norR f k := by
  unfold norR
  rw [show k + 1 - 1 = (k - 1) + 1 by omega, List.range'_concat, List.foldl_append]
  simp only [List.foldl_cons, List.foldl_nil, Nat.one_mul]
  rw [show 1 + (k - 1) = k by omega, rTurn_eq hv]
theorem norR_all {f : FaceV} (hv : f.valid = true) : norR f f.S = normalF f := by rw [← rNormal_eq hv]; rfl
theorem turnF_len {f : FaceV} (hv : f.valid = true) (b : Int) : (turnF f b).kinds.length = f.kinds.length := by
  show (mapK f f.S (fun s => s - around b f.sectors) f.R).length = _
  rw [mapK_len, (FaceV.nat hv).2.2.2.2.2.2]
theorem norR_len {f : FaceV} (hv : f.valid = true) : ∀ k : Nat, (norR f k).kinds.length = f.kinds.length
  | 0 => rfl
  | k + 1 => by
    rcases Nat.eq_zero_or_pos k with h | h
    · subst h; rfl
    · rw [norR_succ hv h]
      split
      · exact turnF_len hv _
      · exact norR_len hv k
theorem rless2_any (a : Option Addr) (n c : Nat) (l : List Int) (a' : Option Addr) (n' c' : Nat) (l' : List Int) (w : World) (hn : n' = n) (hr : RdI w a n c l) (hr' : RdI w a' n' c' l') :
    Calls Tryz.prog 104 #[.slice a n c, .slice a' n' c'] w fun e w' => e = .returned (.bool (lessB l l')) ∧ Below w.heap.size w w' := by
  subst hn
  exact rless_any a n' c l a' c' l' w hr hr'
set_option maxHeartbeats 4000000 in
set_option maxRecDepth 100000 in
theorem rnormalP_any (f : FaceV) (a : Option Addr) (n : Nat) (w : World) (hr : RdI w a f.kinds.length n f.kinds) :
    Calls Tryz.prog 45 #[.agg (f.cells a n)] w fun e w' => (∃ a' n', e = .returned (.tuple #[.agg ((normalP f).1.cells a' n'), .int .i64 (normalP f).2]) ∧ FOwn w w' (normalP f).1 a' n') ∧ Below w.heap.size w w' := by
  have AV := Lib.hid (fun W (hb : Below w.heap.size w W) => rvalid_any f a n W (hr.below hb))
  have HR := Lib.hid (fun W (hb : Below w.heap.size w W) => hr.below hb)
  clear hr
  have AL := Lib.hid (al2 w (.cells (f.cells a n) 28) (.cells #[.int .i64 0, .int .i64 0, .int .i64 0, .slice none 0 0] 28))
  go_enter Tryz.func45, Tryz.ntmps45
  go_upto_region 1 with fail
  obtain ⟨p, hp⟩ : ∃ p, Hid (w.heap.size = p) := ⟨_, Lib.hid rfl⟩
  obtain ⟨z, hz⟩ : ∃ z, Hid (w.heap.size + 1 = z) := ⟨_, Lib.hid rfl⟩
  rw [hz.out] at AL ⊢
  rw [hp.out] at AL ⊢
  generalize ((w.alloc (.cells (f.cells a n) 28)).alloc (.cells #[.int .i64 0, .int .i64 0, .int .i64 0, .slice none 0 0] 28)) = W0 at *
  have BF : Hid (Below w.heap.size w W0) := Lib.hid (by rw [hp.out]; exact AL.out.1)
  have XF : Hid (W0.heap[p]? = some (.cells (f.cells a n) 28 (0, 0))) := Lib.hid AL.out.2.1
  have XZ : Hid (W0.heap[z]? = some (.cells (zeroF.cells none 0) 28 (0, 0))) := Lib.hid AL.out.2.2
  clear AL
  have c0 := qcell XF.out 0 (.int .i64 f.eye) rfl
  have c1 := qcell XF.out 1 (.int .i64 f.rings) rfl
  have c2 := qcell XF.out 2 (.int .i64 f.sectors) rfl
  have c3 := qcell XF.out 3 (.slice a f.kinds.length n) rfl
  go_wp2_with (first
    | (refine wpList_load_row rfl 28 _ rfl p rfl 28 (f.cells a n) (0, 0) _ XF.out Tryz.underlying28 rfl (by exact (qJF f a n)) ?_)
    | (refine wpList_load_row rfl 28 _ rfl z rfl 28 (zeroF.cells none 0) (0, 0) _ XZ.out Tryz.underlying28 rfl (by exact (qJF zeroF none 0)) ?_)
    | fail)
  refine (AV.out W0 BF.out).mono ?_
  rintro e V1 ⟨rfl, b⟩
  clear c0 c1 c2 c3
  replace BF := Lib.hid (BF.out.trans (b.mono BF.out.size))
  replace XF := Lib.hid (qblk b XF.out)
  replace XZ := Lib.hid (qblk b XZ.out)
  clear b
  have c0 := qcell XF.out 0 (.int .i64 f.eye) rfl
  have c1 := qcell XF.out 1 (.int .i64 f.rings) rfl
  have c2 := qcell XF.out 2 (.int .i64 f.sectors) rfl
  have c3 := qcell XF.out 3 (.slice a f.kinds.length n) rfl
  cases hv : f.valid
  · go_wp2_with (first
      | (refine wpList_load_row rfl 28 _ rfl p rfl 28 (f.cells a n) (0, 0) _ XF.out Tryz.underlying28 rfl (by exact (qJF f a n)) ?_)
      | (refine wpList_load_row rfl 28 _ rfl z rfl 28 (zeroF.cells none 0) (0, 0) _ XZ.out Tryz.underlying28 rfl (by exact (qJF zeroF none 0)) ?_)
      | (refine wpList_qstore rfl 28 _ _ rfl z (zeroF.cells none 0) (zeroF.cells none 0) 28 rfl rfl XZ.out (by exact (qJF zeroF none 0)) rfl (qone zeroF none 0) ?_; intro VZ hzz hgz; clear c0 c1 c2 c3; replace BF := Lib.hid (qstep BF.out hgz (by have h1 := hz.out; omega)); replace XF := Lib.hid (qgrown hgz XF.out (fun e => by have h1 := hp.out; have h2 := hz.out; have := Option.some.inj e; omega)); replace XZ := Lib.hid hzz; clear hzz hgz; have c0 := qcell XF.out 0 (.int .i64 f.eye) rfl; have c1 := qcell XF.out 1 (.int .i64 f.rings) rfl; have c2 := qcell XF.out 2 (.int .i64 f.sectors) rfl; have c3 := qcell XF.out 3 (.slice a f.kinds.length n) rfl)
      | fail)
    (try simp only [Exit.inBlock, Exit.then])
    refine bodyPost_ret (results_ct rfl _ VZ z 28 (zeroF.cells none 0) (0, 0) _ rfl XZ.out Tryz.underlying28 rfl (by exact (qJF zeroF none 0))) rfl ?_
    unfold normalP
    rw [hv]
    exact ⟨⟨none, 0, rfl, FOwn.nil _ _⟩, BF.out⟩
  · have HV := Lib.hid hv
    have IV := Lib.hid (FaceV.int hv)
    have NV := Lib.hid (FaceV.nat hv)
    have LL := Lib.hid (FaceV.len_le hv)
    clear hv
    have LZ : Hid (p < V1.heap.size ∧ z < V1.heap.size) := Lib.hid ⟨qlt XF.out, qlt XZ.out⟩
    clear c0 c1 c2 c3
    go_upto_region 3 with fail
    refine yB ?_
    refine yW (.agg (f.cells a n)) ?_ (qyrow (by kernel_rfl) 28 _ rfl p rfl _ 28 (0, 0) _ (fun W hW => by rw [hW]; exact XF.out) Tryz.underlying28 rfl (by exact (qJF f a n)))
    refine yR (fun K hK => ?_)
    go_simp
    refine (rcopied_any f a n _ (by have := LL.out; omega) (HR.out _ BF.out)).mono ?_
    rintro e U9 ⟨⟨a1, n1, rfl, own⟩, b⟩
    have OG := Lib.hid (show FOwn w U9 (norR f 1) a1 n1 from own.mono BF.out.size)
    clear own
    replace LZ : Hid (p < U9.heap.size ∧ z < U9.heap.size) := Lib.hid ⟨Nat.lt_of_lt_of_le LZ.out.1 b.size, Nat.lt_of_lt_of_le LZ.out.2 b.size⟩
    have BZ : Hid (w.heap.size ≤ U9.heap.size) := Lib.hid (Nat.le_trans BF.out.size b.size)
    replace BF := Lib.hid (BF.out.trans (b.mono BF.out.size))
    replace XF := Lib.hid (qblk b XF.out)
    replace XZ := Lib.hid (qblk b XZ.out)
    clear b
    try dsimp only
    refine yK hK ?_
    clear hK K
    refine yR (fun K hK => ?_)
    refine qbuild (w' := U9.alloc (.cells #[.int .i64 0, .int .i64 0, .int .i64 0, .slice none 0 0] 28)) (.pointer (some ⟨U9.heap.size, 0, none⟩)) (by kernel_rfl) ?_
    obtain ⟨x4, hx4⟩ : ∃ x, Hid (U9.heap.size = x) := ⟨_, Lib.hid rfl⟩
    have AL := Lib.hid (al1 U9 (.cells #[.int .i64 0, .int .i64 0, .int .i64 0, .slice none 0 0] 28))
    rw [hx4.out] at AL ⊢
    refine yK hK ?_
    clear hK K
    refine yR (fun K hK => ?_)
    refine qstore 28 _ _ rfl x4 #[.int .i64 0, .int .i64 0, .int .i64 0, .slice none 0 0] (f.cells a1 n1) 28 rfl rfl AL.out.2 (by exact qJF f a1 n1) rfl (qone f a1 n1) ?_
    intro U2 h8 hg8 hs8
    have b : Below U9.heap.size U9 U2 := qstep (by have h1 := AL.out.1; rw [← hx4.out] at h1; exact h1) hg8 (Nat.le_of_eq hx4.out)
    replace BF := Lib.hid (BF.out.trans (b.mono BF.out.size))
    replace OG := Lib.hid (OG.out.below b)
    replace XF := Lib.hid (qblk b XF.out)
    replace XZ := Lib.hid (qblk b XZ.out)
    clear b
    have Xx4 := Lib.hid h8
    clear h8 hg8 hs8 AL
    refine yK hK ?_
    clear hK K
    refine yE ?_
    have LG : Hid (w.heap.size ≤ x4 ∧ p < x4 ∧ z < x4) := Lib.hid (by have h1 := hx4.out; have h2 := LZ.out; have h3 := BZ.out; omega)
    clear LZ BZ
    go_wp2_with fail
    generalize U2 = Y1 at *
    go_loopw [5] (fun i wr => ∃ (k : Nat) (la : Option Addr) (ln : Nat), i = .int .i64 (k : Int) ∧ 1 ≤ k ∧ k ≤ f.S ∧ Hid (FOwn w wr (norR f k) la ln) ∧ Hid (Below w.heap.size w wr) ∧ Hid (wr.heap[p]? = some (.cells (f.cells a n) 28 (0, 0))) ∧ Hid (wr.heap[z]? = some (.cells (zeroF.cells none 0) 28 (0, 0))) ∧ Hid (wr.heap[x4]? = some (.cells ((norR f k).cells la ln) 28 (0, 0)))) (fun i _ => f.S - (intOf i).toNat)
    case atStart => exact ⟨1, a1, n1, rfl, Nat.le_refl _, by have := NV.out; omega, OG, BF, XF, XZ, Xx4⟩
    case round =>
      clear OG BF XF XZ Xx4
      obtain ⟨k, la, ln, rfl, hk1, hk, OG, BF, XF, XZ, Xx4⟩ := hrel
      have cS := qcell XF.out 2 (.int .i64 f.sectors) rfl
      rw [NV.out.2.1] at cS
      by_cases hkn : k < f.S
      · have t0 : decide ((k : Int) < (f.S : Int)) = true := by simp; omega
        have HK64 : Hid ((k : Int) + 1 ≤ 9223372036854775807) := Lib.hid (by have := NV.out; omega)
        go_upto_region 7 with fail
        clear t0 cS
        have NS := Lib.hid (norR_succ HV.out hk1)
        have TL := Lib.hid (turnF_len HV.out (k : Int))
        have GL := Lib.hid (norR_len HV.out k)
        obtain ⟨T, hT⟩ : ∃ z, Hid (turnF f (k : Int) = z) := ⟨_, Lib.hid rfl⟩
        obtain ⟨G, hG⟩ : ∃ z, Hid (norR f k = z) := ⟨_, Lib.hid rfl⟩
        rw [hG.out] at OG Xx4 GL NS
        rw [hT.out] at TL NS
        have LO : Hid (x4 < wr.heap.size) := Lib.hid (qlt Xx4.out)
        refine yB ?_
        refine yW (.agg (f.cells a n)) ?_ (qyrow (by kernel_rfl) 28 _ rfl p rfl _ 28 (0, 0) _ (fun W hW => by rw [hW]; exact XF.out) Tryz.underlying28 rfl (by exact (qJF f a n)))
        refine yM (.int .i64 (k : Int)) ?_
        refine yR (fun K hK => ?_)
        go_simp
        refine (rturned_any f a n (k : Int) _ HV.out (HR.out _ BF.out)).mono ?_
        rintro e U8 ⟨⟨a2, n2, rfl, own⟩, b⟩
        rw [hT.out] at own ⊢
        have OT := Lib.hid (own.mono BF.out.size)
        clear own
        replace LO : Hid (x4 < U8.heap.size) := Lib.hid (Nat.lt_of_lt_of_le LO.out b.size)
        replace BF := Lib.hid (BF.out.trans (b.mono BF.out.size))
        replace OG := Lib.hid (OG.out.below b)
        replace XF := Lib.hid (qblk b XF.out)
        replace XZ := Lib.hid (qblk b XZ.out)
        replace Xx4 := Lib.hid (qblk b Xx4.out)
        clear b
        try dsimp only
        refine yK hK ?_
        clear hK K
        refine yR (fun K hK => ?_)
        refine qbuild (w' := U8.alloc (.cells #[.int .i64 0, .int .i64 0, .int .i64 0, .slice none 0 0] 28)) (.pointer (some ⟨U8.heap.size, 0, none⟩)) (by kernel_rfl) ?_
        obtain ⟨x6, hx6⟩ : ∃ x, Hid (U8.heap.size = x) := ⟨_, Lib.hid rfl⟩
        have AL := Lib.hid (al1 U8 (.cells #[.int .i64 0, .int .i64 0, .int .i64 0, .slice none 0 0] 28))
        rw [hx6.out] at AL ⊢
        refine yK hK ?_
        clear hK K
        refine yR (fun K hK => ?_)
        refine qstore 28 _ _ rfl x6 #[.int .i64 0, .int .i64 0, .int .i64 0, .slice none 0 0] (T.cells a2 n2) 28 rfl rfl AL.out.2 (by exact qJF T a2 n2) rfl (qone T a2 n2) ?_
        intro U4 h8 hg8 hs8
        have b : Below U8.heap.size U8 U4 := qstep (by have h1 := AL.out.1; rw [← hx6.out] at h1; exact h1) hg8 (Nat.le_of_eq hx6.out)
        replace BF := Lib.hid (BF.out.trans (b.mono BF.out.size))
        replace OG := Lib.hid (OG.out.below b)
        replace OT := Lib.hid (OT.out.below b)
        replace XF := Lib.hid (qblk b XF.out)
        replace XZ := Lib.hid (qblk b XZ.out)
        replace Xx4 := Lib.hid (qblk b Xx4.out)
        clear b
        have Xx6 := Lib.hid h8
        clear h8 hg8 hs8 AL
        refine yK hK ?_
        clear hK K
        refine yE ?_
        replace LO : Hid (x4 < x6) := Lib.hid (by have h1 := hx6.out; have h2 := LO.out; omega)
        go_upto_region 8 with fail
        refine yB ?_
        refine yW (.pointer (some ⟨x6, 3, none⟩)) ?_
        refine yW (.slice a2 T.kinds.length n2) ?_ (.inl ⟨by kernel_rfl, by intro W hW; rw [hW]; have c := qcell Xx6.out 3 (.slice a2 T.kinds.length n2) rfl; go_simp⟩)
        refine yW (.pointer (some ⟨x4, 3, none⟩)) ?_
        refine yW (.slice la G.kinds.length ln) ?_ (.inl ⟨by kernel_rfl, by intro W hW; rw [hW]; have c := qcell Xx4.out 3 (.slice la G.kinds.length ln) rfl; go_simp⟩)
        refine yR (fun K hK => ?_)
        go_simp
        refine (rless2_any a2 T.kinds.length n2 T.kinds la G.kinds.length ln G.kinds _ (by rw [GL.out, TL.out]) OT.out.rd OG.out.rd).mono ?_
        rintro e U5 ⟨rfl, b⟩
        replace BF := Lib.hid (BF.out.trans (b.mono BF.out.size))
        replace OG := Lib.hid (OG.out.below b)
        replace OT := Lib.hid (OT.out.below b)
        replace XF := Lib.hid (qblk b XF.out)
        replace XZ := Lib.hid (qblk b XZ.out)
        replace Xx4 := Lib.hid (qblk b Xx4.out)
        replace Xx6 := Lib.hid (qblk b Xx6.out)
        clear b
        obtain ⟨LB, hLB⟩ : ∃ z, Hid (lessB T.kinds G.kinds = z) := ⟨_, Lib.hid rfl⟩
        rw [hLB.out]
        rw [hLB.out] at NS
        try dsimp only
        refine yK hK ?_
        clear hK K
        refine yE ?_
        cases LB
        · go_upto_region 6 with fail
          have hk64 := HK64.out
          go_wp2_with fail
          go_roundw
          case rel =>
            refine ⟨k + 1, la, ln, by simp, by omega, by omega, ?_, BF, XF, XZ, ?_⟩
            · rw [NS.out, if_neg (by decide)]; exact OG
            · rw [NS.out, if_neg (by decide)]; exact Xx4
          case measure => simp [intOf]; omega
        · go_upto_region 9 with fail
          refine yB ?_
          refine yW (.agg (T.cells a2 n2)) ?_ (qyrow (by kernel_rfl) 28 _ rfl x6 rfl _ 28 (0, 0) _ (fun W hW => by rw [hW]; exact Xx6.out) Tryz.underlying28 rfl (by exact (qJF T a2 n2)))
          refine yR (fun K hK => ?_)
          refine qstore 28 _ _ rfl x4 (G.cells la ln) (T.cells a2 n2) 28 rfl rfl Xx4.out (by exact qJF T a2 n2) rfl (qone T a2 n2) ?_
          intro X9 h8 hg8 hs8
          replace BF := Lib.hid (qstep BF.out hg8 LG.out.1)
          replace XF := Lib.hid (qgrown hg8 XF.out (fun e => by have h1 := LG.out; have := Option.some.inj e; omega))
          replace XZ := Lib.hid (qgrown hg8 XZ.out (fun e => by have h1 := LG.out; have := Option.some.inj e; omega))
          replace OT := Lib.hid (OT.out.kept hg8 Xx4.out)
          replace Xx4 := Lib.hid h8
          clear h8 hg8 hs8
          refine yK hK ?_
          clear hK K
          refine yE ?_
          go_upto_region 6 with fail
          have hk64 := HK64.out
          go_wp2_with fail
          go_roundw
          case rel =>
            refine ⟨k + 1, a2, n2, by simp, by omega, by omega, ?_, BF, XF, XZ, ?_⟩
            · rw [NS.out, if_pos rfl]; exact OT
            · rw [NS.out, if_pos rfl]; exact Xx4
          case measure => simp [intOf]; omega
      · have t0 : decide ((k : Int) < (f.S : Int)) = false := by simp; omega
        have e : k = f.S := by omega
        subst e
        go_upto_region 10 with fail
        clear t0 cS
        rw [norR_all HV.out] at OG Xx4
        go_wp2_with (first
          | (refine wpList_load_row rfl 28 _ rfl x4 rfl 28 ((normalF f).cells la ln) (0, 0) _ Xx4.out Tryz.underlying28 rfl (by exact qJF (normalF f) la ln) ?_)
          | (refine wpList_qstore rfl 28 _ _ rfl z (zeroF.cells none 0) ((normalF f).cells la ln) 28 rfl rfl XZ.out (by exact qJF (normalF f) la ln) rfl (qone (normalF f) la ln) ?_; intro VZ hzz hgz; replace BF := Lib.hid (qstep BF.out hgz (by have h1 := hz.out; omega)); replace OG := Lib.hid (OG.out.kept hgz XZ.out); replace XZ := Lib.hid hzz; clear hzz hgz)
          | fail)
        (try simp only [Exit.inBlock, Exit.then])
        refine bodyPost_ret (results_ct rfl _ VZ z 28 ((normalF f).cells la ln) (0, 0) _ rfl XZ.out Tryz.underlying28 rfl (by exact qJF (normalF f) la ln)) rfl ?_
        unfold normalP
        rw [HV.out]
        exact ⟨⟨la, ln, rfl, OG.out⟩, BF.out⟩
end Go.Proofs.YtimmadkbkimonaaGreatDoor
namespace Go.Proofs.YtimmadkbkimonaaGreatDoor
set_option linter.unusedSimpArgs false
set_option linter.unusedVariables false
open Go.RowKit

set_option maxHeartbeats 4000000 in
set_option maxRecDepth 100000 in
theorem rturnsP_any (f g : FaceV) (a b : Option Addr) (n m : Nat) (w : World) (hr : RdI w a f.kinds.length n f.kinds) (hr2 : RdI w b g.kinds.length m g.kinds) :
    Calls Tryz.prog 47 #[.agg (f.cells a n), .agg (g.cells b m)] w fun e w' => (∃ oa oc, e = .returned (.tuple #[.slice oa (turnsP f g).1.length oc, .int .i64 (turnsP f g).2]) ∧ w'.ownsRow w.heap.size 3 1 (.slice oa (turnsP f g).1.length oc) (turnsP f g).1.length (((turnsP f g).1.map fun (b : Nat) => (b : Int)).map intV)) ∧ Below w.heap.size w w' := by
  have AV := Lib.hid (fun W (hb : Below w.heap.size w W) => rvalid_any f a n W (hr.below hb))
  have AW := Lib.hid (fun W (hb : Below w.heap.size w W) => rvalid_any g b m W (hr2.below hb))
  have HR := Lib.hid (fun W (hb : Below w.heap.size w W) => hr.below hb)
  have HR2 := Lib.hid (fun W (hb : Below w.heap.size w W) => hr2.below hb)
  clear hr hr2
  have AL := Lib.hid (al2 w (.cells (f.cells a n) 28) (.cells (g.cells b m) 28))
  go_enter Tryz.func47, Tryz.ntmps47
  go_upto_region 1 with fail
  obtain ⟨p, hp⟩ : ∃ p, Hid (w.heap.size = p) := ⟨_, Lib.hid rfl⟩
  obtain ⟨q, hq⟩ : ∃ q, Hid (w.heap.size + 1 = q) := ⟨_, Lib.hid rfl⟩
  rw [hq.out] at AL ⊢
  rw [hp.out] at AL ⊢
  generalize ((w.alloc (.cells (f.cells a n) 28)).alloc (.cells (g.cells b m) 28)) = W0 at *
  have BF : Hid (Below w.heap.size w W0) := Lib.hid (by rw [hp.out]; exact AL.out.1)
  have XF : Hid (W0.heap[p]? = some (.cells (f.cells a n) 28 (0, 0))) := Lib.hid AL.out.2.1
  have XG : Hid (W0.heap[q]? = some (.cells (g.cells b m) 28 (0, 0))) := Lib.hid AL.out.2.2
  clear AL
  have c0 := qcell XF.out 0 (.int .i64 f.eye) rfl
  have c1 := qcell XF.out 1 (.int .i64 f.rings) rfl
  have c2 := qcell XF.out 2 (.int .i64 f.sectors) rfl
  have c3 := qcell XF.out 3 (.slice a f.kinds.length n) rfl
  have d0 := qcell XG.out 0 (.int .i64 g.eye) rfl
  have d1 := qcell XG.out 1 (.int .i64 g.rings) rfl
  have d2 := qcell XG.out 2 (.int .i64 g.sectors) rfl
  have d3 := qcell XG.out 3 (.slice b g.kinds.length m) rfl
  go_wp2_with (first
    | (refine wpList_load_row rfl 28 _ rfl p rfl 28 (f.cells a n) (0, 0) _ XF.out Tryz.underlying28 rfl (by exact (qJF f a n)) ?_)
    | (refine wpList_load_row rfl 28 _ rfl q rfl 28 (g.cells b m) (0, 0) _ XG.out Tryz.underlying28 rfl (by exact (qJF g b m)) ?_)
    | fail)
  refine (AV.out W0 BF.out).mono ?_
  rintro e V1 ⟨rfl, b⟩
  clear c0 c1 c2 c3 d0 d1 d2 d3
  replace BF := Lib.hid (BF.out.trans (b.mono BF.out.size))
  replace XF := Lib.hid (qblk b XF.out)
  replace XG := Lib.hid (qblk b XG.out)
  clear b
  have c0 := qcell XF.out 0 (.int .i64 f.eye) rfl
  have c1 := qcell XF.out 1 (.int .i64 f.rings) rfl
  have c2 := qcell XF.out 2 (.int .i64 f.sectors) rfl
  have c3 := qcell XF.out 3 (.slice a f.kinds.length n) rfl
  have d0 := qcell XG.out 0 (.int .i64 g.eye) rfl
  have d1 := qcell XG.out 1 (.int .i64 g.rings) rfl
  have d2 := qcell XG.out 2 (.int .i64 g.sectors) rfl
  have d3 := qcell XG.out 3 (.slice b g.kinds.length m) rfl
  cases hv : f.valid
  · go_wp2_with (first
      | (refine wpList_load_row rfl 28 _ rfl p rfl 28 (f.cells a n) (0, 0) _ XF.out Tryz.underlying28 rfl (by exact (qJF f a n)) ?_)
      | (refine wpList_load_row rfl 28 _ rfl q rfl 28 (g.cells b m) (0, 0) _ XG.out Tryz.underlying28 rfl (by exact (qJF g b m)) ?_)
      | fail)
    go_ret2
    unfold turnsP
    rw [if_neg (by rw [hv]; simp)]
    exact ⟨⟨none, 0, rfl, World.ownsRow_nil _ _ _ _⟩, BF.out⟩
  · go_wp2_with (first
      | (refine wpList_load_row rfl 28 _ rfl p rfl 28 (f.cells a n) (0, 0) _ XF.out Tryz.underlying28 rfl (by exact (qJF f a n)) ?_)
      | (refine wpList_load_row rfl 28 _ rfl q rfl 28 (g.cells b m) (0, 0) _ XG.out Tryz.underlying28 rfl (by exact (qJF g b m)) ?_)
      | fail)
    refine (AW.out V1 BF.out).mono ?_
    rintro e V2 ⟨rfl, b⟩
    clear c0 c1 c2 c3 d0 d1 d2 d3
    replace BF := Lib.hid (BF.out.trans (b.mono BF.out.size))
    replace XF := Lib.hid (qblk b XF.out)
    replace XG := Lib.hid (qblk b XG.out)
    clear b
    have c0 := qcell XF.out 0 (.int .i64 f.eye) rfl
    have c1 := qcell XF.out 1 (.int .i64 f.rings) rfl
    have c2 := qcell XF.out 2 (.int .i64 f.sectors) rfl
    have c3 := qcell XF.out 3 (.slice a f.kinds.length n) rfl
    have d0 := qcell XG.out 0 (.int .i64 g.eye) rfl
    have d1 := qcell XG.out 1 (.int .i64 g.rings) rfl
    have d2 := qcell XG.out 2 (.int .i64 g.sectors) rfl
    have d3 := qcell XG.out 3 (.slice b g.kinds.length m) rfl
    cases hw : g.valid
    · go_wp2_with (first
        | (refine wpList_load_row rfl 28 _ rfl p rfl 28 (f.cells a n) (0, 0) _ XF.out Tryz.underlying28 rfl (by exact (qJF f a n)) ?_)
        | (refine wpList_load_row rfl 28 _ rfl q rfl 28 (g.cells b m) (0, 0) _ XG.out Tryz.underlying28 rfl (by exact (qJF g b m)) ?_)
        | fail)
      go_ret2
      unfold turnsP
      rw [if_neg (by rw [hw]; simp)]
      exact ⟨⟨none, 0, rfl, World.ownsRow_nil _ _ _ _⟩, BF.out⟩
    · have HV := Lib.hid hv
      have HW := Lib.hid hw
      have NV := Lib.hid (FaceV.nat hv)
      clear hv hw
      go_wp2_with (first
        | (refine wpList_load_row rfl 28 _ rfl p rfl 28 (f.cells a n) (0, 0) _ XF.out Tryz.underlying28 rfl (by exact (qJF f a n)) ?_)
        | (refine wpList_load_row rfl 28 _ rfl q rfl 28 (g.cells b m) (0, 0) _ XG.out Tryz.underlying28 rfl (by exact (qJF g b m)) ?_)
        | fail)
      clear c0 c1 c2 c3 d0 d1 d2 d3
      go_loopw [6, 7] (fun o i wr => ∃ (k : Nat) (oa : Option Addr) (oc : Nat), i = .int .i64 k ∧ o = .slice oa (upToT f g k).length oc ∧ k ≤ f.S ∧ Hid (wr.ownsRow w.heap.size 3 1 (.slice oa (upToT f g k).length oc) (upToT f g k).length ((upToT f g k).map intV)) ∧ Hid (Below w.heap.size w wr) ∧ Hid (wr.heap[p]? = some (.cells (f.cells a n) 28 (0, 0))) ∧ Hid (wr.heap[q]? = some (.cells (g.cells b m) 28 (0, 0)))) (fun _ i _ => f.S - (intOf i).toNat)
      case atStart => exact ⟨0, none, 0, rfl, rfl, Nat.zero_le _, Lib.hid (World.ownsRow_nil _ _ _ _), BF, XF, XG⟩
      case round =>
        clear BF XF XG
        obtain ⟨k, oa, oc, rfl, rfl, hk, OW, BF, XF, XG⟩ := hrel
        have cS := qcell XF.out 2 (.int .i64 f.sectors) rfl
        rw [NV.out.2.1] at cS
        by_cases hkn : k < f.S
        · have t0 : decide ((k : Int) < (f.S : Int)) = true := by simp; omega
          have HK64 : Hid ((k : Int) + 1 ≤ 9223372036854775807) := Lib.hid (by have := NV.out; omega)
          have HL := Lib.hid (upToT_len f g k)
          have KS : Hid (k < 100) := Lib.hid (by have := NV.out; omega)
          go_upto_region 7 with fail
          clear t0 cS
          have OD : Below wr.heap.size wr wr.drew := (Below.refl _ _).drew
          replace OW := Lib.hid (own_below OW.out OD)
          clear OD
          have c0 := qcell XF.out 0 (.int .i64 f.eye) rfl
          have c1 := qcell XF.out 1 (.int .i64 f.rings) rfl
          have c2 := qcell XF.out 2 (.int .i64 f.sectors) rfl
          have c3 := qcell XF.out 3 (.slice a f.kinds.length n) rfl
          have d0 := qcell XG.out 0 (.int .i64 g.eye) rfl
          have d1 := qcell XG.out 1 (.int .i64 g.rings) rfl
          have d2 := qcell XG.out 2 (.int .i64 g.sectors) rfl
          have d3 := qcell XG.out 3 (.slice b g.kinds.length m) rfl
          clear c0 c1 c2 c3 d0 d1 d2 d3
          have hd : Below wr.heap.size wr wr.drew := (Below.refl _ _).drew
          replace BF := Lib.hid (BF.out.drew)
          replace XF := Lib.hid (qblk hd XF.out)
          replace XG := Lib.hid (qblk hd XG.out)
          refine zD (fun W => Below w.heap.size w W ∧ W.heap[p]? = some (.cells (f.cells a n) 28 (0, 0)) ∧ W.heap[q]? = some (.cells (g.cells b m) 28 (0, 0))) ⟨BF.out, XF.out, XG.out⟩ (fun hHeld => ?_)
          clear hd
          generalize wr.drew = V3 at *
          refine zT 0 rfl (.agg (f.cells a n)) (qyrow (by kernel_rfl) 28 _ rfl p rfl _ 28 (0, 0) _ (fun W hW => hW.2.1) Tryz.underlying28 rfl (by exact (qJF f a n))) ?_
          refine zW 1 rfl (.int .i64 k) ?_
          refine zT 3 rfl (.agg (g.cells b m)) (qyrow (by kernel_rfl) 28 _ rfl q rfl _ 28 (0, 0) _ (fun W hW => hW.2.2) Tryz.underlying28 rfl (by exact (qJF g b m))) ?_
          refine zR 2 rfl (fun K hK => ?_)
          go_simp
          refine (rturned_any f a n k V3 HV.out (HR.out V3 BF.out)).mono ?_
          rintro e V4 ⟨⟨a', n', rfl, own⟩, b2⟩
          have TW := Lib.hid own.rd
          clear own
          replace OW := Lib.hid (own_below OW.out b2)
          replace BF := Lib.hid (BF.out.trans (b2.mono BF.out.size))
          replace XF := Lib.hid (qblk b2 XF.out)
          replace XG := Lib.hid (qblk b2 XG.out)
          clear b2
          dsimp only
          refine zK hK ⟨BF.out, XF.out, XG.out⟩ (fun hHeld => ?_)
          clear hK K
          refine zR 4 rfl (fun K hK => ?_)
          go_simp
          refine (rsame_any (turnF f k) a' n' g b m V4 TW.out (HR2.out V4 BF.out)).mono ?_
          rintro e V5 ⟨rfl, b2⟩
          replace OW := Lib.hid (own_below OW.out b2)
          replace BF := Lib.hid (BF.out.trans (b2.mono BF.out.size))
          replace XF := Lib.hid (qblk b2 XF.out)
          replace XG := Lib.hid (qblk b2 XG.out)
          clear b2
          dsimp only
          refine zK hK ⟨BF.out, XF.out, XG.out⟩ (fun hHeld => ?_)
          clear hK K
          refine zE ?_
          clear hHeld
          have c0 := qcell XF.out 0 (.int .i64 f.eye) rfl
          have c1 := qcell XF.out 1 (.int .i64 f.rings) rfl
          have c2 := qcell XF.out 2 (.int .i64 f.sectors) rfl
          have c3 := qcell XF.out 3 (.slice a f.kinds.length n) rfl
          have d0 := qcell XG.out 0 (.int .i64 g.eye) rfl
          have d1 := qcell XG.out 1 (.int .i64 g.rings) rfl
          have d2 := qcell XG.out 2 (.int .i64 g.sectors) rfl
          have d3 := qcell XG.out 3 (.slice b g.kinds.length m) rfl
          cases hs : sameF (turnF f k) g
          · have HS : Hid (turnF f k ≠ g) := Lib.hid (of_decide_eq_false hs)
            clear hs
            have hk64 := HK64.out
            go_wp2_with (first
              | (refine wpList_load_row rfl 28 _ rfl p rfl 28 (f.cells a n) (0, 0) _ XF.out Tryz.underlying28 rfl (by exact (qJF f a n)) ?_)
              | (refine wpList_load_row rfl 28 _ rfl q rfl 28 (g.cells b m) (0, 0) _ XG.out Tryz.underlying28 rfl (by exact (qJF g b m)) ?_)
              | fail)
            go_roundw
            case rel =>
              have e : upToT f g (k + 1) = upToT f g k := by rw [upToT_succ, if_neg HS.out, List.append_nil]
              refine ⟨k + 1, oa, oc, by simp, by rw [e], by omega, ?_, BF, XF, XG⟩
              rw [e]
              exact OW
            case measure => simp [intOf]; omega
          · have HS : Hid (turnF f k = g) := Lib.hid (of_decide_eq_true hs)
            clear hs
            go_upto_region 6 with (first
              | (refine wpList_load_row rfl 28 _ rfl p rfl 28 (f.cells a n) (0, 0) _ XF.out Tryz.underlying28 rfl (by exact (qJF f a n)) ?_)
              | (refine wpList_load_row rfl 28 _ rfl q rfl 28 (g.cells b m) (0, 0) _ XG.out Tryz.underlying28 rfl (by exact (qJF g b m)) ?_)
              | (at_builtin; refine appq_ints _ rfl _ _ rfl w.heap.size _ _ _ (upToT f g k) rfl (own_below OW.out (zB V5 _)) _ _ _ [(k : Int)] rfl (lit_int V5 k) (by have := HL.out; have := KS.out; omega) (Nat.le_trans BF.out.size (zB V5 _).size) ?_; intro oa2 oc2 V6 h1 h2 h3; clear c0 c1 c2 c3 d0 d1 d2 d3; replace BF := Lib.hid (h3 _ (BF.out.trans ((zB V5 _).mono BF.out.size))); replace XF := Lib.hid (h2 _ _ (qblk (zB V5 _) XF.out) (by simp)); replace XG := Lib.hid (h2 _ _ (qblk (zB V5 _) XG.out) (by simp)); replace OW := Lib.hid h1; clear h1 h2 h3; have c0 := qcell XF.out 0 (.int .i64 f.eye) rfl; have c1 := qcell XF.out 1 (.int .i64 f.rings) rfl; have c2 := qcell XF.out 2 (.int .i64 f.sectors) rfl; have c3 := qcell XF.out 3 (.slice a f.kinds.length n) rfl; have d0 := qcell XG.out 0 (.int .i64 g.eye) rfl; have d1 := qcell XG.out 1 (.int .i64 g.rings) rfl; have d2 := qcell XG.out 2 (.int .i64 g.sectors) rfl; have d3 := qcell XG.out 3 (.slice b g.kinds.length m) rfl)
              | fail)
            have hk64 := HK64.out
            go_wp2_with (first
              | (refine wpList_load_row rfl 28 _ rfl p rfl 28 (f.cells a n) (0, 0) _ XF.out Tryz.underlying28 rfl (by exact (qJF f a n)) ?_)
              | (refine wpList_load_row rfl 28 _ rfl q rfl 28 (g.cells b m) (0, 0) _ XG.out Tryz.underlying28 rfl (by exact (qJF g b m)) ?_)
              | fail)
            go_roundw
            case rel =>
              have e : upToT f g (k + 1) = upToT f g k ++ [(k : Int)] := by rw [upToT_succ, if_pos HS.out]
              refine ⟨k + 1, oa2, oc2, by simp, by rw [e, List.length_append]; rfl, by omega, ?_, BF, XF, XG⟩
              rw [e, List.length_append]
              exact OW
            case measure => simp [intOf]; omega
        · have t0 : decide ((k : Int) < (f.S : Int)) = false := by simp; omega
          have e : k = f.S := by omega
          subst e
          go_wp2_with fail
          go_ret2
          unfold turnsP
          rw [if_pos ⟨HV.out, HW.out⟩]
          have e : upToT f g f.S = (turnsF f g).map fun (b : Nat) => (b : Int) := rfl
          rw [e] at OW ⊢
          exact ⟨⟨oa, oc, by rw [List.length_map]; rfl, by have := OW.out; rw [List.length_map] at this; exact this⟩, BF.out⟩
set_option maxHeartbeats 4000000 in
set_option maxRecDepth 100000 in
theorem rperiodP_any (f : FaceV) (a : Option Addr) (n : Nat) (w : World) (hr : RdI w a f.kinds.length n f.kinds) :
    Calls Tryz.prog 49 #[.agg (f.cells a n)] w fun e w' => e = .returned (.tuple #[.int .i64 (periodP f).1, .int .i64 (periodP f).2]) ∧ Below w.heap.size w w' := by
  have AV := Lib.hid (fun W (hb : Below w.heap.size w W) => rvalid_any f a n W (hr.below hb))
  have HR := Lib.hid (fun W (hb : Below w.heap.size w W) => hr.below hb)
  clear hr
  have AL := Lib.hid (al1 w (.cells (f.cells a n) 28))
  go_enter Tryz.func49, Tryz.ntmps49
  go_upto_region 1 with fail
  obtain ⟨p, hp⟩ : ∃ p, Hid (w.heap.size = p) := ⟨_, Lib.hid rfl⟩
  rw [hp.out] at AL ⊢
  generalize (w.alloc (.cells (f.cells a n) 28)) = W0 at *
  have BF : Hid (Below w.heap.size w W0) := Lib.hid (by rw [hp.out]; exact AL.out.1)
  have XF : Hid (W0.heap[p]? = some (.cells (f.cells a n) 28 (0, 0))) := Lib.hid AL.out.2
  clear AL
  have c0 := qcell XF.out 0 (.int .i64 f.eye) rfl
  have c1 := qcell XF.out 1 (.int .i64 f.rings) rfl
  have c2 := qcell XF.out 2 (.int .i64 f.sectors) rfl
  have c3 := qcell XF.out 3 (.slice a f.kinds.length n) rfl
  go_wp2_with (first
    | (refine wpList_load_row rfl 28 _ rfl p rfl 28 (f.cells a n) (0, 0) _ XF.out Tryz.underlying28 rfl (by exact (qJF f a n)) ?_)
    | fail)
  refine (AV.out W0 BF.out).mono ?_
  rintro e V1 ⟨rfl, b⟩
  clear c0 c1 c2 c3
  replace BF := Lib.hid (BF.out.trans (b.mono BF.out.size))
  replace XF := Lib.hid (qblk b XF.out)
  clear b
  have c0 := qcell XF.out 0 (.int .i64 f.eye) rfl
  have c1 := qcell XF.out 1 (.int .i64 f.rings) rfl
  have c2 := qcell XF.out 2 (.int .i64 f.sectors) rfl
  have c3 := qcell XF.out 3 (.slice a f.kinds.length n) rfl
  cases hv : f.valid
  · go_wp2_with (first
      | (refine wpList_load_row rfl 28 _ rfl p rfl 28 (f.cells a n) (0, 0) _ XF.out Tryz.underlying28 rfl (by exact (qJF f a n)) ?_)
      | fail)
    go_ret2
    unfold periodP
    rw [hv]
    exact ⟨rfl, BF.out⟩
  · have NV := Lib.hid (FaceV.nat hv)
    have HV := Lib.hid hv
    clear hv
    go_wp2_with (first
      | (refine wpList_load_row rfl 28 _ rfl p rfl 28 (f.cells a n) (0, 0) _ XF.out Tryz.underlying28 rfl (by exact (qJF f a n)) ?_)
      | fail)
    clear c0 c1 c2 c3
    go_loopw [4] (fun i wr => ∃ k : Nat, i = .int .i64 k ∧ 1 ≤ k ∧ Hid (k ≤ f.S) ∧ Hid (∀ m : Nat, 1 ≤ m → m < k → turnF f m ≠ f) ∧ Hid (Below w.heap.size w wr) ∧ Hid (wr.heap[p]? = some (.cells (f.cells a n) 28 (0, 0)))) (fun i _ => f.S - (intOf i).toNat)
    case atStart => exact ⟨1, rfl, Nat.le_refl _, Lib.hid (by have := NV.out; omega), Lib.hid (fun m h1 h2 => by omega), BF, XF⟩
    case round =>
      clear BF XF
      obtain ⟨k, rfl, h1, KS, MN, BF, XF⟩ := hrel
      go_upto_region 4 with fail
      have c0 := qcell XF.out 0 (.int .i64 f.eye) rfl
      have c1 := qcell XF.out 1 (.int .i64 f.rings) rfl
      have c2 := qcell XF.out 2 (.int .i64 f.sectors) rfl
      have c3 := qcell XF.out 3 (.slice a f.kinds.length n) rfl
      clear c0 c1 c2 c3
      have hd : Below wr.heap.size wr wr.drew := (Below.refl _ _).drew
      replace BF := Lib.hid (BF.out.drew)
      replace XF := Lib.hid (qblk hd XF.out)
      refine zD (fun W => Below w.heap.size w W ∧ W.heap[p]? = some (.cells (f.cells a n) 28 (0, 0))) ⟨BF.out, XF.out⟩ (fun hHeld => ?_)
      clear hd
      generalize wr.drew = V0 at *
      refine zT 0 rfl (.agg (f.cells a n)) (qyrow (by kernel_rfl) 28 _ rfl p rfl _ 28 (0, 0) _ (fun W hW => hW.2) Tryz.underlying28 rfl (by exact (qJF f a n))) ?_
      refine zW 1 rfl (.int .i64 k) ?_
      refine zT 3 rfl (.agg (f.cells a n)) (qyrow (by kernel_rfl) 28 _ rfl p rfl _ 28 (0, 0) _ (fun W hW => hW.2) Tryz.underlying28 rfl (by exact (qJF f a n))) ?_
      refine zR 2 rfl (fun K hK => ?_)
      go_simp
      refine (rturned_any f a n k V0 HV.out (HR.out V0 BF.out)).mono ?_
      rintro e V2 ⟨⟨a', n', rfl, own⟩, b⟩
      have OW := Lib.hid own.rd
      clear own
      replace BF := Lib.hid (BF.out.trans (b.mono BF.out.size))
      replace XF := Lib.hid (qblk b XF.out)
      clear b
      dsimp only
      refine zK hK ⟨BF.out, XF.out⟩ (fun hHeld => ?_)
      clear hK K
      refine zR 4 rfl (fun K hK => ?_)
      go_simp
      refine (rsame_any (turnF f k) a' n' f a n V2 OW.out (HR.out V2 BF.out)).mono ?_
      rintro e V3 ⟨rfl, b⟩
      replace BF := Lib.hid (BF.out.trans (b.mono BF.out.size))
      replace XF := Lib.hid (qblk b XF.out)
      clear b
      dsimp only
      refine zK hK ⟨BF.out, XF.out⟩ (fun hHeld => ?_)
      clear hK K
      cases hs : sameF (turnF f k) f
      · refine zW 5 rfl (.bool true) ?_
        refine zE ?_
        have HN : Hid (turnF f k ≠ f) := Lib.hid (of_decide_eq_false hs)
        have K2 : Hid (k + 1 ≤ f.S) := Lib.hid (by
          have h1 := KS.out
          rcases Nat.lt_or_ge k f.S with h2 | h2
          · omega
          · have e : k = f.S := by omega
            exact absurd (e ▸ fix_exists HV.out) HN.out)
        have E1 : Hid (wrap64 ((k : Int) + 1) = (k : Int) + 1) := Lib.hid (by have := KS.out; have := NV.out; unfold wrap64; omega)
        clear hs OW hHeld
        have e1 := E1.out
        go_wp2_with fail
        go_roundw
        case rel =>
          refine ⟨k + 1, by first | rfl | (rw [E1.out]; rfl) | simp, by omega, K2, Lib.hid (fun m h1 h2 => ?_), BF, XF⟩
          rcases Nat.lt_or_ge m k with h3 | h3
          · exact MN.out m h1 h3
          · have e : m = k := by omega
            subst e
            exact HN.out
        case measure => clear e1; (try rw [E1.out]); have := K2.out; simp [intOf]; omega
      · refine zW 5 rfl (.bool false) ?_
        refine zE ?_
        have HN : Hid (turnF f k = f) := Lib.hid (of_decide_eq_true hs)
        clear hs hHeld
        go_wp2_with fail
        go_ret2
        exact ⟨by unfold periodP; rw [HV.out, period_find h1 KS.out HN.out MN.out]; rfl, BF.out⟩
end Go.Proofs.YtimmadkbkimonaaGreatDoor
