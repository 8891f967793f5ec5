/- Parts of the proof, in this order: among; StonesBeside is true; A look as a value; StonesPlaces is true; What every row of this work shares: a law of the template 'true whatever the input' holds where its call gives true and leaves all old memory; []byte arguments opened; A note, a list of ints, out of a reading; A face out of a reading; what the library's variables hold; A cell, a look, a pattern out of a reading; A look out of a reading; within, Place, Valid, Has, asked, Number, Round, Weight of the reference; Cells, Area of the reference; StonesAreas is true. -/
import Derived.Deep.Cut
import Derived.Test.YtmpkglokhchpiaaGreatDoorRows
import Derived.ProofKit
import Derived.OpenShut
import Derived.Lib.SmallJoins
import Derived.Stop.LaidErr
import Derived.MakeChecks
import Derived.Shelf.Vars
import Derived.Test.YtmpkglokhchpiaaGreatDoorKPsa5
set_option linter.unusedSimpArgs false
set_option linter.unusedVariables false
open List renaming getElem_toArray → lq0, getElem_cons_succ → lq1, getElem_cons_zero → lq2, setIfInBounds_toArray → lq3, set_cons_zero → lq4, set_cons_succ → lq5
namespace Go.Proofs.YtmpkglokhchpiaaGreatDoor
set_option linter.unusedSimpArgs false
set_option linter.unusedVariables false
open Go.RowKit

theorem RdC.below {w w' : World} {a : Option Addr} {n c : Nat} {l : List CellV} (h : RdC w a n c l) (hb : Below w.heap.size w w') : RdC w' a n c l := RdA.below h hb
theorem RdC.len {w : World} {a : Option Addr} {n c : Nat} {l : List CellV} (h : RdC w a n c l) : l.length = n := by have := RdA.len h; rw [cellsV_len] at this; omega
theorem RdC.get {w : World} {a : Option Addr} {n c : Nat} {l : List CellV} (h : RdC w a n c l) {k : Nat} {x : CellV} (hx : l[k]? = some x) : ∃ b off, a = some ⟨b, off, none⟩ ∧ w.cell? ⟨b, off + k * 2, none⟩ = some (.int .i64 x.1) ∧ w.cell? ⟨b, off + k * 2 + 1, none⟩ = some (.int .i64 x.2) := by
  have hl := (List.getElem?_eq_some_iff.1 hx).1
  have hn := h.len
  obtain ⟨b, off, rfl, h4⟩ := RdA.at h (by omega)
  refine ⟨b, off, rfl, h4 _ _ (cellsV_at l k x hx).1, ?_⟩
  rw [Nat.add_assoc]
  exact h4 _ _ (cellsV_at l k x hx).2
theorem rdc_at {W : World} {b off n c k : Nat} {l : List CellV} {x : CellV} (h : RdC W (some ⟨b, off, none⟩) n c l) (hx : l[k]? = some x) : W.cell? ⟨b, off + k * 2, none⟩ = some (.int .i64 x.1) ∧ W.cell? ⟨b, off + k * 2 + 1, none⟩ = some (.int .i64 x.2) := by
  obtain ⟨b2, o2, e, h2⟩ := h.get hx
  simp only [Option.some.injEq, Addr.mk.injEq, and_true] at e
  rw [e.1, e.2]
  exact h2
theorem qsizeC : (Tryz.prog.info? 41).map (·.size) = some 2 := by kernel_rfl
end Go.Proofs.YtmpkglokhchpiaaGreatDoor
namespace Go.Proofs.YtmpkglokhchpiaaGreatDoor
structure LookV where
  cell : CellV
  idx : Int
  kind : Int
  n : Int
def lookA (x : LookV) : Array Value := #[.int .i64 x.cell.1, .int .i64 x.cell.2, .int .i64 x.idx, .int .i64 x.kind, .int .i64 x.n]
end Go.Proofs.YtmpkglokhchpiaaGreatDoor
namespace Go.Proofs.YtmpkglokhchpiaaGreatDoor
set_option linter.unusedSimpArgs false
set_option linter.unusedVariables false
open Go.RowKit

def lenK (f : FaceV) (k : Nat) : Nat := ((List.range k).map fun (i : Nat) => (cellsF f (i : Int) f.kinds.length).length).sum
theorem lenK_succ (f : FaceV) (k : Nat) : lenK f (k + 1) = lenK f k + (cellsF f (k : Int) f.kinds.length).length := by
  unfold lenK
  rw [List.range_succ, List.map_append, List.sum_append]
  simp
theorem lenK_le (f : FaceV) : ∀ k, lenK f k ≤ k * f.kinds.length
  | 0 => by simp [lenK]
  | k + 1 => by
    have h1 := lenK_le f k
    have h2 := cellsF_len f (k : Int) f.kinds.length
    rw [lenK_succ, Nat.add_mul]
    omega
theorem lenK_all {f : FaceV} (h : f.valid = true) : lenK f 3 = f.kinds.length := by
  have := cells_len h f.kinds.length (Nat.le_refl _)
  unfold lenK
  simp [List.range_succ]
  omega
set_option maxHeartbeats 4000000 in
set_option maxRecDepth 100000 in
theorem places_any (f : FaceV) (a : Option Addr) (n : Nat) (x : LookV) (w : World) (he : EnvW w) (hr : RdI w a f.kinds.length n f.kinds) :
    Calls Tryz.prog 13 #[.agg (f.cells a n), .agg (lookA x)] w fun e w' => e = .returned (.bool true) ∧ Below w.heap.size w w' := by
  have EV := Lib.hid (fun W (hb : Below w.heap.size w W) => he.below hb)
  have HR := Lib.hid hr
  clear he hr
  have AL := Lib.hid (al2 w (.cells (f.cells a n) 28) (.cells (lookA x) 43))
  go_enter Tryz.func13, Tryz.ntmps13
  go_upto_region 1 with fail
  obtain ⟨p, hp⟩ : ∃ p, Hid (w.heap.size = p) := ⟨_, Lib.hid rfl⟩
  obtain ⟨q, hq⟩ : ∃ q, Hid (w.heap.size + 1 = q) := ⟨_, Lib.hid rfl⟩
  rw [hq.out] at AL ⊢
  rw [hp.out] at AL ⊢
  generalize ((w.alloc (.cells (f.cells a n) 28)).alloc (.cells (lookA x) 43)) = W0 at *
  have BF : Hid (Below w.heap.size w W0) := Lib.hid (by rw [hp.out]; exact AL.out.1)
  have XF : Hid (W0.heap[p]? = some (.cells (f.cells a n) 28 (0, 0))) := Lib.hid AL.out.2.1
  have XL : Hid (W0.heap[q]? = some (.cells (lookA x) 43 (0, 0))) := Lib.hid AL.out.2.2
  clear AL
  have c0 := qcell XF.out 0 (.int .i64 f.eye) rfl
  have c1 := qcell XF.out 1 (.int .i64 f.rings) rfl
  have c2 := qcell XF.out 2 (.int .i64 f.sectors) rfl
  have c3 := qcell XF.out 3 (.slice a f.kinds.length n) rfl
  clear c0 c1 c2 c3
  replace HR := Lib.hid (HR.out.below BF.out)
  go_upto_region 1 with fail
  refine yB ?_
  refine yR (fun K hK => ?_)
  go_simp
  refine (awake_any _ (EV.out _ BF.out)).mono ?_
  rintro e U1 ⟨rfl, b⟩
  replace BF := Lib.hid (BF.out.trans (b.mono BF.out.size))
  replace HR := Lib.hid (HR.out.below b)
  replace XF := Lib.hid (qblk b XF.out)
  replace XL := Lib.hid (qblk b XL.out)
  clear b
  try dsimp only
  refine yK hK ?_
  clear hK K
  refine yM (.bool true) ?_
  refine yE ?_
  go_upto_region 2 with fail
  refine yB ?_
  refine yW (.agg (f.cells a n)) ?_ (qyrow (by kernel_rfl) 28 _ rfl p rfl _ 28 (0, 0) _ (fun W hW => by rw [hW]; exact XF.out) Tryz.underlying28 rfl (by exact (qJF f a n)))
  refine yR (fun K hK => ?_)
  go_simp
  refine (few_any f a n _).mono ?_
  rintro e wr ⟨rfl, b⟩
  replace BF := Lib.hid (BF.out.trans (b.mono BF.out.size))
  replace HR := Lib.hid (HR.out.below b)
  replace XF := Lib.hid (qblk b XF.out)
  replace XL := Lib.hid (qblk b XL.out)
  clear b
  cases h1 : decide (f.kinds.length ≤ 200)
  · try dsimp only
    refine yK hK ?_
    clear hK K
    refine yM (.bool true) ?_
    refine yE ?_
    go_wp2_with fail
    go_ret
    exact ⟨rfl, BF.out⟩
  · try dsimp only
    refine yK hK ?_
    clear hK K
    refine yM (.bool false) ?_
    refine yE ?_
    go_upto_region 4 with fail
    refine yB ?_
    refine yW (.agg (f.cells a n)) ?_ (qyrow (by kernel_rfl) 28 _ rfl p rfl _ 28 (0, 0) _ (fun W hW => by rw [hW]; exact XF.out) Tryz.underlying28 rfl (by exact (qJF f a n)))
    refine yW (.pointer (some ⟨q, 0, none⟩)) ?_
    refine yW (.agg (cellA x.cell)) ?_ (.inl ⟨by kernel_rfl, by intro W hW; rw [hW]; have c0 := qcell XL.out 0 (.int .i64 x.cell.1) rfl; have c1 := qcell XL.out 1 (.int .i64 x.cell.2) rfl; go_simp; (try rfl)⟩)
    refine yR (fun K hK => ?_)
    go_simp
    refine (indexP_any f a n x.cell _ HR.out).mono ?_
    rintro e U3 ⟨rfl, b⟩
    replace BF := Lib.hid (BF.out.trans (b.mono BF.out.size))
    replace HR := Lib.hid (HR.out.below b)
    replace XF := Lib.hid (qblk b XF.out)
    replace XL := Lib.hid (qblk b XL.out)
    clear b
    obtain ⟨I, hI⟩ : ∃ z, Hid ((indexP f x.cell).1 = z) := ⟨_, Lib.hid rfl⟩
    obtain ⟨E, hE⟩ : ∃ z, Hid ((indexP f x.cell).2 = z) := ⟨_, Lib.hid rfl⟩
    rw [hI.out, hE.out]
    try dsimp only
    refine yK hK ?_
    clear hK K
    refine yM (.tuple #[.int .i64 I, .int .i64 E]) ?_
    refine yM (.int .i64 I) ?_
    refine yM (.int .i64 E) ?_
    refine yM (.int .i64 I) ?_
    refine yM (.int .i64 E) ?_
    refine yE ?_
    go_upto_region 5 with fail
    refine yB ?_
    refine yW (.agg (f.cells a n)) ?_ (qyrow (by kernel_rfl) 28 _ rfl p rfl _ 28 (0, 0) _ (fun W hW => by rw [hW]; exact XF.out) Tryz.underlying28 rfl (by exact (qJF f a n)))
    refine yW (.pointer (some ⟨q, 2, none⟩)) ?_
    refine yW (.int .i64 x.idx) ?_ (.inl ⟨by kernel_rfl, by intro W hW; rw [hW]; have c := qcell XL.out 2 (.int .i64 x.idx) rfl; go_simp⟩)
    refine yR (fun K hK => ?_)
    go_simp
    refine (cellP_any f a n x.idx _ HR.out).mono ?_
    rintro e U4 ⟨rfl, b⟩
    replace BF := Lib.hid (BF.out.trans (b.mono BF.out.size))
    replace HR := Lib.hid (HR.out.below b)
    replace XF := Lib.hid (qblk b XF.out)
    replace XL := Lib.hid (qblk b XL.out)
    clear b
    obtain ⟨C, hC⟩ : ∃ z, Hid ((cellP f x.idx).1 = z) := ⟨_, Lib.hid rfl⟩
    obtain ⟨G, hG⟩ : ∃ z, Hid ((cellP f x.idx).2 = z) := ⟨_, Lib.hid rfl⟩
    rw [hC.out, hG.out]
    try dsimp only
    refine yK hK ?_
    clear hK K
    refine yM (.tuple #[.agg (cellA C), .int .i64 G]) ?_
    refine yM (.agg (cellA C)) ?_
    refine yM (.int .i64 G) ?_
    refine yR (fun K hK => ?_)
    refine qbuild (w' := U4.alloc (.cells #[.int .i64 0, .int .i64 0] 41)) (.pointer (some ⟨U4.heap.size, 0, none⟩)) (by kernel_rfl) ?_
    obtain ⟨x8, hx8⟩ : ∃ x, Hid (U4.heap.size = x) := ⟨_, Lib.hid rfl⟩
    have AL := Lib.hid (al1 U4 (.cells #[.int .i64 0, .int .i64 0] 41))
    rw [hx8.out] at AL ⊢
    refine yK hK ?_
    clear hK K
    refine yR (fun K hK => ?_)
    refine qstore 41 _ _ rfl x8 #[.int .i64 0, .int .i64 0] (cellA C) 41 rfl rfl AL.out.2 (by exact (qJC C)) rfl (qoneC C) ?_
    intro U5 h8 hg8 hs8
    have b : Below U4.heap.size U4 U5 := qstep (by have h1 := AL.out.1; rw [← hx8.out] at h1; exact h1) hg8 (Nat.le_of_eq hx8.out)
    replace BF := Lib.hid (BF.out.trans (b.mono BF.out.size))
    replace HR := Lib.hid (HR.out.below b)
    replace XF := Lib.hid (qblk b XF.out)
    replace XL := Lib.hid (qblk b XL.out)
    clear b
    have Xx8 := Lib.hid h8
    clear h8 hg8 hs8 AL
    refine yK hK ?_
    clear hK K
    refine yM (.int .i64 G) ?_
    refine yE ?_
    go_upto_region 6 with fail
    refine yB ?_
    refine yM (.int .i64 E) ?_
    refine yW (.bool (E == 0)) ?_
    refine yE ?_
    go_upto_if 45 with fail
    go_cut [45] from 176 (fun _ wc => Hid (Below w.heap.size w wc) ∧ Hid (RdI wc a f.kinds.length n f.kinds) ∧ Hid (wc.heap[p]? = some (.cells (f.cells a n) 28 (0, 0))) ∧ Hid (wc.heap[q]? = some (.cells (lookA x) 43 (0, 0))) ∧ Hid (wc.heap[x8]? = some (.cells (cellA C) 41 (0, 0))))
    case first =>
      cases he0 : (E == 0)
      · go_wp2_with fail
        go_meet
        case rel => exact ⟨BF, HR, XF, XL, Xx8⟩
      · have PT : Hid (cellP f I = (x.cell, 0)) := Lib.hid (by have h := places_there (f := f) (c := x.cell) (by rw [hE.out]; simpa using he0); rw [hI.out] at h; exact h)
        go_upto_region 7 with fail
        refine yB ?_
        refine yW (.agg (f.cells a n)) ?_ (qyrow (by kernel_rfl) 28 _ rfl p rfl _ 28 (0, 0) _ (fun W hW => by rw [hW]; exact XF.out) Tryz.underlying28 rfl (by exact (qJF f a n)))
        refine yM (.int .i64 I) ?_
        refine yR (fun K hK => ?_)
        go_simp
        refine (cellP_any f a n I _ HR.out).mono ?_
        rintro e U6 ⟨rfl, b⟩
        rw [PT.out]
        replace BF := Lib.hid (BF.out.trans (b.mono BF.out.size))
        replace HR := Lib.hid (HR.out.below b)
        replace XF := Lib.hid (qblk b XF.out)
        replace XL := Lib.hid (qblk b XL.out)
        replace Xx8 := Lib.hid (qblk b Xx8.out)
        clear b
        try dsimp only
        refine yK hK ?_
        clear hK K
        refine yM (.tuple #[.agg (cellA x.cell), .int .i64 0]) ?_
        refine yM (.agg (cellA x.cell)) ?_
        refine yM (.int .i64 0) ?_
        refine yR (fun K hK => ?_)
        refine qbuild (w' := U6.alloc (.cells #[.int .i64 0, .int .i64 0] 41)) (.pointer (some ⟨U6.heap.size, 0, none⟩)) (by kernel_rfl) ?_
        obtain ⟨x10, hx10⟩ : ∃ x, Hid (U6.heap.size = x) := ⟨_, Lib.hid rfl⟩
        have AL := Lib.hid (al1 U6 (.cells #[.int .i64 0, .int .i64 0] 41))
        rw [hx10.out] at AL ⊢
        refine yK hK ?_
        clear hK K
        refine yR (fun K hK => ?_)
        refine qstore 41 _ _ rfl x10 #[.int .i64 0, .int .i64 0] (cellA x.cell) 41 rfl rfl AL.out.2 (by exact (qJC x.cell)) rfl (qoneC x.cell) ?_
        intro U7 h8 hg8 hs8
        have b : Below U6.heap.size U6 U7 := qstep (by have h1 := AL.out.1; rw [← hx10.out] at h1; exact h1) hg8 (Nat.le_of_eq hx10.out)
        replace BF := Lib.hid (BF.out.trans (b.mono BF.out.size))
        replace HR := Lib.hid (HR.out.below b)
        replace XF := Lib.hid (qblk b XF.out)
        replace XL := Lib.hid (qblk b XL.out)
        replace Xx8 := Lib.hid (qblk b Xx8.out)
        clear b
        have Xx10 := Lib.hid h8
        clear h8 hg8 hs8 AL
        refine yK hK ?_
        clear hK K
        refine yM (.int .i64 0) ?_
        refine yE ?_
        go_upto_region 8 with fail
        refine yB ?_
        refine yM (.int .i64 0) ?_
        refine yW (.bool false) ?_
        refine yM (.bool false) ?_
        refine yW (.agg (cellA x.cell)) ?_ (qyrow (by kernel_rfl) 41 _ rfl x10 rfl _ 41 (0, 0) _ (fun W hW => by rw [hW]; exact Xx10.out) Tryz.underlying41 rfl (by exact (qJC x.cell)))
        refine yW (.pointer (some ⟨q, 0, none⟩)) ?_
        refine yW (.agg (cellA x.cell)) ?_ (.inl ⟨by kernel_rfl, by intro W hW; rw [hW]; have c0 := qcell XL.out 0 (.int .i64 x.cell.1) rfl; have c1 := qcell XL.out 1 (.int .i64 x.cell.2) rfl; go_simp; (try rfl)⟩)
        refine yW (.bool false) ?_ (.inl ⟨by kernel_rfl, by intro W hW; rw [hW]; unfold cellA; go_simp⟩)
        refine yM (.bool false) ?_
        refine yE ?_
        go_wp2_with fail
        go_meet
        case rel => exact ⟨BF, HR, XF, XL, Xx8⟩
    case rest =>
      clear BF HR XF XL Xx8
      obtain ⟨BF, HR, XF, XL, Xx8⟩ := hcut
      go_upto_region 10 with fail
      refine yB ?_
      refine yM (.int .i64 G) ?_
      refine yW (.bool (G == 0)) ?_
      refine yE ?_
      go_upto_if 61 with fail
      go_cut [61] from 176 (fun _ wc => Hid (Below w.heap.size w wc) ∧ Hid (RdI wc a f.kinds.length n f.kinds) ∧ Hid (wc.heap[p]? = some (.cells (f.cells a n) 28 (0, 0))) ∧ Hid (wc.heap[q]? = some (.cells (lookA x) 43 (0, 0))) ∧ Hid (wc.heap[x8]? = some (.cells (cellA C) 41 (0, 0))))
      case first =>
        cases hg0 : (G == 0)
        · go_wp2_with fail
          go_meet
          case rel => exact ⟨BF, HR, XF, XL, Xx8⟩
        · have PB : Hid (indexP f C = (x.idx, 0)) := Lib.hid (by have h := places_back (f := f) (i := x.idx) (by rw [hG.out]; simpa using hg0); rw [hC.out] at h; exact h)
          go_upto_region 11 with fail
          refine yB ?_
          refine yW (.agg (f.cells a n)) ?_ (qyrow (by kernel_rfl) 28 _ rfl p rfl _ 28 (0, 0) _ (fun W hW => by rw [hW]; exact XF.out) Tryz.underlying28 rfl (by exact (qJF f a n)))
          refine yW (.agg (cellA C)) ?_ (qyrow (by kernel_rfl) 41 _ rfl x8 rfl _ 41 (0, 0) _ (fun W hW => by rw [hW]; exact Xx8.out) Tryz.underlying41 rfl (by exact (qJC C)))
          refine yR (fun K hK => ?_)
          go_simp
          refine (indexP_any f a n C _ HR.out).mono ?_
          rintro e U6 ⟨rfl, b⟩
          rw [PB.out]
          replace BF := Lib.hid (BF.out.trans (b.mono BF.out.size))
          replace HR := Lib.hid (HR.out.below b)
          replace XF := Lib.hid (qblk b XF.out)
          replace XL := Lib.hid (qblk b XL.out)
          replace Xx8 := Lib.hid (qblk b Xx8.out)
          clear b
          try dsimp only
          refine yK hK ?_
          clear hK K
          refine yM (.tuple #[.int .i64 x.idx, .int .i64 0]) ?_
          refine yM (.int .i64 x.idx) ?_
          refine yM (.int .i64 0) ?_
          refine yM (.int .i64 x.idx) ?_
          refine yM (.int .i64 0) ?_
          refine yE ?_
          go_upto_region 12 with fail
          refine yB ?_
          refine yM (.int .i64 0) ?_
          refine yW (.bool false) ?_
          refine yM (.bool false) ?_
          refine yM (.int .i64 x.idx) ?_
          refine yW (.pointer (some ⟨q, 2, none⟩)) ?_
          refine yW (.int .i64 x.idx) ?_ (.inl ⟨by kernel_rfl, by intro W hW; rw [hW]; have c := qcell XL.out 2 (.int .i64 x.idx) rfl; go_simp⟩)
          refine yW (.bool false) ?_
          refine yM (.bool false) ?_
          refine yE ?_
          go_wp2_with fail
          go_meet
          case rel => exact ⟨BF, HR, XF, XL, Xx8⟩
      case rest =>
        clear BF HR XF XL Xx8
        obtain ⟨BF, HR, XF, XL, Xx8⟩ := hcut
        go_upto_region 14 with fail
        refine yB ?_
        refine yW (.agg (f.cells a n)) ?_ (qyrow (by kernel_rfl) 28 _ rfl p rfl _ 28 (0, 0) _ (fun W hW => by rw [hW]; exact XF.out) Tryz.underlying28 rfl (by exact (qJF f a n)))
        refine yW (.pointer (some ⟨q, 0, none⟩)) ?_
        refine yW (.agg (cellA x.cell)) ?_ (.inl ⟨by kernel_rfl, by intro W hW; rw [hW]; have c0 := qcell XL.out 0 (.int .i64 x.cell.1) rfl; have c1 := qcell XL.out 1 (.int .i64 x.cell.2) rfl; go_simp; (try rfl)⟩)
        refine yW (.pointer (some ⟨q, 3, none⟩)) ?_
        refine yW (.int .i64 x.kind) ?_ (.inl ⟨by kernel_rfl, by intro W hW; rw [hW]; have c := qcell XL.out 3 (.int .i64 x.kind) rfl; go_simp⟩)
        refine yR (fun K hK => ?_)
        go_simp
        refine (setF_any f a n x.cell x.kind _ HR.out).mono ?_
        rintro e U6 ⟨b1, m1, rfl, rr, b⟩
        have R1 := Lib.hid rr
        clear rr
        replace BF := Lib.hid (BF.out.trans (b.mono BF.out.size))
        replace HR := Lib.hid (HR.out.below b)
        replace XF := Lib.hid (qblk b XF.out)
        replace XL := Lib.hid (qblk b XL.out)
        replace Xx8 := Lib.hid (qblk b Xx8.out)
        clear b
        obtain ⟨D, hD⟩ : ∃ z, Hid ((setF f x.cell x.kind).1 = z) := ⟨_, Lib.hid rfl⟩
        obtain ⟨Q, hQ⟩ : ∃ z, Hid ((setF f x.cell x.kind).2 = z) := ⟨_, Lib.hid rfl⟩
        rw [hD.out] at R1 ⊢
        rw [hQ.out]
        try dsimp only
        refine yK hK ?_
        clear hK K
        refine yM (.tuple #[.agg (D.cells b1 m1), .int .i64 Q]) ?_
        refine yM (.agg (D.cells b1 m1)) ?_
        refine yM (.int .i64 Q) ?_
        refine yR (fun K hK => ?_)
        refine qbuild (w' := U6.alloc (.cells #[.int .i64 0, .int .i64 0, .int .i64 0, .slice none 0 0] 28)) (.pointer (some ⟨U6.heap.size, 0, none⟩)) (by kernel_rfl) ?_
        obtain ⟨x14, hx14⟩ : ∃ x, Hid (U6.heap.size = x) := ⟨_, Lib.hid rfl⟩
        have AL := Lib.hid (al1 U6 (.cells #[.int .i64 0, .int .i64 0, .int .i64 0, .slice none 0 0] 28))
        rw [hx14.out] at AL ⊢
        refine yK hK ?_
        clear hK K
        refine yR (fun K hK => ?_)
        refine qstore 28 _ _ rfl x14 #[.int .i64 0, .int .i64 0, .int .i64 0, .slice none 0 0] (D.cells b1 m1) 28 rfl rfl AL.out.2 (by exact qJF D b1 m1) rfl (qone D b1 m1) ?_
        intro U7 h8 hg8 hs8
        have b : Below U6.heap.size U6 U7 := qstep (by have h1 := AL.out.1; rw [← hx14.out] at h1; exact h1) hg8 (Nat.le_of_eq hx14.out)
        replace BF := Lib.hid (BF.out.trans (b.mono BF.out.size))
        replace HR := Lib.hid (HR.out.below b)
        replace R1 := Lib.hid (R1.out.below b)
        replace XF := Lib.hid (qblk b XF.out)
        replace XL := Lib.hid (qblk b XL.out)
        replace Xx8 := Lib.hid (qblk b Xx8.out)
        clear b
        have Xx14 := Lib.hid h8
        clear h8 hg8 hs8 AL
        refine yK hK ?_
        clear hK K
        refine yM (.int .i64 Q) ?_
        refine yE ?_
        cases hq : decide (Q ≠ 0)
        · have QZ : Hid (Q = 0) := Lib.hid (by simpa using hq)
          rw [QZ.out]
          have SZ := Lib.hid (show (setF f x.cell x.kind).2 = 0 by rw [hQ.out, QZ.out])
          have SV := Lib.hid (set_valid SZ.out)
          have FV := Lib.hid (set_ok2 SZ.out).1
          rw [hD.out] at SV
          have LL := Lib.hid (FaceV.len_le FV.out)
          have PP := Lib.hid (fun (kd : Int) (h : kindB kd = true) => places_plain (kind := kd) SZ.out h)
          rw [hD.out] at PP
          go_upto_region 15 with fail
          refine yB ?_
          refine yM (.int .i64 0) ?_
          refine yW (.bool false) ?_
          refine yE ?_
          go_wp2_with fail
          go_loopw [16, 17] (fun s v wr => ∃ k : Nat, v = .int .i64 (k : Int) ∧ s = .int .i64 (lenK D k : Int) ∧ k ≤ 3 ∧ Hid (Below w.heap.size w wr) ∧ Hid (RdI wr a f.kinds.length n f.kinds) ∧ Hid (RdI wr b1 D.kinds.length m1 D.kinds) ∧ Hid (wr.heap[p]? = some (.cells (f.cells a n) 28 (0, 0))) ∧ Hid (wr.heap[q]? = some (.cells (lookA x) 43 (0, 0))) ∧ Hid (wr.heap[x14]? = some (.cells (D.cells b1 m1) 28 (0, 0)))) (fun _ v _ => 3 - (intOf v).toNat)
          case atStart => exact ⟨0, rfl, by rfl, by omega, BF, HR, R1, XF, XL, Xx14⟩
          case round =>
            clear BF HR R1 XF XL Xx14
            obtain ⟨k, rfl, rfl, hk, BF, HR, R1, XF, XL, Xx14⟩ := hrel
            by_cases hkn : k < 3
            · have t0 : decide ((k : Int) < 3) = true := by simp; omega
              have HK64 : Hid ((k : Int) + 1 ≤ 9223372036854775807) := Lib.hid (by omega)
              have KB : Hid (kindB (k : Int) = true) := Lib.hid (by rcases (show k = 0 ∨ k = 1 ∨ k = 2 by omega) with rfl | rfl | rfl <;> decide)
              have PK := Lib.hid (PP.out (k : Int) KB.out)
              have LS := Lib.hid (lenK_succ D k)
              have LB := Lib.hid (lenK_le D k)
              have CB := Lib.hid (cellsF_len D (k : Int) D.kinds.length)
              obtain ⟨lc, hlc⟩ : ∃ z, Hid (cellsF D (k : Int) D.kinds.length = z) := ⟨_, Lib.hid rfl⟩
              have CP : Hid (cellsP D (k : Int) = (lc, 0)) := Lib.hid (by rw [PK.out.1, ← hlc.out, SV.out.2.1])
              have PM : Hid (∀ y ∈ lc, ∃ was, atF D y = ((k : Int), 0) ∧ atF f y = (was, 0) ∧ (y = x.cell → (k : Int) = x.kind) ∧ (y ≠ x.cell → (k : Int) = was)) := Lib.hid (fun y hy => PK.out.2 y (by rw [← hlc.out, SV.out.2.1] at hy; exact hy))
              rw [hlc.out] at LS CB
              obtain ⟨NK, hNK⟩ : ∃ z, Hid (lc.length = z) := ⟨_, Lib.hid rfl⟩
              rw [hNK.out] at LS CB
              have WS := Lib.hid (show wrap64 ((lenK D k : Int) + (NK : Int)) = (lenK D (k + 1) : Int) by
                have h1 := LB.out
                have h2 := CB.out
                have h3 := SV.out.2.1
                have h4 := LL.out
                have h5 : k * D.kinds.length ≤ 3 * D.kinds.length := Nat.mul_le_mul_right _ hk
                rw [LS.out]
                push_cast
                unfold wrap64
                omega)
              go_upto_region 21 with fail
              clear t0
              refine yB ?_
              refine yW (.agg (D.cells b1 m1)) ?_ (qyrow (by kernel_rfl) 28 _ rfl x14 rfl _ 28 (0, 0) _ (fun W hW => by rw [hW]; exact Xx14.out) Tryz.underlying28 rfl (by exact (qJF D b1 m1)))
              refine yM (.int .i64 (k : Int)) ?_
              refine yR (fun K hK => ?_)
              go_simp
              refine (cellsP_any D b1 m1 (k : Int) _ R1.out).mono ?_
              rintro e U8 ⟨b2, m2, rfl, own, b⟩
              rw [CP.out] at own ⊢
              try dsimp only at own ⊢
              rw [hNK.out] at own ⊢
              have RC : Hid (RdC U8 b2 NK m2 lc) := Lib.hid (RdA.of_own own)
              clear own
              replace BF := Lib.hid (BF.out.trans (b.mono BF.out.size))
              replace HR := Lib.hid (HR.out.below b)
              replace R1 := Lib.hid (R1.out.below b)
              replace XF := Lib.hid (qblk b XF.out)
              replace XL := Lib.hid (qblk b XL.out)
              replace Xx14 := Lib.hid (qblk b Xx14.out)
              clear b
              try dsimp only
              refine yK hK ?_
              clear hK K
              refine yM (.tuple #[.slice b2 NK m2, .int .i64 0]) ?_
              refine yM (.slice b2 NK m2) ?_
              refine yM (.int .i64 0) ?_
              refine yM (.slice b2 NK m2) ?_
              refine yM (.int .i64 0) ?_
              refine yE ?_
              go_upto_region 22 with fail
              refine yB ?_
              refine yM (.int .i64 0) ?_
              refine yW (.bool false) ?_
              refine yE ?_
              go_upto_region 24 with fail
              refine yB ?_
              refine yM (.int .i64 (lenK D k : Int)) ?_
              refine yM (.slice b2 NK m2) ?_
              refine yW (.int .i64 (NK : Int)) ?_
              refine yW (.int .i64 (lenK D (k + 1) : Int)) ?_ (.inl ⟨by kernel_rfl, by intro W hW; rw [hW]; go_simp; first | done | exact (IntWalk.i64_left _).trans WS.out⟩)
              refine yM (.int .i64 (lenK D (k + 1) : Int)) ?_
              refine yE ?_
              go_wp2_with fail
              have NB : Hid (NK ≤ 2304) := Lib.hid (by have := CB.out; have := LL.out; have := SV.out.2.1; omega)
              generalize U8 = Y1 at *
              go_loopw [20] (fun v wr => ∃ j : Nat, v = .int .i64 (j : Int) ∧ j ≤ NK ∧ Hid (Below w.heap.size w wr) ∧ Hid (RdI wr a f.kinds.length n f.kinds) ∧ Hid (RdI wr b1 D.kinds.length m1 D.kinds) ∧ Hid (RdC wr b2 NK m2 lc) ∧ Hid (wr.heap[p]? = some (.cells (f.cells a n) 28 (0, 0))) ∧ Hid (wr.heap[q]? = some (.cells (lookA x) 43 (0, 0))) ∧ Hid (wr.heap[x14]? = some (.cells (D.cells b1 m1) 28 (0, 0)))) (fun v _ => NK - (intOf v).toNat)
              case atStart => exact ⟨0, rfl, Nat.zero_le _, BF, HR, R1, RC, XF, XL, Xx14⟩
              case round =>
                clear BF HR R1 RC XF XL Xx14
                obtain ⟨j, rfl, hj, BF, HR, R1, RC, XF, XL, Xx14⟩ := hrel
                by_cases hjn : j < NK
                · have t0 : decide ((j : Int) < (NK : Int)) = true := by simp; omega
                  have HJ64 : Hid ((j : Int) + 1 ≤ 9223372036854775807) := Lib.hid (by have := NB.out; omega)
                  obtain ⟨y, hy⟩ : ∃ y, lc[j]? = some y := ⟨_, List.getElem?_eq_getElem (by rw [hNK.out]; exact hjn)⟩
                  obtain ⟨was, pw⟩ := PM.out y (List.mem_of_getElem? hy)
                  have PW := Lib.hid pw
                  have HY := Lib.hid hy
                  obtain ⟨gc, oc, ha, _⟩ := RC.out.get hy
                  subst ha
                  obtain ⟨m, hm⟩ : ∃ m, Hid (oc + j * 2 = m) := ⟨_, Lib.hid rfl⟩
                  have hi := fun W => qidx (W := W) (c := m2) (b := gc) Tryz.underlying45 qsizeC hjn hm.out
                  have hjl : j < NK := hjn
                  clear hy pw
                  go_upto_region 28 with fail
                  clear t0
                  have hd : Below wr.heap.size wr wr.drew := (Below.refl _ _).drew
                  replace BF := Lib.hid (BF.out.trans (hd.mono BF.out.size))
                  replace HR := Lib.hid (HR.out.below hd)
                  replace R1 := Lib.hid (R1.out.below hd)
                  replace RC := Lib.hid (RC.out.below hd)
                  replace XF := Lib.hid (qblk hd XF.out)
                  replace XL := Lib.hid (qblk hd XL.out)
                  replace Xx14 := Lib.hid (qblk hd Xx14.out)
                  clear hd
                  refine zD (fun W => Below wr.drew.heap.size wr.drew W) (Below.refl _ _) (fun hHeld => ?_)
                  have BV := Lib.hid hHeld
                  generalize wr.drew = V1 at *
                  refine zT 0 rfl (.agg (D.cells b1 m1)) (qyrow (by kernel_rfl) 28 _ rfl x14 rfl _ 28 (0, 0) _ (fun W hW => qblk hW Xx14.out) Tryz.underlying28 rfl (by exact (qJF D b1 m1))) ?_
                  refine zW 1 rfl (.slice (some ⟨gc, oc, none⟩) NK m2) ?_
                  refine zW 2 rfl (.int .i64 (j : Int)) ?_
                  refine zW 3 rfl (.pointer (some ⟨gc, m, none⟩)) ?_
                  refine zS 4 rfl (.agg (cellA y)) (fun W hW => by have c0 := (rdc_at (RC.out.below hW) HY.out).1; have c1 := (rdc_at (RC.out.below hW) HY.out).2; rw [hm.out] at c0 c1; go_simp; (try rfl)) ?_
                  refine zR 5 rfl (fun K hK => ?_)
                  go_simp
                  refine (atP_any D b1 m1 y _ (R1.out.below BV.out)).mono ?_
                  rintro e Z1 ⟨rfl, b⟩
                  rw [PW.out.1]
                  have BV2 := Lib.hid (BV.out.trans (b.mono BV.out.size))
                  clear b BV
                  have BV := BV2
                  clear BV2
                  try dsimp only
                  refine zK hK BV.out (fun hHeld => ?_)
                  clear hK K
                  refine zW 6 rfl (.tuple #[.int .i64 (k : Int), .int .i64 0]) ?_
                  refine zW 7 rfl (.int .i64 (k : Int)) ?_
                  refine zW 8 rfl (.int .i64 0) ?_
                  refine zW 9 rfl (.int .i64 (k : Int)) ?_
                  refine zW 10 rfl (.int .i64 0) ?_
                  refine zE ?_
                  have bz := BV.out
                  replace BF := Lib.hid (BF.out.trans (bz.mono BF.out.size))
                  replace HR := Lib.hid (HR.out.below bz)
                  replace R1 := Lib.hid (R1.out.below bz)
                  replace RC := Lib.hid (RC.out.below bz)
                  replace XF := Lib.hid (qblk bz XF.out)
                  replace XL := Lib.hid (qblk bz XL.out)
                  replace Xx14 := Lib.hid (qblk bz Xx14.out)
                  clear bz
                  clear BV
                  go_upto_region 29 with fail
                  have hd : Below Z1.heap.size Z1 Z1.drew := (Below.refl _ _).drew
                  replace BF := Lib.hid (BF.out.trans (hd.mono BF.out.size))
                  replace HR := Lib.hid (HR.out.below hd)
                  replace R1 := Lib.hid (R1.out.below hd)
                  replace RC := Lib.hid (RC.out.below hd)
                  replace XF := Lib.hid (qblk hd XF.out)
                  replace XL := Lib.hid (qblk hd XL.out)
                  replace Xx14 := Lib.hid (qblk hd Xx14.out)
                  clear hd
                  refine zD (fun W => Below Z1.drew.heap.size Z1.drew W) (Below.refl _ _) (fun hHeld => ?_)
                  have BV := Lib.hid hHeld
                  generalize Z1.drew = V2 at *
                  refine zT 0 rfl (.agg (f.cells a n)) (qyrow (by kernel_rfl) 28 _ rfl p rfl _ 28 (0, 0) _ (fun W hW => qblk hW XF.out) Tryz.underlying28 rfl (by exact (qJF f a n))) ?_
                  refine zW 1 rfl (.slice (some ⟨gc, oc, none⟩) NK m2) ?_
                  refine zW 2 rfl (.int .i64 (j : Int)) ?_
                  refine zW 3 rfl (.pointer (some ⟨gc, m, none⟩)) ?_
                  refine zS 4 rfl (.agg (cellA y)) (fun W hW => by have c0 := (rdc_at (RC.out.below hW) HY.out).1; have c1 := (rdc_at (RC.out.below hW) HY.out).2; rw [hm.out] at c0 c1; go_simp; (try rfl)) ?_
                  refine zR 5 rfl (fun K hK => ?_)
                  go_simp
                  refine (atP_any f a n y _ (HR.out.below BV.out)).mono ?_
                  rintro e Z2 ⟨rfl, b⟩
                  rw [PW.out.2.1]
                  have BV2 := Lib.hid (BV.out.trans (b.mono BV.out.size))
                  clear b BV
                  have BV := BV2
                  clear BV2
                  try dsimp only
                  refine zK hK BV.out (fun hHeld => ?_)
                  clear hK K
                  refine zW 6 rfl (.tuple #[.int .i64 was, .int .i64 0]) ?_
                  refine zW 7 rfl (.int .i64 was) ?_
                  refine zW 8 rfl (.int .i64 0) ?_
                  refine zW 9 rfl (.int .i64 was) ?_
                  refine zW 10 rfl (.int .i64 0) ?_
                  refine zE ?_
                  have bz := BV.out
                  replace BF := Lib.hid (BF.out.trans (bz.mono BF.out.size))
                  replace HR := Lib.hid (HR.out.below bz)
                  replace R1 := Lib.hid (R1.out.below bz)
                  replace RC := Lib.hid (RC.out.below bz)
                  replace XF := Lib.hid (qblk bz XF.out)
                  replace XL := Lib.hid (qblk bz XL.out)
                  replace Xx14 := Lib.hid (qblk bz Xx14.out)
                  clear bz
                  clear BV
                  go_upto_region 30 with fail
                  have hd : Below Z2.heap.size Z2 Z2.drew := (Below.refl _ _).drew
                  replace BF := Lib.hid (BF.out.trans (hd.mono BF.out.size))
                  replace HR := Lib.hid (HR.out.below hd)
                  replace R1 := Lib.hid (R1.out.below hd)
                  replace RC := Lib.hid (RC.out.below hd)
                  replace XF := Lib.hid (qblk hd XF.out)
                  replace XL := Lib.hid (qblk hd XL.out)
                  replace Xx14 := Lib.hid (qblk hd Xx14.out)
                  clear hd
                  refine zD (fun W => Below Z2.drew.heap.size Z2.drew W) (Below.refl _ _) (fun hHeld => ?_)
                  have BV := Lib.hid hHeld
                  generalize Z2.drew = V3 at *
                  refine zW 0 rfl (.int .i64 0) ?_
                  refine zW 1 rfl (.bool false) ?_
                  refine zW 2 rfl (.bool false) ?_
                  refine zW 3 rfl (.int .i64 0) ?_
                  refine zW 4 rfl (.bool false) ?_
                  refine zW 5 rfl (.bool false) ?_
                  refine zW 6 rfl (.bool false) ?_
                  refine zW 7 rfl (.int .i64 (k : Int)) ?_
                  refine zW 8 rfl (.int .i64 (k : Int)) ?_
                  refine zW 9 rfl (.bool false) ?_
                  refine zW 10 rfl (.bool false) ?_
                  refine zW 11 rfl (.bool false) ?_
                  refine zW 12 rfl (.slice (some ⟨gc, oc, none⟩) NK m2) ?_
                  refine zW 13 rfl (.int .i64 (j : Int)) ?_
                  refine zW 14 rfl (.pointer (some ⟨gc, m, none⟩)) ?_
                  refine zS 15 rfl (.agg (cellA y)) (fun W hW => by have c0 := (rdc_at (RC.out.below hW) HY.out).1; have c1 := (rdc_at (RC.out.below hW) HY.out).2; rw [hm.out] at c0 c1; go_simp; (try rfl)) ?_
                  refine zW 16 rfl (.pointer (some ⟨q, 0, none⟩)) ?_
                  refine zS 17 rfl (.agg (cellA x.cell)) (fun W hW => by have c0 := qcell (qblk hW XL.out) 0 (.int .i64 x.cell.1) rfl; have c1 := qcell (qblk hW XL.out) 1 (.int .i64 x.cell.2) rfl; go_simp; (try rfl)) ?_
                  cases hc : decide (y = x.cell)
                  · have NC := Lib.hid (of_decide_eq_false hc)
                    clear hc
                    refine zW 18 rfl (.bool false) (hy := .inl ⟨by kernel_rfl, by intro W _; unfold cellA; go_simp; have h3 := NC.out; by_cases h1 : y.1 = x.cell.1 <;> by_cases h2 : y.2 = x.cell.2 <;> simp [h1, h2] <;> exact h3 (Prod.ext h1 h2)⟩) ?_
                    refine zW 19 rfl (.bool false) ?_
                    refine zW 20 rfl undef (hy := .inr ⟨by kernel_rfl, rfl⟩) ?_
                    refine zW 21 rfl undef (hy := .inr ⟨by kernel_rfl, rfl⟩) ?_
                    refine zW 22 rfl undef (hy := .inr ⟨by kernel_rfl, rfl⟩) ?_
                    refine zW 23 rfl undef (hy := .inr ⟨by kernel_rfl, rfl⟩) ?_
                    refine zW 24 rfl (.bool false) ?_
                    refine zW 25 rfl (.bool false) ?_
                    refine zW 26 rfl (.bool false) ?_
                    refine zW 27 rfl (.slice (some ⟨gc, oc, none⟩) NK m2) ?_
                    refine zW 28 rfl (.int .i64 (j : Int)) ?_
                    refine zW 29 rfl (.pointer (some ⟨gc, m, none⟩)) ?_
                    refine zS 30 rfl (.agg (cellA y)) (fun W hW => by have c0 := (rdc_at (RC.out.below hW) HY.out).1; have c1 := (rdc_at (RC.out.below hW) HY.out).2; rw [hm.out] at c0 c1; go_simp; (try rfl)) ?_
                    refine zW 31 rfl (.pointer (some ⟨q, 0, none⟩)) ?_
                    refine zS 32 rfl (.agg (cellA x.cell)) (fun W hW => by have c0 := qcell (qblk hW XL.out) 0 (.int .i64 x.cell.1) rfl; have c1 := qcell (qblk hW XL.out) 1 (.int .i64 x.cell.2) rfl; go_simp; (try rfl)) ?_
                    refine zW 33 rfl (.bool true) (hy := .inl ⟨by kernel_rfl, by intro W _; unfold cellA; go_simp; have h3 := NC.out; by_cases h1 : y.1 = x.cell.1 <;> by_cases h2 : y.2 = x.cell.2 <;> simp [h1, h2] <;> exact h3 (Prod.ext h1 h2)⟩) ?_
                    refine zW 34 rfl (.bool true) ?_
                    refine zW 35 rfl (.int .i64 (k : Int)) ?_
                    refine zW 36 rfl (.int .i64 was) ?_
                    refine zW 37 rfl (.bool false) (hy := .inl ⟨by kernel_rfl, by intro W _; have c := PW.out.2.2.2 NC.out; go_simp; first | done | (rw [c]; simp; done) | (simp [c]; done)⟩) ?_
                    refine zW 38 rfl (.bool false) ?_
                    refine zW 39 rfl (.bool false) ?_
                    refine zE ?_
                    have bz := BV.out
                    replace BF := Lib.hid (BF.out.trans (bz.mono BF.out.size))
                    replace HR := Lib.hid (HR.out.below bz)
                    replace R1 := Lib.hid (R1.out.below bz)
                    replace RC := Lib.hid (RC.out.below bz)
                    replace XF := Lib.hid (qblk bz XF.out)
                    replace XL := Lib.hid (qblk bz XL.out)
                    replace Xx14 := Lib.hid (qblk bz Xx14.out)
                    clear bz
                    clear BV
                    go_upto_region 27 with fail
                    clear hi
                    have hj64 := HJ64.out
                    go_wp2_with fail
                    go_roundw
                    case rel => exact ⟨j + 1, by simp, by omega, BF, HR, R1, RC, XF, XL, Xx14⟩
                    case measure => simp [intOf]; omega
                  · have YC := Lib.hid (of_decide_eq_true hc)
                    clear hc
                    refine zW 18 rfl (.bool true) (hy := .inl ⟨by kernel_rfl, by intro W _; unfold cellA; go_simp; rw [YC.out]; simp⟩) ?_
                    refine zW 19 rfl (.bool true) ?_
                    refine zW 20 rfl (.int .i64 (k : Int)) ?_
                    refine zW 21 rfl (.pointer (some ⟨q, 3, none⟩)) ?_
                    refine zS 22 rfl (.int .i64 x.kind) (fun W hW => by have c := qcell (qblk hW XL.out) 3 (.int .i64 x.kind) rfl; go_simp) ?_
                    refine zW 23 rfl (.bool false) (hy := .inl ⟨by kernel_rfl, by intro W _; have c := PW.out.2.2.1 YC.out; go_simp; first | done | (rw [c]; simp; done) | (simp [c]; done)⟩) ?_
                    refine zW 24 rfl (.bool false) ?_
                    refine zW 25 rfl (.bool false) ?_
                    refine zW 26 rfl (.bool false) ?_
                    refine zW 27 rfl (.slice (some ⟨gc, oc, none⟩) NK m2) ?_
                    refine zW 28 rfl (.int .i64 (j : Int)) ?_
                    refine zW 29 rfl (.pointer (some ⟨gc, m, none⟩)) ?_
                    refine zS 30 rfl (.agg (cellA y)) (fun W hW => by have c0 := (rdc_at (RC.out.below hW) HY.out).1; have c1 := (rdc_at (RC.out.below hW) HY.out).2; rw [hm.out] at c0 c1; go_simp; (try rfl)) ?_
                    refine zW 31 rfl (.pointer (some ⟨q, 0, none⟩)) ?_
                    refine zS 32 rfl (.agg (cellA x.cell)) (fun W hW => by have c0 := qcell (qblk hW XL.out) 0 (.int .i64 x.cell.1) rfl; have c1 := qcell (qblk hW XL.out) 1 (.int .i64 x.cell.2) rfl; go_simp; (try rfl)) ?_
                    refine zW 33 rfl (.bool false) (hy := .inl ⟨by kernel_rfl, by intro W _; unfold cellA; go_simp; rw [YC.out]; simp⟩) ?_
                    refine zW 34 rfl (.bool false) ?_
                    refine zW 35 rfl undef (hy := .inr ⟨by kernel_rfl, rfl⟩) ?_
                    refine zW 36 rfl undef (hy := .inr ⟨by kernel_rfl, rfl⟩) ?_
                    refine zW 37 rfl undef (hy := .inr ⟨by kernel_rfl, rfl⟩) ?_
                    refine zW 38 rfl (.bool false) ?_
                    refine zW 39 rfl (.bool false) ?_
                    refine zE ?_
                    have bz := BV.out
                    replace BF := Lib.hid (BF.out.trans (bz.mono BF.out.size))
                    replace HR := Lib.hid (HR.out.below bz)
                    replace R1 := Lib.hid (R1.out.below bz)
                    replace RC := Lib.hid (RC.out.below bz)
                    replace XF := Lib.hid (qblk bz XF.out)
                    replace XL := Lib.hid (qblk bz XL.out)
                    replace Xx14 := Lib.hid (qblk bz Xx14.out)
                    clear bz
                    clear BV
                    go_upto_region 27 with fail
                    clear hi
                    have hj64 := HJ64.out
                    go_wp2_with fail
                    go_roundw
                    case rel => exact ⟨j + 1, by simp, by omega, BF, HR, R1, RC, XF, XL, Xx14⟩
                    case measure => simp [intOf]; omega
                · have t0 : decide ((j : Int) < (NK : Int)) = false := by simp; omega
                  go_upto_region 20 with fail
                  have hk64 := HK64.out
                  go_wp2_with fail
                  go_roundw
                  case rel => exact ⟨k + 1, by simp, rfl, by omega, BF, HR, R1, XF, XL, Xx14⟩
                  case measure => simp [intOf]; omega
            · have t0 : decide ((k : Int) < 3) = false := by simp; omega
              have e : k = 3 := by omega
              subst e
              have LA : Hid ((lenK D 3 : Int) = (f.kinds.length : Int)) := Lib.hid (by rw [lenK_all SV.out.1, SV.out.2.1])
              rw [LA.out]
              go_upto_region 32 with fail
              refine yB ?_
              refine yM (.bool true) ?_
              refine yM (.bool true) ?_
              refine yM (.int .i64 (f.kinds.length : Int)) ?_
              refine yW (.pointer (some ⟨p, 3, none⟩)) ?_
              refine yW (.slice a f.kinds.length n) ?_ (.inl ⟨by kernel_rfl, by intro W hW; rw [hW]; have c := qcell XF.out 3 (.slice a f.kinds.length n) rfl; go_simp⟩)
              refine yW (.int .i64 (f.kinds.length : Int)) ?_
              refine yW (.bool true) ?_
              refine yM (.bool true) ?_
              refine yM (.bool true) ?_
              refine yE ?_
              go_wp2_with fail
              go_ret
              exact ⟨rfl, BF.out⟩
        · have hq2 : (Q != 0) = true := by simpa using hq
          go_upto_region 15 with fail
          refine yB ?_
          refine yM (.int .i64 Q) ?_
          refine yW (.bool true) ?_
          refine yE ?_
          go_wp2_with fail
          go_ret
          exact ⟨rfl, BF.out⟩
end Go.Proofs.YtmpkglokhchpiaaGreatDoor
namespace Go.Proofs.YtmpkglokhchpiaaGreatDoor
open Go.ChangeShapes Go.WideShapes Go.ChangeAt Go.RowKit

theorem Tryz.own : ownKnob Tryz.prog.godebug = none := by kernel_rfl
theorem Tryz.laidOut : laidOutB Tryz.prog = true := by kernel_rfl

theorem below_trodAll {H : Type} {enc : TypeId × Value → H} {P : Program} (hl : laidOutB P = true) {W W' : World} (hb : Below W.heap.size W W') :
    ∀ (ts : List TypeId) {vs : List Value} {ds : List (DataW H)} {ps : List MemPlace}, ts.all (fun t => P.readableRec t && decide (t < P.types.size)) = true → (∀ x ∈ ps, x.block < W.heap.size) →
      DataW.TrodAll enc P W 0 (fun _ => true) true ts vs ds ps → DataW.TrodAll enc P W' 0 (fun b => decide (b < W.heap.size)) true ts vs ds ps
  | [], [], [], _, _, _, h => h
  | [], _ :: _, _, _, _, _, h => h.elim
  | [], [], _ :: _, _, _, _, h => h.elim
  | _ :: _, [], _, _, _, _, h => h.elim
  | _ :: _, _ :: _, [], _, _, _, h => h.elim
  | t :: ts, v :: vs, d :: ds, ps, hr, hlt, h => by
    obtain ⟨p, q, h1, h2, rfl⟩ := h
    simp only [List.all_cons, Bool.and_eq_true, decide_eq_true_eq] at hr
    exact ⟨p, q, Below.trod hl hr.1.1 hr.1.2 h1 hb (fun x hx => hlt x (List.mem_append_left _ hx)), below_trodAll hl hb ts hr.2 (fun x hx => hlt x (List.mem_append_right _ hx)) h2, rfl⟩

theorem post_of_law {H : Type} {enc : TypeId × Value → H} {P : Program} (hl : laidOutB P = true) {t : TypeId} (ht : P.underlying t = some .bool) {f : Func} {s : ChangeSpec} {W W' : World} {args : Array Value} {ds : List (DataW H)} {ps : List MemPlace}
    (hv : s.vars = []) (hf : f.resultTypes = #[t]) (hr : f.params.toList.all (fun t => P.readableRec t && decide (t < P.types.size)) = true)
    (hW : DataW.Whole enc P f.params.toList s.vars false W args.toList ds [] ps) (hA : DataW.TrodAll enc P W 0 (fun _ => true) true f.params.toList args.toList ds ps)
    (hs : s.fn H (ds ++ []) = { results := [.lit (.bool true)], args := ds }) (hb : Below W.heap.size W W') : s.post enc P f false true false false W args (.bool true) W' := by
  refine ⟨ds, [], ps, [], ps, [], hW, ?_, ?_, ?_, hb.frame _, fun h => by cases h⟩
  · rw [hs, hf]
    exact trodAll_mk1 (shut_bool ht _)
  · rw [hs]
    exact below_trodAll hl hb _ hr hW.lt hA
  · rw [hs, hv]
    rfl

end Go.Proofs.YtmpkglokhchpiaaGreatDoor
namespace Go.Proofs.YtmpkglokhchpiaaGreatDoor
open Go.ChangeShapes Go.WideShapes Go.ChangeAt Go.RowKit

theorem i64_of_wf {x : Int} (h : (Lit.int .i64 x).wf = true) : I64 x := by
  simp [Lit.wf, IntKind.min, IntKind.max, IntKind.signed, IntKind.bits] at h
  unfold I64
  omega
theorem Tryz.cells3 : Tryz.prog.cellsOf 3 = 1 := by kernel_rfl
theorem Tryz.cells26 : Tryz.prog.cellsOf 26 = 1 := by kernel_rfl
section
variable {H : Type} {enc : TypeId × Value → H} {W : World} {fuel : Nat}

theorem open_ri1 {cs : List Value} {y : DataW H × List MemPlace} (h : DataW.trod enc Tryz.prog W 0 (fun _ => true) true fuel 26 cs = some y) : ∃ a c l, cs = [.slice a l.length c] ∧ RdI W a l.length c l ∧ ∀ z ∈ l, I64 z := by
  rcases open_ints Tryz.underlying26 Tryz.underlying3 Tryz.cells3 h with ⟨hcs, hx⟩ | ⟨a, n, c, zs, hcs, _, hl, hm, hz, hx, hcell, hwz⟩
  · exact ⟨none, 0, [], hcs, RdA.nil _ _, fun z hz => by cases hz⟩
  · simp only [if_true] at hz
    have hlen : (zs.take n).length = n := by rw [List.length_take]; omega
    refine ⟨some a, c, zs.take n, by rw [hlen]; exact hcs, ⟨by simp, by omega, hm, ?_⟩, fun z hz => i64_of_wf (hwz z (List.mem_of_mem_take hz))⟩
    by_cases hc0 : c = 0
    · exact .inl hc0
    · obtain ⟨ab, ao, spot⟩ := a
      have hspot : spot = none := by simpa [Addr.add] using World.cell?_spot (hcell 0 (by omega))
      subst hspot
      refine .inr ⟨ab, ao, rfl, fun i x hx => ?_⟩
      rw [List.getElem?_map, List.getElem?_take] at hx
      split at hx
      · rename_i hi
        have hiz : i < zs.length := by omega
        rw [List.getElem?_eq_getElem hiz, Option.map_some] at hx
        simp only [Option.some.injEq] at hx
        subst hx
        have hc := hcell i hiz
        rw [Addr.add_lit] at hc
        rw [hc, List.getD_eq_getElem?_getD, List.getElem?_eq_getElem hiz]
        rfl
      · cases hx
end
end Go.Proofs.YtmpkglokhchpiaaGreatDoor
namespace Go.Proofs.YtmpkglokhchpiaaGreatDoor
set_option linter.constructorNameAsVariable false
open Go.ChangeShapes Go.WideShapes Go.ChangeAt Go.RowKit

theorem Tryz.cells28 : Tryz.prog.cellsOf 28 = 4 := by kernel_rfl
section
variable {H : Type} {enc : TypeId × Value → H} {W : World}
set_option maxRecDepth 100000 in
theorem open_face {base : Nat} {v : Value} {d : DataW H} {p : List MemPlace} (hval : Value.okWide Tryz.prog W .any base 28 v)
    (h : DataW.Trod enc Tryz.prog W 0 (fun _ => true) true 28 v d p) : ∃ (f : FaceV) (a : Option Addr) (n : Nat), v = .agg (f.cells a n) ∧ RdI W a f.kinds.length n f.kinds := by
  obtain ⟨cs, rfl, hsz⟩ := okWide_struct Tryz.underlying28 hval
  obtain ⟨fuel, hf⟩ := h
  obtain ⟨y0, y1, y2, y3, n, _, hl, g0, g1, g2, g3⟩ := Go.Joins.trod_struct4 Tryz.underlying28 hf
  rw [Tryz.cells28] at hsz
  obtain ⟨l⟩ := cs
  match l, hsz with
  | [c0, c1, c2, c3], _ =>
    have g0' : DataW.trod enc Tryz.prog W 0 (fun _ => true) true n 3 (([c0, c1, c2, c3].drop 0).take (Tryz.prog.cellsOf 3)) = some y0 := g0
    have g1' : DataW.trod enc Tryz.prog W 0 (fun _ => true) true n 3 (([c0, c1, c2, c3].drop 1).take (Tryz.prog.cellsOf 3)) = some y1 := g1
    have g2' : DataW.trod enc Tryz.prog W 0 (fun _ => true) true n 3 (([c0, c1, c2, c3].drop 2).take (Tryz.prog.cellsOf 3)) = some y2 := g2
    have g3' : DataW.trod enc Tryz.prog W 0 (fun _ => true) true n 26 (([c0, c1, c2, c3].drop 3).take (Tryz.prog.cellsOf 26)) = some y3 := g3
    rw [Tryz.cells3] at g0' g1' g2'
    rw [Tryz.cells26] at g3'
    obtain ⟨x0, a0, _, _⟩ := DataW.trod_int Tryz.underlying3 g0'
    obtain ⟨x1, a1, _, _⟩ := DataW.trod_int Tryz.underlying3 g1'
    obtain ⟨x2, a2, _, _⟩ := DataW.trod_int Tryz.underlying3 g2'
    obtain ⟨a, c, l, a3, hr, _⟩ := open_ri1 g3'
    simp at a0 a1 a2 a3
    exact ⟨⟨x0, x1, x2, l⟩, a, c, by rw [a0, a1, a2, a3]; rfl, hr⟩
end
theorem gE3 : Tryz.prog.globalNamed "strconv.ErrSyntax" = some 3 := by kernel_rfl
theorem gE4 : Tryz.prog.globalNamed "strconv.ErrRange" = some 4 := by kernel_rfl
theorem gE3t : (Tryz.prog.globals[3]?).map (·.type) = some 109 := by kernel_rfl
theorem gE4t : (Tryz.prog.globals[4]?).map (·.type) = some 109 := by kernel_rfl
theorem gstar : "*" ++ "errors.errorString" = "*errors.errorString" := by decide
theorem rowE (u : TypeId) (h : Tryz.prog.typeName? 3 u = some "*errors.errorString") : u = 214 :=
  typeName_ptr_named (nm := "errors.errorString") (by rw [gstar]; kernel_rfl) (by kernel_rfl) (by decide) u (by rw [gstar]; exact h)
theorem Tryz.cells216 : Tryz.prog.cellsOf 216 = 1 := by kernel_rfl
theorem Tryz.cells9 : Tryz.prog.cellsOf 9 = 1 := by kernel_rfl
theorem env_of {W : World} (hL : laidMetH Tryz.prog Rows.stonesSumRow.laid W) (hs : W.ShapedOpen Tryz.prog) : EnvW W := by
  rw [MakeChecks.laidMetH_plain _ _ _ (by kernel_rfl)] at hL
  obtain ⟨a0, s0, hv0, _⟩ := laid_sentinel hL.tail.tail.tail.tail gE4 gE4t Tryz.underlying109 rowE Tryz.underlying214 Tryz.underlying216 rfl rfl Tryz.underlying9 Tryz.cells216 Tryz.cells9
  obtain ⟨a1, s1, hv1, _⟩ := laid_sentinel hL.tail.tail.tail.tail.tail gE3 gE3t Tryz.underlying109 rowE Tryz.underlying214 Tryz.underlying216 rfl rfl Tryz.underlying9 Tryz.cells216 Tryz.cells9
  refine ⟨Go.Proofs.cell_of_shapedOpen_int (zero := #[.int .i64 0]) (t := 3) hs (of_decide_eq_true (by kernel_rfl)) (by kernel_rfl) rfl (by kernel_rfl) (by kernel_rfl) Tryz.underlying3, ⟨.iface 214 (.pointer (some a1)), ?_, .inr ⟨_, _, rfl⟩⟩, ⟨.iface 214 (.pointer (some a0)), ?_, .inr ⟨_, _, rfl⟩⟩⟩
  · have h0 := World.var?_cell gE3 hv1 0
    simpa using h0
  · have h0 := World.var?_cell gE4 hv0 0
    simpa using h0
end Go.Proofs.YtmpkglokhchpiaaGreatDoor
namespace Go.Proofs.YtmpkglokhchpiaaGreatDoor
set_option linter.constructorNameAsVariable false
open Go.ChangeShapes Go.WideShapes Go.ChangeAt Go.RowKit

theorem Tryz.cells41 : Tryz.prog.cellsOf 41 = 2 := by kernel_rfl
section
variable {H : Type} {enc : TypeId × Value → H} {W : World}
set_option maxRecDepth 100000 in
theorem open_cell1 {fuel : Nat} {cs : List Value} {y : DataW H × List MemPlace} (h : DataW.trod enc Tryz.prog W 0 (fun _ => true) true fuel 41 cs = some y) (hl : cs.length = 2) : ∃ c : CellV, cs = [.int .i64 c.1, .int .i64 c.2] := by
  obtain ⟨y0, y1, n, _, _, g0, g1⟩ := trod_struct2 Tryz.underlying41 h
  match cs, hl with
  | [c0, c1], _ =>
    have g0' : DataW.trod enc Tryz.prog W 0 (fun _ => true) true n 3 (([c0, c1].drop 0).take (Tryz.prog.cellsOf 3)) = some y0 := g0
    have g1' : DataW.trod enc Tryz.prog W 0 (fun _ => true) true n 3 (([c0, c1].drop 1).take (Tryz.prog.cellsOf 3)) = some y1 := g1
    rw [Tryz.cells3] at g0' g1'
    obtain ⟨x0, a0, _, _⟩ := DataW.trod_int Tryz.underlying3 g0'
    obtain ⟨x1, a1, _, _⟩ := DataW.trod_int Tryz.underlying3 g1'
    simp at a0 a1
    exact ⟨(x0, x1), by rw [a0, a1]⟩
end
end Go.Proofs.YtmpkglokhchpiaaGreatDoor
namespace Go.Proofs.YtmpkglokhchpiaaGreatDoor
set_option linter.constructorNameAsVariable false
open Go.ChangeShapes Go.WideShapes Go.ChangeAt Go.RowKit

theorem Tryz.cells43 : Tryz.prog.cellsOf 43 = 5 := by kernel_rfl
section
variable {H : Type} {enc : TypeId × Value → H} {W : World}
set_option maxRecDepth 100000 in
theorem open_look {base : Nat} {v : Value} {d : DataW H} {p : List MemPlace} (hval : Value.okWide Tryz.prog W .any base 43 v)
    (h : DataW.Trod enc Tryz.prog W 0 (fun _ => true) true 43 v d p) : ∃ x : LookV, v = .agg (lookA x) ∧ True := by
  obtain ⟨cs, rfl, hsz⟩ := okWide_struct Tryz.underlying43 hval
  obtain ⟨fuel, hf⟩ := h
  rw [Tryz.cells43] at hsz
  obtain ⟨l⟩ := cs
  obtain ⟨y0, y1, y2, y3, n, _, hl, g0, g1, g2, g3⟩ := Go.Joins.trod_struct4 Tryz.underlying43 hf
  match l, hsz with
  | [c0, c1, c2, c3, c4], _ =>
    have g0' : DataW.trod enc Tryz.prog W 0 (fun _ => true) true n 41 (([c0, c1, c2, c3, c4].drop 0).take (Tryz.prog.cellsOf 41)) = some y0 := g0
    have g1' : DataW.trod enc Tryz.prog W 0 (fun _ => true) true n 3 (([c0, c1, c2, c3, c4].drop 2).take (Tryz.prog.cellsOf 3)) = some y1 := g1
    have g2' : DataW.trod enc Tryz.prog W 0 (fun _ => true) true n 3 (([c0, c1, c2, c3, c4].drop 3).take (Tryz.prog.cellsOf 3)) = some y2 := g2
    have g3' : DataW.trod enc Tryz.prog W 0 (fun _ => true) true n 3 (([c0, c1, c2, c3, c4].drop 4).take (Tryz.prog.cellsOf 3)) = some y3 := g3
    rw [Tryz.cells41] at g0'
    rw [Tryz.cells3] at g1' g2' g3'
    obtain ⟨c, a0⟩ := open_cell1 g0' rfl
    obtain ⟨x1, a1, _, _⟩ := DataW.trod_int Tryz.underlying3 g1'
    obtain ⟨x2, a2, _, _⟩ := DataW.trod_int Tryz.underlying3 g2'
    obtain ⟨x3, a3, _, _⟩ := DataW.trod_int Tryz.underlying3 g3'
    simp at a0 a1 a2 a3
    obtain ⟨a0, a4⟩ := a0
    exact ⟨⟨c, x1, x2, x3⟩, by rw [a0, a1, a2, a3, a4]; rfl, trivial⟩
end
end Go.Proofs.YtmpkglokhchpiaaGreatDoor
namespace Go.Proofs.YtmpkglokhchpiaaGreatDoor
set_option linter.unusedSimpArgs false
set_option linter.unusedVariables false
open Go.RowKit

set_option maxHeartbeats 4000000 in
set_option maxRecDepth 100000 in
theorem rwithin_any (x lo hi : Int) (w : World) : Calls Tryz.prog 67 #[.int .i64 x, .int .i64 lo, .int .i64 hi] w fun e w' => e = .returned (.bool (inB x lo hi)) ∧ w' = w := by
  by_cases h1 : lo ≤ x
  · have t1 : decide (lo ≤ x) = true := by simp; omega
    by_cases h2 : x ≤ hi
    · have t2 : decide (x ≤ hi) = true := by simp; omega
      have t3 : inB x lo hi = true := inB_true.2 ⟨h1, h2⟩
      rw [t3]; clear t3
      go_enter Tryz.func67, Tryz.ntmps67
      go_wp2_with fail
      go_ret
      exact ⟨rfl, rfl⟩
    · have t2 : decide (x ≤ hi) = false := by simp; omega
      have t3 : inB x lo hi = false := inB_false.2 (fun h => h2 h.2)
      rw [t3]; clear t3
      go_enter Tryz.func67, Tryz.ntmps67
      go_wp2_with fail
      go_ret
      exact ⟨rfl, rfl⟩
  · have t1 : decide (lo ≤ x) = false := by simp; omega
    have t3 : inB x lo hi = false := inB_false.2 (fun h => h1 h.1)
    rw [t3]; clear t3
    go_enter Tryz.func67, Tryz.ntmps67
    go_wp2_with fail
    go_ret
    exact ⟨rfl, rfl⟩
set_option maxHeartbeats 4000000 in
set_option maxRecDepth 100000 in
theorem rplace_any (f : FaceV) (a : Option Addr) (c : Nat) (i : Int) (w : World) (hs : 1 ≤ f.sectors ∧ f.sectors ≤ 1000000) (hi : 0 ≤ i ∧ i ≤ 9223372036854775807) :
    Calls Tryz.prog 103 #[.agg (f.cells a c), .int .i64 i] w fun e w' => e = .returned (.agg #[.int .i64 (cellF f i).1, .int .i64 (cellF f i).2]) ∧ Below w.heap.size w w' := by
  have J2 := Lib.hid (show ∀ x y : Value, (Tryz.prog.info? 41).map (·.size) = some (#[x, y] : Array Value).size from fun x y => by kernel_rfl)
  have B0 := Lib.hid (((Below.refl w.heap.size w).alloc (Nat.le_refl _) (.cells (f.cells a c) 28)).alloc (by simp) (.cells #[.int .i64 0, .int .i64 0] 41))
  have X0 := Lib.hid (qblk ((Below.refl _ _).alloc (Nat.le_refl _) (.cells #[.int .i64 0, .int .i64 0] 41)) (qlast w (.cells (f.cells a c) 28)))
  have R0 := Lib.hid (qat (w.alloc (.cells (f.cells a c) 28)) (.cells #[.int .i64 0, .int .i64 0] 41) (w.heap.size + 1) (by simp))
  have NE := Lib.hid (show ¬ f.sectors = 0 by omega)
  have D1 := Lib.hid (show wrap64 (i.tdiv f.sectors) = i / f.sectors by
    rw [Int.tdiv_eq_ediv_of_nonneg hi.1]
    have h1 : 0 ≤ i / f.sectors := Int.ediv_nonneg hi.1 (by omega)
    have h2 : i / f.sectors ≤ i := Int.ediv_le_self _ hi.1
    unfold wrap64
    omega)
  have D2 := Lib.hid (show i.tmod f.sectors = i % f.sectors from Int.tmod_eq_emod_of_nonneg hi.1)
  clear hs hi
  go_enter Tryz.func103, Tryz.ntmps103
  go_upto_region 1 with fail
  obtain ⟨p, hp⟩ : ∃ p, Hid (w.heap.size = p) := ⟨_, Lib.hid rfl⟩
  obtain ⟨q, hq⟩ : ∃ q, Hid (w.heap.size + 1 = q) := ⟨_, Lib.hid rfl⟩
  rw [hq.out] at R0 ⊢
  rw [hp.out] at X0 ⊢
  generalize (w.alloc (.cells (f.cells a c) 28)).alloc (.cells #[.int .i64 0, .int .i64 0] 41) = W0 at *
  have hd : Below W0.heap.size W0 W0.drew := (Below.refl _ _).drew
  have Q0 := Lib.hid (qblk hd R0.out)
  have NQ : Hid (p ≠ q) := Lib.hid (by have := hp.out; have := hq.out; omega)
  have GE : Hid (w.heap.size ≤ q) := Lib.hid (by have := hq.out; omega)
  refine zD (fun W => Below w.heap.size w W ∧ W.heap[p]? = some (.cells (f.cells a c) 28 (0, 0))) ⟨B0.out.drew, qblk hd X0.out⟩ (fun hHeld => ?_)
  have BV := Lib.hid hHeld
  clear hd
  generalize W0.drew = V0 at *
  refine zW 0 rfl (.int .i64 i) ?_
  refine zW 1 rfl (.pointer (some ⟨p, 2, none⟩)) ?_
  refine zS 2 rfl (.int .i64 f.sectors) (fun W hW => by have c := qcell hW.2 2 (.int .i64 f.sectors) rfl; go_simp) ?_
  refine zW 3 rfl (.int .i64 (i / f.sectors)) (hy := .inl ⟨by kernel_rfl, by intro W _; go_simp; rw [if_neg NE.out, (IntWalk.i64_left _).trans D1.out]⟩) ?_
  refine zW 4 rfl (.int .i64 i) ?_
  refine zW 5 rfl (.pointer (some ⟨p, 2, none⟩)) ?_
  refine zS 6 rfl (.int .i64 f.sectors) (fun W hW => by have c := qcell hW.2 2 (.int .i64 f.sectors) rfl; go_simp) ?_
  refine zW 7 rfl (.int .i64 (i % f.sectors)) (hy := .inl ⟨by kernel_rfl, by intro W _; go_simp; rw [if_neg NE.out, D2.out]⟩) ?_
  refine zW 8 rfl (.agg #[.int .i64 (i / f.sectors), .int .i64 (i % f.sectors)]) ?_
  refine zR 9 rfl (fun K hK => ?_)
  rw [if_pos (by kernel_rfl)]
  refine qstore 41 _ _ rfl q #[.int .i64 0, .int .i64 0] #[.int .i64 (i / f.sectors), .int .i64 (i % f.sectors)] 41 rfl rfl Q0.out (J2.out _ _) rfl (by simp [Value.oneCell']) ?_
  intro X h8 hg8 hs8
  have BX := Lib.hid (BV.out.1.grown hg8 BV.out.1.size (fun k e => by cases e; exact GE.out))
  have PX := Lib.hid (qgrown hg8 BV.out.2 (fun e => NQ.out (Option.some.inj e)))
  have RX := Lib.hid h8
  clear h8 hg8 hs8
  refine zK hK ⟨BX.out, PX.out⟩ (fun hHeld => ?_)
  clear hK K
  refine zE ?_
  go_wp2_with fail
  refine bodyPost_ret (results_cell_row rfl _ X q 41 _ (0, 0) _ rfl RX.out Tryz.underlying41 rfl (J2.out _ _)) rfl ?_
  exact ⟨rfl, BX.out⟩
theorem FaceV.kat_at2 {f : FaceV} {k : Nat} (h : k < f.kinds.length) : f.kinds[k]? = some (f.kat k) := by
  unfold FaceV.kat
  rw [List.getElem?_eq_getElem h]
  rfl
set_option maxHeartbeats 4000000 in
set_option maxRecDepth 100000 in
theorem rvalid_any (f : FaceV) (a : Option Addr) (n : Nat) (w : World) (hr : RdI w a f.kinds.length n f.kinds) :
    Calls Tryz.prog 75 #[.agg (f.cells a n)] w fun e w' => e = .returned (.bool f.valid) ∧ Below w.heap.size w w' := by
  have B0 := Lib.hid ((Below.refl w.heap.size w).alloc (Nat.le_refl _) (.cells (f.cells a n) 28))
  have X0 := Lib.hid (qlast w (.cells (f.cells a n) 28))
  have HR := Lib.hid (fun W (hb : Below w.heap.size w W) => hr.below hb)
  have V1 : Hid (inB f.eye 1 16 = false → f.valid = false) := Lib.hid (fun h => by unfold FaceV.valid FaceV.sized; rw [h]; rfl)
  have V2 : Hid (inB f.rings 1 24 = false → f.valid = false) := Lib.hid (fun h => by unfold FaceV.valid FaceV.sized; rw [h]; simp)
  have V3 : Hid (inB f.sectors 2 96 = false → f.valid = false) := Lib.hid (fun h => by unfold FaceV.valid FaceV.sized; rw [h]; simp)
  have V4 : Hid (((f.kinds.length : Int) != f.rings * f.sectors) = true → f.valid = false) := Lib.hid (fun h => by unfold FaceV.valid FaceV.sized; rw [bne_iff_ne] at h; simp [h])
  have V5 : Hid (inB f.eye 1 16 = true → inB f.rings 1 24 = true → inB f.sectors 2 96 = true → ((f.kinds.length : Int) != f.rings * f.sectors) = false → f.valid = f.kinds.all kindB) := Lib.hid (fun h1 h2 h3 h4 => by
    have h4 : (f.kinds.length : Int) = f.rings * f.sectors := by simpa using h4
    unfold FaceV.valid FaceV.sized
    rw [h1, h2, h3, h4]
    simp)
  clear hr
  go_enter Tryz.func75, Tryz.ntmps75
  go_upto_region 1 with fail
  obtain ⟨p, hp⟩ : ∃ p, Hid (w.heap.size = p) := ⟨_, Lib.hid rfl⟩
  rw [hp.out] at X0 ⊢
  generalize w.alloc (.cells (f.cells a n) 28) = W0 at *
  have c0 := qcell X0.out 0 (.int .i64 f.eye) rfl
  have c1 := qcell X0.out 1 (.int .i64 f.rings) rfl
  have c2 := qcell X0.out 2 (.int .i64 f.sectors) rfl
  have c3 := qcell X0.out 3 (.slice a f.kinds.length n) rfl
  go_wp2_with fail
  refine (rwithin_any f.eye 1 16 W0).mono ?_
  rintro e W1 ⟨rfl, rfl⟩
  cases h1 : inB f.eye 1 16
  · have VV := Lib.hid (V1.out h1)
    go_wp2_with fail
    go_ret
    exact ⟨by rw [VV.out]; rfl, B0.out⟩
  go_wp2_with fail
  refine (rwithin_any f.rings 1 24 W1).mono ?_
  rintro e W2 ⟨rfl, rfl⟩
  cases h2 : inB f.rings 1 24
  · have VV := Lib.hid (V2.out h2)
    go_wp2_with fail
    go_ret
    exact ⟨by rw [VV.out]; rfl, B0.out⟩
  go_wp2_with fail
  refine (rwithin_any f.sectors 2 96 W2).mono ?_
  rintro e W3 ⟨rfl, rfl⟩
  cases h3 : inB f.sectors 2 96
  · have VV := Lib.hid (V3.out h3)
    go_wp2_with fail
    go_ret
    exact ⟨by rw [VV.out]; rfl, B0.out⟩
  have ew : wrap64 (f.rings * f.sectors) = f.rings * f.sectors := by
    rw [inB_true] at h2 h3
    have h5 : f.rings * f.sectors ≤ 24 * 96 := Int.mul_le_mul (by omega) (by omega) (by omega) (by omega)
    have h6 := Int.mul_nonneg (show 0 ≤ f.rings by omega) (show 0 ≤ f.sectors by omega)
    unfold wrap64
    omega
  cases h4 : ((f.kinds.length : Int) != f.rings * f.sectors)
  case true =>
    have VV := Lib.hid (V4.out h4)
    go_wp2_with fail
    go_ret
    exact ⟨by rw [VV.out]; rfl, B0.out⟩
  have VV := Lib.hid (V5.out h1 h2 h3 h4)
  clear V1 V2 V3 V4 V5
  have LL : Hid (f.kinds.length ≤ 2304) := Lib.hid (by
    have h8 : (f.kinds.length : Int) = f.rings * f.sectors := by simpa using h4
    rw [inB_true] at h2 h3
    have h5 : f.rings * f.sectors ≤ 24 * 96 := Int.mul_le_mul (by omega) (by omega) (by omega) (by omega)
    omega)
  go_wp2_with fail
  clear ew c0 c1 c2 c3
  go_loopw [3] (fun v wr => ∃ k : Nat, v = .int .i64 (k : Int) ∧ k ≤ f.kinds.length ∧ Hid (∀ j, j < k → kindB (f.kat j) = true) ∧ Hid (Below w.heap.size w wr) ∧ Hid (wr.heap[p]? = some (.cells (f.cells a n) 28 (0, 0)))) (fun v _ => f.kinds.length - (intOf v).toNat)
  case atStart => exact ⟨0, rfl, Nat.zero_le _, Lib.hid (fun j hj => by omega), B0, X0⟩
  case round =>
    clear B0 X0
    obtain ⟨k, rfl, hk, KK, B0, X0⟩ := hrel
    have c3 := qcell X0.out 3 (.slice a f.kinds.length n) rfl
    by_cases hkn : k < f.kinds.length
    · have t0 : decide ((k : Int) < (f.kinds.length : Int)) = true := by simp; omega
      have HK64 : Hid ((k : Int) + 1 ≤ 9223372036854775807) := Lib.hid (by have := LL.out; omega)
      obtain ⟨b, off, rfl, hx⟩ := (HR.out _ B0.out).get (FaceV.kat_at2 hkn)
      obtain ⟨y, hy⟩ : ∃ y, Hid (f.kat k = y) := ⟨_, Lib.hid rfl⟩
      rw [hy.out] at hx
      go_wp2_with fail
      refine (rwithin_any y 0 2 wr).mono ?_
      rintro e W4 ⟨rfl, rfl⟩
      cases he : inB y 0 2
      · have FV : Hid (f.valid = false) := Lib.hid (by
          rw [VV.out]
          have h9 : ¬ (f.kinds.all kindB = true) := by
            rw [List.all_eq_true]
            intro h
            have h8 := h y (by rw [← hy.out]; exact List.mem_of_getElem? (FaceV.kat_at2 hkn))
            unfold kindB at h8
            rw [he] at h8
            cases h8
          simpa using h9)
        go_wp2_with fail
        go_ret
        exact ⟨by rw [FV.out]; rfl, B0.out⟩
      · have hk64 := HK64.out
        go_wp2_with fail
        go_roundw
        case rel => exact ⟨k + 1, by simp, by omega, Lib.hid (fun j hj => by
          rcases Nat.lt_or_ge j k with h | h
          · exact KK.out j h
          · have : j = k := by omega
            subst this
            rw [hy.out]
            exact he), B0, X0⟩
        case measure => simp [intOf]; omega
    · have t0 : decide ((k : Int) < (f.kinds.length : Int)) = false := by simp; omega
      have e : k = f.kinds.length := by omega
      subst e
      have FV : Hid (f.valid = true) := Lib.hid (by
        rw [VV.out, List.all_eq_true]
        intro x hx
        obtain ⟨j, hj, hx2⟩ := List.mem_iff_getElem.1 hx
        have h9 := KK.out j hj
        unfold FaceV.kat at h9
        rw [List.getElem?_eq_getElem hj, hx2] at h9
        exact h9)
      go_wp2_with fail
      go_ret
      exact ⟨by rw [FV.out]; rfl, B0.out⟩
set_option maxHeartbeats 4000000 in
set_option maxRecDepth 100000 in
theorem rweightP_any (f : FaceV) (a : Option Addr) (n : Nat) (ring : Int) (w : World) (hr : RdI w a f.kinds.length n f.kinds) :
    Calls Tryz.prog 27 #[.agg (f.cells a n), .int .i64 ring] w fun e w' => e = .returned (.tuple #[.int .i64 (weightP f ring).1, .int .i64 (weightP f ring).2]) ∧ Below w.heap.size w w' := by
  have AV := Lib.hid (fun W (hb : Below w.heap.size w W) => rvalid_any f a n W (hr.below hb))
  clear hr
  have AL := Lib.hid (al1 w (.cells (f.cells a n) 28))
  go_enter Tryz.func27, Tryz.ntmps27
  go_upto_region 1 with fail
  obtain ⟨p, hp⟩ : ∃ p, Hid (w.heap.size = p) := ⟨_, Lib.hid rfl⟩
  rw [hp.out] at AL ⊢
  generalize (w.alloc (.cells (f.cells a n) 28)) = W0 at *
  have BF : Hid (Below w.heap.size w W0) := Lib.hid (by rw [hp.out]; exact AL.out.1)
  have XF : Hid (W0.heap[p]? = some (.cells (f.cells a n) 28 (0, 0))) := Lib.hid AL.out.2
  clear AL
  have c0 := qcell XF.out 0 (.int .i64 f.eye) rfl
  have c1 := qcell XF.out 1 (.int .i64 f.rings) rfl
  have c2 := qcell XF.out 2 (.int .i64 f.sectors) rfl
  have c3 := qcell XF.out 3 (.slice a f.kinds.length n) rfl
  go_wp2_with (first
    | (refine wpList_load_row rfl 28 _ rfl p rfl 28 (f.cells a n) (0, 0) _ XF.out Tryz.underlying28 rfl (by exact (qJF f a n)) ?_)
    | fail)
  refine (AV.out W0 BF.out).mono ?_
  rintro e V1 ⟨rfl, b⟩
  clear c0 c1 c2 c3
  replace BF := Lib.hid (BF.out.trans (b.mono BF.out.size))
  replace XF := Lib.hid (qblk b XF.out)
  clear b
  have c0 := qcell XF.out 0 (.int .i64 f.eye) rfl
  have c1 := qcell XF.out 1 (.int .i64 f.rings) rfl
  have c2 := qcell XF.out 2 (.int .i64 f.sectors) rfl
  have c3 := qcell XF.out 3 (.slice a f.kinds.length n) rfl
  cases hv : f.valid
  · go_wp2_with (first
      | (refine wpList_load_row rfl 28 _ rfl p rfl 28 (f.cells a n) (0, 0) _ XF.out Tryz.underlying28 rfl (by exact (qJF f a n)) ?_)
      | fail)
    go_ret2
    exact ⟨by unfold weightP; rw [hv]; rfl, BF.out⟩
  · have SB := Lib.hid (show wrap64 (f.rings - 1) = f.rings - 1 by have := FaceV.int hv; unfold wrap64; omega)
    have HV := Lib.hid (FaceV.valid_iff.1 hv)
    go_wp2_with (first
      | (refine wpList_load_row rfl 28 _ rfl p rfl 28 (f.cells a n) (0, 0) _ XF.out Tryz.underlying28 rfl (by exact (qJF f a n)) ?_)
      | fail)
    rw [SB.out]
    refine (rwithin_any ring 0 (f.rings - 1) V1).mono ?_
    rintro e V2 ⟨rfl, rfl⟩
    cases hh : inB ring 0 (f.rings - 1)
    · go_wp2_with (first
        | (refine wpList_load_row rfl 28 _ rfl p rfl 28 (f.cells a n) (0, 0) _ XF.out Tryz.underlying28 rfl (by exact (qJF f a n)) ?_)
        | fail)
      go_ret2
      exact ⟨by unfold weightP; rw [hv, hh]; rfl, BF.out⟩
    · have HH := Lib.hid (inB_true.1 hh)
      have A1 := Lib.hid (show wrap64 (wrap64 (2 * wrap64 (f.eye + ring)) + 1) = weightF f ring by have h1 := HH.out; have h2 := HV.out.1; have h3 := HV.out.2.1; unfold weightF wrap64; omega)
      go_wp2_with (first
        | (refine wpList_load_row rfl 28 _ rfl p rfl 28 (f.cells a n) (0, 0) _ XF.out Tryz.underlying28 rfl (by exact (qJF f a n)) ?_)
        | fail)
      go_ret2
      exact ⟨by unfold weightP; rw [hv, hh]; first | rfl | (rw [A1.out]; rfl), BF.out⟩
end Go.Proofs.YtmpkglokhchpiaaGreatDoor
namespace Go.Proofs.YtmpkglokhchpiaaGreatDoor
set_option linter.unusedSimpArgs false
set_option linter.unusedVariables false
open Go.RowKit

theorem rdc_at2 {W : World} {b off n c k : Nat} {l : List CellV} {x : CellV} (h : RdC W (some ⟨b, off, none⟩) n c l) (hx : l[k]? = some x) : W.cell? ⟨b, off + k * 2, none⟩ = some (.int .i64 x.1) ∧ W.cell? ⟨b, off + k * 2 + 1, none⟩ = some (.int .i64 x.2) := rdc_at h hx
set_option maxHeartbeats 4000000 in
set_option maxRecDepth 100000 in
theorem rcellsP_any (f : FaceV) (a : Option Addr) (n : Nat) (K : Int) (w : World) (hr : RdI w a f.kinds.length n f.kinds) :
    Calls Tryz.prog 76 #[.agg (f.cells a n), .int .i64 K] w fun e w' => ∃ oa oc, e = .returned (.tuple #[.slice oa (cellsP f K).1.length oc, .int .i64 (cellsP f K).2]) ∧ w'.ownsRow w.heap.size 41 2 (.slice oa (cellsP f K).1.length oc) (cellsP f K).1.length (cellsV (cellsP f K).1) ∧ Below w.heap.size w w' := by
  have AV := Lib.hid (fun W (hb : Below w.heap.size w W) => rvalid_any f a n W (hr.below hb))
  have HR := Lib.hid (fun W (hb : Below w.heap.size w W) => hr.below hb)
  clear hr
  have AL := Lib.hid (al1 w (.cells (f.cells a n) 28))
  go_enter Tryz.func76, Tryz.ntmps76
  go_upto_region 1 with fail
  obtain ⟨p, hp⟩ : ∃ p, Hid (w.heap.size = p) := ⟨_, Lib.hid rfl⟩
  rw [hp.out] at AL ⊢
  generalize (w.alloc (.cells (f.cells a n) 28)) = W0 at *
  have BF : Hid (Below w.heap.size w W0) := Lib.hid (by rw [hp.out]; exact AL.out.1)
  have XF : Hid (W0.heap[p]? = some (.cells (f.cells a n) 28 (0, 0))) := Lib.hid AL.out.2
  clear AL
  have c0 := qcell XF.out 0 (.int .i64 f.eye) rfl
  have c1 := qcell XF.out 1 (.int .i64 f.rings) rfl
  have c2 := qcell XF.out 2 (.int .i64 f.sectors) rfl
  have c3 := qcell XF.out 3 (.slice a f.kinds.length n) rfl
  go_wp2_with (first
    | (refine wpList_load_row rfl 28 _ rfl p rfl 28 (f.cells a n) (0, 0) _ XF.out Tryz.underlying28 rfl (by exact (qJF f a n)) ?_)
    | fail)
  refine (AV.out W0 BF.out).mono ?_
  rintro e V1 ⟨rfl, b⟩
  clear c0 c1 c2 c3
  replace BF := Lib.hid (BF.out.trans (b.mono BF.out.size))
  replace XF := Lib.hid (qblk b XF.out)
  clear b
  have c0 := qcell XF.out 0 (.int .i64 f.eye) rfl
  have c1 := qcell XF.out 1 (.int .i64 f.rings) rfl
  have c2 := qcell XF.out 2 (.int .i64 f.sectors) rfl
  have c3 := qcell XF.out 3 (.slice a f.kinds.length n) rfl
  cases hv : f.valid
  · go_wp2_with (first
      | (refine wpList_load_row rfl 28 _ rfl p rfl 28 (f.cells a n) (0, 0) _ XF.out Tryz.underlying28 rfl (by exact (qJF f a n)) ?_)
      | fail)
    go_ret2
    unfold cellsP
    rw [if_pos hv]
    exact ⟨none, 0, rfl, World.ownsRow_nil _ _ _ _, BF.out⟩
  · have IV := Lib.hid (FaceV.int hv)
    have LL := Lib.hid (FaceV.len_le hv)
    go_wp2_with (first
      | (refine wpList_load_row rfl 28 _ rfl p rfl 28 (f.cells a n) (0, 0) _ XF.out Tryz.underlying28 rfl (by exact (qJF f a n)) ?_)
      | fail)
    refine (rwithin_any K 0 2 V1).mono ?_
    rintro e V2 ⟨rfl, rfl⟩
    rw [show inB K 0 2 = kindB K from rfl]
    cases hb : kindB K
    · go_wp2_with (first
        | (refine wpList_load_row rfl 28 _ rfl p rfl 28 (f.cells a n) (0, 0) _ XF.out Tryz.underlying28 rfl (by exact (qJF f a n)) ?_)
        | fail)
      go_ret2
      unfold cellsP
      rw [if_neg (by rw [hv]; decide), if_pos hb]
      exact ⟨none, 0, rfl, World.ownsRow_nil _ _ _ _, BF.out⟩
    · have HB := Lib.hid hb
      have HV := Lib.hid hv
      clear hb hv
      go_wp2_with (first
        | (refine wpList_load_row rfl 28 _ rfl p rfl 28 (f.cells a n) (0, 0) _ XF.out Tryz.underlying28 rfl (by exact (qJF f a n)) ?_)
        | fail)
      clear c0 c1 c2 c3
      go_loopw [6, 7] (fun o i wr => ∃ (k : Nat) (oa : Option Addr) (oc : Nat), i = .int .i64 k ∧ o = .slice oa (cellsF f K k).length oc ∧ k ≤ f.kinds.length ∧ Hid (wr.ownsRow w.heap.size 41 2 (.slice oa (cellsF f K k).length oc) (cellsF f K k).length (cellsV (cellsF f K k))) ∧ Hid (Below w.heap.size w wr) ∧ Hid (wr.heap[p]? = some (.cells (f.cells a n) 28 (0, 0)))) (fun _ i _ => f.kinds.length - (intOf i).toNat)
      case atStart => exact ⟨0, none, 0, rfl, rfl, Nat.zero_le _, Lib.hid (World.ownsRow_nil _ _ _ _), BF, XF⟩
      case round =>
        clear BF XF
        obtain ⟨k, oa, oc, rfl, rfl, hk, OW, BF, XF⟩ := hrel
        by_cases hkn : k < f.kinds.length
        · have t0 : decide ((k : Int) < (f.kinds.length : Int)) = true := by simp; omega
          obtain ⟨b, off, rfl, hx⟩ := (HR.out _ BF.out).get (FaceV.kat_at hkn)
          have hk64 : (k : Int) + 1 ≤ 9223372036854775807 := by have := LL.out; omega
          have HL := Lib.hid (cellsF_len f K k)
          obtain ⟨y, hy⟩ : ∃ y, Hid (f.kat k = y) := ⟨_, Lib.hid rfl⟩
          rw [hy.out] at hx
          have c0 := qcell XF.out 0 (.int .i64 f.eye) rfl
          have c1 := qcell XF.out 1 (.int .i64 f.rings) rfl
          have c2 := qcell XF.out 2 (.int .i64 f.sectors) rfl
          have c3 := qcell XF.out 3 (.slice (some ⟨b, off, none⟩) f.kinds.length n) rfl
          cases he : decide (y = K)
          · have he2 : (y == K) = false := by simpa using he
            go_wp2_with (first
              | (refine wpList_load_row rfl 28 _ rfl p rfl 28 (f.cells (some ⟨b, off, none⟩) n) (0, 0) _ XF.out Tryz.underlying28 rfl (by exact (qJF f (some ⟨b, off, none⟩) n)) ?_)
              | fail)
            go_roundw
            case rel =>
              have e : cellsF f K (k + 1) = cellsF f K k := by rw [cellsF_succ, hy.out, if_neg (by simpa using he), List.append_nil]
              refine ⟨k + 1, oa, oc, by simp, by rw [e], by omega, ?_, BF, XF⟩
              rw [e]
              exact OW
            case measure => simp [intOf]; omega
          · have he2 : (y == K) = true := by simpa using he
            have HLL : Hid ((cellsF f K k).length + 1 ≤ 2305) := Lib.hid (by have := HL.out; have := LL.out; omega)
            go_wp2_with (first
              | (refine wpList_load_row rfl 28 _ rfl p rfl 28 (f.cells (some ⟨b, off, none⟩) n) (0, 0) _ XF.out Tryz.underlying28 rfl (by exact (qJF f (some ⟨b, off, none⟩) n)) ?_)
              | fail)
            refine (rplace_any f (some ⟨b, off, none⟩) n k wr (by have := IV.out; omega) (by have := LL.out; omega)).mono ?_
            rintro e V3 ⟨rfl, b2⟩
            replace OW := Lib.hid (own_below OW.out b2)
            clear hx
            have HK64 := Lib.hid hk64
            clear hk64
            clear c0 c1 c2 c3
            replace BF := Lib.hid (BF.out.trans (b2.mono BF.out.size))
            replace XF := Lib.hid (qblk b2 XF.out)
            clear b2
            have c0 := qcell XF.out 0 (.int .i64 f.eye) rfl
            have c1 := qcell XF.out 1 (.int .i64 f.rings) rfl
            have c2 := qcell XF.out 2 (.int .i64 f.sectors) rfl
            have c3 := qcell XF.out 3 (.slice (some ⟨b, off, none⟩) f.kinds.length n) rfl
            go_upto_region 8 with (first
              | (refine wpList_load_row rfl 28 _ rfl p rfl 28 (f.cells (some ⟨b, off, none⟩) n) (0, 0) _ XF.out Tryz.underlying28 rfl (by exact (qJF f (some ⟨b, off, none⟩) n)) ?_)
              | (at_builtin; refine appq_cells _ rfl _ _ rfl w.heap.size _ _ _ (cellsF f K k) rfl (own_below OW.out (zB V3 _)) _ _ _ [cellF f k] rfl (lit_cell V3 (cellF f k)) (by have := HLL.out; omega) (Nat.le_trans BF.out.size (zB V3 _).size) ?_; intro oa2 oc2 V4 h1 h2 h3; clear c0 c1 c2 c3; replace BF := Lib.hid (h3 _ (BF.out.trans ((zB V3 _).mono BF.out.size))); replace XF := Lib.hid (h2 _ _ (qblk (zB V3 _) XF.out) (by simp)); replace OW := Lib.hid h1; clear h1 h2 h3; have c0 := qcell XF.out 0 (.int .i64 f.eye) rfl; have c1 := qcell XF.out 1 (.int .i64 f.rings) rfl; have c2 := qcell XF.out 2 (.int .i64 f.sectors) rfl; have c3 := qcell XF.out 3 (.slice (some ⟨b, off, none⟩) f.kinds.length n) rfl)
              | fail)
            have hk64 := HK64.out
            go_wp2_with (first
              | (refine wpList_load_row rfl 28 _ rfl p rfl 28 (f.cells (some ⟨b, off, none⟩) n) (0, 0) _ XF.out Tryz.underlying28 rfl (by exact (qJF f (some ⟨b, off, none⟩) n)) ?_)
              | fail)
            go_roundw
            case rel =>
              have e : cellsF f K (k + 1) = cellsF f K k ++ [cellF f k] := by rw [cellsF_succ, hy.out, if_pos (by simpa using he)]
              refine ⟨k + 1, oa2, oc2, by simp, by rw [e, List.length_append]; rfl, by omega, ?_, BF, XF⟩
              rw [e, List.length_append]
              exact OW
            case measure => simp [intOf]; omega
        · have t0 : decide ((k : Int) < (f.kinds.length : Int)) = false := by simp; omega
          have e : k = f.kinds.length := by omega
          subst e
          have c0 := qcell XF.out 0 (.int .i64 f.eye) rfl
          have c1 := qcell XF.out 1 (.int .i64 f.rings) rfl
          have c2 := qcell XF.out 2 (.int .i64 f.sectors) rfl
          have c3 := qcell XF.out 3 (.slice a f.kinds.length n) rfl
          go_wp2_with (first
            | (refine wpList_load_row rfl 28 _ rfl p rfl 28 (f.cells a n) (0, 0) _ XF.out Tryz.underlying28 rfl (by exact (qJF f a n)) ?_)
            | fail)
          go_ret2
          unfold cellsP
          rw [if_neg (by rw [HV.out]; decide), if_neg (by rw [HB.out]; decide)]
          exact ⟨oa, oc, rfl, OW.out, BF.out⟩
set_option maxHeartbeats 4000000 in
set_option maxRecDepth 100000 in
theorem rareaP_any (f : FaceV) (a : Option Addr) (n : Nat) (K : Int) (w : World) (hr : RdI w a f.kinds.length n f.kinds) :
    Calls Tryz.prog 28 #[.agg (f.cells a n), .int .i64 K] w fun e w' => e = .returned (.tuple #[.int .i64 (areaP f K).1, .int .i64 (areaP f K).2]) ∧ Below w.heap.size w w' := by
  have CA := Lib.hid (fun W (hb : Below w.heap.size w W) => rcellsP_any f a n K W (hr.below hb))
  have LL : Hid ((cellsP f K).1.length ≤ 2304) := Lib.hid (by
    unfold cellsP
    by_cases hv : f.valid = true
    · rw [if_neg (by rw [hv]; decide)]
      split
      · simp
      · exact Nat.le_trans (cellsF_len _ _ _) (FaceV.len_le hv)
    · rw [if_pos (by simpa using hv)]
      simp)
  have WG : Hid (∀ c ∈ (cellsP f K).1, (1 ≤ f.eye ∧ f.eye ≤ 16) ∧ 0 ≤ c.1 ∧ c.1 ≤ 24) := Lib.hid (fun c hc => by
    unfold cellsP at hc
    by_cases hv : f.valid = true
    · rw [if_neg (by rw [hv]; decide)] at hc
      split at hc
      · cases hc
      · obtain ⟨i, hi, _, rfl⟩ := cellsF_mem.1 hc
        obtain ⟨k1, _⟩ := cellF_has hv (i := (i : Int)) ⟨by omega, by omega⟩
        have h1 := (hasF_iff.1 k1).1
        have h2 := FaceV.int hv
        exact ⟨(FaceV.valid_iff.1 hv).1, h1.1, by omega⟩
    · rw [if_pos (by simpa using hv)] at hc
      cases hc)
  clear hr
  have AL := Lib.hid (al1 w (.cells (f.cells a n) 28))
  go_enter Tryz.func28, Tryz.ntmps28
  go_upto_region 1 with fail
  obtain ⟨p, hp⟩ : ∃ p, Hid (w.heap.size = p) := ⟨_, Lib.hid rfl⟩
  rw [hp.out] at AL ⊢
  generalize (w.alloc (.cells (f.cells a n) 28)) = W0 at *
  have BF : Hid (Below w.heap.size w W0) := Lib.hid (by rw [hp.out]; exact AL.out.1)
  have XF : Hid (W0.heap[p]? = some (.cells (f.cells a n) 28 (0, 0))) := Lib.hid AL.out.2
  clear AL
  have c0 := qcell XF.out 0 (.int .i64 f.eye) rfl
  have c1 := qcell XF.out 1 (.int .i64 f.rings) rfl
  have c2 := qcell XF.out 2 (.int .i64 f.sectors) rfl
  have c3 := qcell XF.out 3 (.slice a f.kinds.length n) rfl
  go_wp2_with (first
    | (refine wpList_load_row rfl 28 _ rfl p rfl 28 (f.cells a n) (0, 0) _ XF.out Tryz.underlying28 rfl (by exact (qJF f a n)) ?_)
    | fail)
  refine (CA.out W0 BF.out).mono ?_
  rintro e V1 ⟨oa, oc, rfl, own, b⟩
  have R0 := Lib.hid (RdA.of_own own)
  clear own
  clear c0 c1 c2 c3
  replace BF := Lib.hid (BF.out.trans (b.mono BF.out.size))
  replace XF := Lib.hid (qblk b XF.out)
  clear b
  have c0 := qcell XF.out 0 (.int .i64 f.eye) rfl
  have c1 := qcell XF.out 1 (.int .i64 f.rings) rfl
  have c2 := qcell XF.out 2 (.int .i64 f.sectors) rfl
  have c3 := qcell XF.out 3 (.slice a f.kinds.length n) rfl
  have B1 := Lib.hid BF.out
  obtain ⟨l, hl⟩ : ∃ l, Hid ((cellsP f K).1 = l) := ⟨_, Lib.hid rfl⟩
  obtain ⟨er, her⟩ : ∃ er, Hid ((cellsP f K).2 = er) := ⟨_, Lib.hid rfl⟩
  rw [hl.out] at LL WG R0 ⊢
  rw [her.out]
  have RR := Lib.hid (fun W (hb : Below V1.heap.size V1 W) => R0.out.below hb)
  clear R0
  have EZ : Hid ((er != 0) = true → l = []) := Lib.hid (fun h => by
    rw [← her.out] at h
    rw [← hl.out]
    unfold cellsP at h ⊢
    by_cases hv : f.valid = false
    · rw [if_pos hv]
    · rw [if_neg hv] at h ⊢
      by_cases hk : kindB K = false
      · rw [if_pos hk]
      · rw [if_neg hk] at h; simp at h)
  have EO : Hid ((er != 0) = false → er = 0) := Lib.hid (fun h => by simpa using h)
  cases he0 : (er != 0)
  case true =>
    have LE := Lib.hid (EZ.out he0)
    go_wp2_with fail
    go_ret2
    exact ⟨by unfold areaP; rw [hl.out, her.out, LE.out]; rfl, BF.out⟩
  have E0 := Lib.hid (EO.out he0)
  go_wp2_with (first
    | (refine wpList_load_row rfl 28 _ rfl p rfl 28 (f.cells a n) (0, 0) _ XF.out Tryz.underlying28 rfl (by exact (qJF f a n)) ?_)
    | fail)
  clear c0 c1 c2 c3
  go_loopw [8, 9] (fun s i wr => ∃ k : Nat, i = .int .i64 k ∧ s = .int .i64 (((l.take k).map fun c => weightF f c.1).sum) ∧ k ≤ l.length ∧ Hid (0 ≤ ((l.take k).map fun c => weightF f c.1).sum ∧ ((l.take k).map fun c => weightF f c.1).sum ≤ 100 * (k : Int)) ∧ Hid (Below V1.heap.size V1 wr) ∧ Hid (Below w.heap.size w wr) ∧ Hid (wr.heap[p]? = some (.cells (f.cells a n) 28 (0, 0)))) (fun _ i _ => l.length - (intOf i).toNat)
  case atStart => exact ⟨0, rfl, by simp, Nat.zero_le _, Lib.hid (by simp), Lib.hid (Below.refl _ _), BF, XF⟩
  case round =>
    clear BF XF
    obtain ⟨k, rfl, rfl, hk, SM, BV, BF, XF⟩ := hrel
    have c0 := qcell XF.out 0 (.int .i64 f.eye) rfl
    have c1 := qcell XF.out 1 (.int .i64 f.rings) rfl
    have c2 := qcell XF.out 2 (.int .i64 f.sectors) rfl
    have c3 := qcell XF.out 3 (.slice a f.kinds.length n) rfl
    by_cases hkn : k < l.length
    · have t0 : decide ((k : Int) < (l.length : Int)) = true := by simp; omega
      obtain ⟨c, hc⟩ : ∃ c, l[k]? = some c := ⟨l[k], List.getElem?_eq_getElem hkn⟩
      have WC := Lib.hid (WG.out c (List.mem_of_getElem? hc))
      have hk64 : (k : Int) + 1 ≤ 9223372036854775807 := by have := LL.out; omega
      have e1 : l.take (k + 1) = l.take k ++ [c] := by rw [List.take_add_one, hc]; rfl
      have E1 : Hid (((l.take (k + 1)).map fun c => weightF f c.1).sum = ((l.take k).map fun c => weightF f c.1).sum + weightF f c.1) := Lib.hid (by rw [e1, List.map_append, List.sum_append]; simp)
      have WF : Hid (0 ≤ weightF f c.1 ∧ weightF f c.1 ≤ 100) := Lib.hid (by have := WC.out; unfold weightF; omega)
      have KL : Hid (k ≤ 2304) := Lib.hid (by have := LL.out; omega)
      have W1 : Hid (wrap64 (((l.take k).map fun c => weightF f c.1).sum + weightF f c.1) = ((l.take (k + 1)).map fun c => weightF f c.1).sum) := Lib.hid (by have := SM.out; have := WF.out; have := KL.out; rw [E1.out]; unfold wrap64; omega)
      have HC := Lib.hid hc
      have RQ := Lib.hid (RR.out _ BV.out)
      obtain ⟨b0, off, rfl, h4⟩ := RdA.at (RR.out _ BV.out) (by omega)
      clear h4 e1 hc
      have HK64 := Lib.hid hk64
      clear hk64
      have zl := hkn
      obtain ⟨S, hS⟩ : ∃ S, Hid (((l.take k).map fun c => weightF f c.1).sum = S) := ⟨_, Lib.hid rfl⟩
      obtain ⟨S2, hS2⟩ : ∃ S, Hid (((l.take (k + 1)).map fun c => weightF f c.1).sum = S) := ⟨_, Lib.hid rfl⟩
      rw [hS.out, hS2.out] at W1
      rw [hS.out]
      have A1 := Lib.hid (show wrap64 (f.eye + c.1) = f.eye + c.1 by have := WC.out; unfold wrap64; omega)
      have A2 := Lib.hid (show wrap64 (2 * (f.eye + c.1)) = 2 * (f.eye + c.1) by have := WC.out; unfold wrap64; omega)
      have A3 := Lib.hid (show wrap64 (2 * (f.eye + c.1) + 1) = weightF f c.1 by have := WC.out; unfold weightF wrap64; omega)
      clear c0 c1 c2 c3
      obtain ⟨m, hm⟩ : ∃ m, Hid (off + k * 2 = m) := ⟨_, Lib.hid rfl⟩
      have hi := fun W => qidx (W := W) (c := oc) (b := b0) Tryz.underlying45 qsizeC hkn hm.out
      go_upto_region 8 with fail
      clear t0
      replace BV := BV
      have hd : Below wr.heap.size wr wr.drew := (Below.refl _ _).drew
      replace BV := Lib.hid (BV.out.trans (hd.mono BV.out.size))
      replace BF := Lib.hid (BF.out.trans (hd.mono BF.out.size))
      replace RQ := Lib.hid (RQ.out.below hd)
      replace XF := Lib.hid (qblk hd XF.out)
      clear hd
      refine zD (fun W => Below wr.drew.heap.size wr.drew W) (Below.refl _ _) (fun hHeld => ?_)
      have BQ := Lib.hid hHeld
      generalize wr.drew = V3 at *
      have GC := Lib.hid (show ∀ W, Below V3.heap.size V3 W → W.cell? ⟨b0, m, none⟩ = some (.int .i64 c.1) from fun W hb => by rw [← hm.out]; exact (rdc_at2 (RQ.out.below hb) HC.out).1)
      refine zW 0 rfl (.int .i64 S) ?_
      refine zW 1 rfl (.pointer (some ⟨p, 0, none⟩)) ?_
      refine zS 2 rfl (.int .i64 f.eye) (fun W hW => by have c := qcell (qblk hW XF.out) 0 (.int .i64 f.eye) rfl; go_simp) ?_
      refine zW 3 rfl (.slice (some ⟨b0, off, none⟩) l.length oc) ?_
      refine zW 4 rfl (.int .i64 (k : Int)) ?_
      refine zW 5 rfl (.pointer (some ⟨b0, m, none⟩)) ?_
      refine zW 6 rfl (.pointer (some ⟨b0, m, none⟩)) ?_
      refine zS 7 rfl (.int .i64 c.1) (fun W hW => by have c := (GC.out W hW); go_simp) ?_
      refine zW 8 rfl (.int .i64 (f.eye + c.1)) (hy := .inl ⟨by kernel_rfl, by intro W hW; go_simp; exact (IntWalk.i64_left _).trans A1.out⟩) ?_
      refine zW 9 rfl (.int .i64 (2 * (f.eye + c.1))) (hy := .inl ⟨by kernel_rfl, by intro W hW; go_simp; exact (IntWalk.i64_left _).trans A2.out⟩) ?_
      refine zW 10 rfl (.int .i64 (weightF f c.1)) (hy := .inl ⟨by kernel_rfl, by intro W hW; go_simp; exact (IntWalk.i64_left _).trans A3.out⟩) ?_
      refine zW 11 rfl (.int .i64 S2) (hy := .inl ⟨by kernel_rfl, by intro W hW; go_simp; exact (IntWalk.i64_left _).trans W1.out⟩) ?_
      refine zW 12 rfl (.int .i64 S2) ?_
      refine zE ?_
      have bz := BQ.out
      replace BV := Lib.hid (BV.out.trans (bz.mono BV.out.size))
      replace BF := Lib.hid (BF.out.trans (bz.mono BF.out.size))
      replace RQ := Lib.hid (RQ.out.below bz)
      replace XF := Lib.hid (qblk bz XF.out)
      clear bz
      clear BQ
      have hk64 := HK64.out
      go_upto_region 7 with fail
      go_wp2_with fail
      go_roundw
      case rel => exact ⟨k + 1, by simp, by rw [hS2.out], by omega, Lib.hid (by have := SM.out; have := WF.out; rw [E1.out]; omega), BV, BF, XF⟩
      case measure => simp [intOf]; omega
    · have t0 : decide ((k : Int) < (l.length : Int)) = false := by simp; omega
      have e : k = l.length := by omega
      subst e
      go_wp2_with (first
        | (refine wpList_load_row rfl 28 _ rfl p rfl 28 (f.cells a n) (0, 0) _ XF.out Tryz.underlying28 rfl (by exact (qJF f a n)) ?_)
        | fail)
      go_ret2
      unfold areaP
      rw [hl.out, her.out]
      exact ⟨by rw [E0.out]; (try rw [List.take_length]); rfl, BF.out⟩
end Go.Proofs.YtmpkglokhchpiaaGreatDoor
namespace Go.Proofs.YtmpkglokhchpiaaGreatDoor
set_option linter.unusedSimpArgs false
set_option linter.unusedVariables false
open Go.RowKit

set_option maxHeartbeats 4000000 in
set_option maxRecDepth 100000 in
theorem areas_any (f : FaceV) (a : Option Addr) (n : Nat) (x : LookV) (w : World) (he : EnvW w) (hr : RdI w a f.kinds.length n f.kinds) :
    Calls Tryz.prog 5 #[.agg (f.cells a n), .agg (lookA x)] w fun e w' => e = .returned (.bool true) ∧ Below w.heap.size w w' := by
  have EV := Lib.hid (fun W (hb : Below w.heap.size w W) => he.below hb)
  have HR := Lib.hid hr
  clear he hr
  have AL := Lib.hid (al2 w (.cells (f.cells a n) 28) (.cells (lookA x) 43))
  go_enter Tryz.func5, Tryz.ntmps5
  go_upto_region 1 with fail
  obtain ⟨p, hp⟩ : ∃ p, Hid (w.heap.size = p) := ⟨_, Lib.hid rfl⟩
  obtain ⟨q, hq⟩ : ∃ q, Hid (w.heap.size + 1 = q) := ⟨_, Lib.hid rfl⟩
  rw [hq.out] at AL ⊢
  rw [hp.out] at AL ⊢
  generalize ((w.alloc (.cells (f.cells a n) 28)).alloc (.cells (lookA x) 43)) = W0 at *
  have BF : Hid (Below w.heap.size w W0) := Lib.hid (by rw [hp.out]; exact AL.out.1)
  have XF : Hid (W0.heap[p]? = some (.cells (f.cells a n) 28 (0, 0))) := Lib.hid AL.out.2.1
  have XL : Hid (W0.heap[q]? = some (.cells (lookA x) 43 (0, 0))) := Lib.hid AL.out.2.2
  clear AL
  have c0 := qcell XF.out 0 (.int .i64 f.eye) rfl
  have c1 := qcell XF.out 1 (.int .i64 f.rings) rfl
  have c2 := qcell XF.out 2 (.int .i64 f.sectors) rfl
  have c3 := qcell XF.out 3 (.slice a f.kinds.length n) rfl
  clear c0 c1 c2 c3
  replace HR := Lib.hid (HR.out.below BF.out)
  go_upto_region 1 with fail
  refine yB ?_
  refine yR (fun K hK => ?_)
  go_simp
  refine (awake_any _ (EV.out _ BF.out)).mono ?_
  rintro e U1 ⟨rfl, b⟩
  replace BF := Lib.hid (BF.out.trans (b.mono BF.out.size))
  replace HR := Lib.hid (HR.out.below b)
  replace XF := Lib.hid (qblk b XF.out)
  replace XL := Lib.hid (qblk b XL.out)
  clear b
  try dsimp only
  refine yK hK ?_
  clear hK K
  refine yM (.bool true) ?_
  refine yE ?_
  go_upto_region 2 with fail
  refine yB ?_
  refine yW (.agg (f.cells a n)) ?_ (qyrow (by kernel_rfl) 28 _ rfl p rfl _ 28 (0, 0) _ (fun W hW => by rw [hW]; exact XF.out) Tryz.underlying28 rfl (by exact (qJF f a n)))
  refine yR (fun K hK => ?_)
  go_simp
  refine (short_any f a n _).mono ?_
  rintro e wr ⟨rfl, b⟩
  replace BF := Lib.hid (BF.out.trans (b.mono BF.out.size))
  replace HR := Lib.hid (HR.out.below b)
  replace XF := Lib.hid (qblk b XF.out)
  replace XL := Lib.hid (qblk b XL.out)
  clear b
  cases h1 : decide (f.kinds.length ≤ 3000)
  · try dsimp only
    refine yK hK ?_
    clear hK K
    refine yM (.bool true) ?_
    refine yE ?_
    go_wp2_with fail
    go_ret
    exact ⟨rfl, BF.out⟩
  · try dsimp only
    refine yK hK ?_
    clear hK K
    refine yM (.bool false) ?_
    refine yE ?_
    obtain ⟨A, hA⟩ : ∃ z, Hid ((weightP f x.n).1 = z) := ⟨_, Lib.hid rfl⟩
    obtain ⟨E, hE⟩ : ∃ z, Hid ((weightP f x.n).2 = z) := ⟨_, Lib.hid rfl⟩
    obtain ⟨C, hC⟩ : ∃ z, Hid ((areaP f x.kind).1 = z) := ⟨_, Lib.hid rfl⟩
    obtain ⟨G, hG⟩ : ∃ z, Hid ((areaP f x.kind).2 = z) := ⟨_, Lib.hid rfl⟩
    go_upto_region 4 with fail
    refine yB ?_
    refine yW (.agg (f.cells a n)) ?_ (qyrow (by kernel_rfl) 28 _ rfl p rfl _ 28 (0, 0) _ (fun W hW => by rw [hW]; exact XF.out) Tryz.underlying28 rfl (by exact (qJF f a n)))
    refine yW (.pointer (some ⟨q, 4, none⟩)) ?_
    refine yW (.int .i64 x.n) ?_ (.inl ⟨by kernel_rfl, by intro W hW; rw [hW]; have c := qcell XL.out 4 (.int .i64 x.n) rfl; go_simp⟩)
    refine yR (fun K hK => ?_)
    go_simp
    refine (weightP_any f a n x.n _ HR.out).mono ?_
    rintro e U3 ⟨rfl, b⟩
    replace BF := Lib.hid (BF.out.trans (b.mono BF.out.size))
    replace HR := Lib.hid (HR.out.below b)
    replace XF := Lib.hid (qblk b XF.out)
    replace XL := Lib.hid (qblk b XL.out)
    clear b
    rw [hA.out, hE.out]
    try dsimp only
    refine yK hK ?_
    clear hK K
    refine yM (.tuple #[.int .i64 A, .int .i64 E]) ?_
    refine yM (.int .i64 A) ?_
    refine yM (.int .i64 E) ?_
    refine yM (.int .i64 A) ?_
    refine yM (.int .i64 E) ?_
    refine yE ?_
    go_upto_region 5 with fail
    refine yB ?_
    refine yW (.agg (f.cells a n)) ?_ (qyrow (by kernel_rfl) 28 _ rfl p rfl _ 28 (0, 0) _ (fun W hW => by rw [hW]; exact XF.out) Tryz.underlying28 rfl (by exact (qJF f a n)))
    refine yW (.pointer (some ⟨q, 4, none⟩)) ?_
    refine yW (.int .i64 x.n) ?_ (.inl ⟨by kernel_rfl, by intro W hW; rw [hW]; have c := qcell XL.out 4 (.int .i64 x.n) rfl; go_simp⟩)
    refine yR (fun K hK => ?_)
    go_simp
    refine (rweightP_any f a n x.n _ HR.out).mono ?_
    rintro e U4 ⟨rfl, b⟩
    replace BF := Lib.hid (BF.out.trans (b.mono BF.out.size))
    replace HR := Lib.hid (HR.out.below b)
    replace XF := Lib.hid (qblk b XF.out)
    replace XL := Lib.hid (qblk b XL.out)
    clear b
    rw [hA.out, hE.out]
    try dsimp only
    refine yK hK ?_
    clear hK K
    refine yM (.tuple #[.int .i64 A, .int .i64 E]) ?_
    refine yM (.int .i64 A) ?_
    refine yM (.int .i64 E) ?_
    refine yM (.int .i64 A) ?_
    refine yM (.int .i64 E) ?_
    refine yE ?_
    go_upto_region 6 with fail
    refine yB ?_
    refine yW (.agg (f.cells a n)) ?_ (qyrow (by kernel_rfl) 28 _ rfl p rfl _ 28 (0, 0) _ (fun W hW => by rw [hW]; exact XF.out) Tryz.underlying28 rfl (by exact (qJF f a n)))
    refine yW (.pointer (some ⟨q, 3, none⟩)) ?_
    refine yW (.int .i64 x.kind) ?_ (.inl ⟨by kernel_rfl, by intro W hW; rw [hW]; have c := qcell XL.out 3 (.int .i64 x.kind) rfl; go_simp⟩)
    refine yR (fun K hK => ?_)
    go_simp
    refine (areaP_any f a n x.kind _ HR.out).mono ?_
    rintro e U5 ⟨rfl, b⟩
    replace BF := Lib.hid (BF.out.trans (b.mono BF.out.size))
    replace HR := Lib.hid (HR.out.below b)
    replace XF := Lib.hid (qblk b XF.out)
    replace XL := Lib.hid (qblk b XL.out)
    clear b
    rw [hC.out, hG.out]
    try dsimp only
    refine yK hK ?_
    clear hK K
    refine yM (.tuple #[.int .i64 C, .int .i64 G]) ?_
    refine yM (.int .i64 C) ?_
    refine yM (.int .i64 G) ?_
    refine yM (.int .i64 C) ?_
    refine yM (.int .i64 G) ?_
    refine yE ?_
    go_upto_region 7 with fail
    refine yB ?_
    refine yW (.agg (f.cells a n)) ?_ (qyrow (by kernel_rfl) 28 _ rfl p rfl _ 28 (0, 0) _ (fun W hW => by rw [hW]; exact XF.out) Tryz.underlying28 rfl (by exact (qJF f a n)))
    refine yW (.pointer (some ⟨q, 3, none⟩)) ?_
    refine yW (.int .i64 x.kind) ?_ (.inl ⟨by kernel_rfl, by intro W hW; rw [hW]; have c := qcell XL.out 3 (.int .i64 x.kind) rfl; go_simp⟩)
    refine yR (fun K hK => ?_)
    go_simp
    refine (rareaP_any f a n x.kind _ HR.out).mono ?_
    rintro e U6 ⟨rfl, b⟩
    replace BF := Lib.hid (BF.out.trans (b.mono BF.out.size))
    replace HR := Lib.hid (HR.out.below b)
    replace XF := Lib.hid (qblk b XF.out)
    replace XL := Lib.hid (qblk b XL.out)
    clear b
    rw [hC.out, hG.out]
    try dsimp only
    refine yK hK ?_
    clear hK K
    refine yM (.tuple #[.int .i64 C, .int .i64 G]) ?_
    refine yM (.int .i64 C) ?_
    refine yM (.int .i64 G) ?_
    refine yM (.int .i64 C) ?_
    refine yM (.int .i64 G) ?_
    refine yE ?_
    go_upto_region 8 with fail
    refine yB ?_
    refine yM (.bool true) ?_
    refine yM (.bool true) ?_
    refine yM (.int .i64 A) ?_
    refine yM (.int .i64 A) ?_
    refine yW (.bool true) ?_
    refine yM (.bool true) ?_
    refine yM (.bool true) ?_
    refine yM (.int .i64 E) ?_
    refine yM (.int .i64 E) ?_
    refine yW (.bool true) ?_
    refine yM (.bool true) ?_
    refine yM (.bool true) ?_
    refine yM (.int .i64 C) ?_
    refine yM (.int .i64 C) ?_
    refine yW (.bool true) ?_
    refine yM (.bool true) ?_
    refine yM (.bool true) ?_
    refine yM (.int .i64 G) ?_
    refine yM (.int .i64 G) ?_
    refine yW (.bool true) ?_
    refine yM (.bool true) ?_
    refine yM (.bool true) ?_
    refine yE ?_
    go_wp2_with fail
    go_ret
    exact ⟨rfl, BF.out⟩
end Go.Proofs.YtmpkglokhchpiaaGreatDoor
