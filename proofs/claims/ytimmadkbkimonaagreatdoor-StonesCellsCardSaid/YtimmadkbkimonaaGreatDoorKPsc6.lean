/- Parts of the proof, in this order: At, Index, CellOf, copied, Set of the reference; among; StonesBeside is true; SameCells of the reference on equal lists; Cells, Area of the reference; A look as a value; StonesCells is true; What every row of this work shares: a law of the template 'true whatever the input' holds where its call gives true and leaves all old memory; []byte arguments opened; A note, a list of ints, out of a reading; A face out of a reading; what the library's variables hold; A cell, a look, a pattern out of a reading; A look out of a reading. -/
import Derived.Test.YtimmadkbkimonaaGreatDoorRows
import Derived.ProofKit
import Derived.OpenShut
import Derived.Lib.SmallJoins
import Derived.Stop.LaidErr
import Derived.MakeChecks
import Derived.Shelf.Vars
import Derived.Test.YtimmadkbkimonaaGreatDoorKPsc5
set_option linter.unusedSimpArgs false
set_option linter.unusedVariables false
open List renaming getElem_toArray → lq0, getElem_cons_succ → lq1, getElem_cons_zero → lq2, setIfInBounds_toArray → lq3, set_cons_zero → lq4, set_cons_succ → lq5
namespace Go.Proofs.YtimmadkbkimonaaGreatDoor
set_option linter.unusedSimpArgs false
set_option linter.unusedVariables false
open Go.RowKit

theorem rnum_any (f : FaceV) (a : Option Addr) (n : Nat) (c : CellV) (w : World) (hv : f.valid = true) (hc : hasF f c = true) :
    Calls Tryz.prog 67 #[.agg (f.cells a n), .agg (cellA c)] w fun e w' => e = .returned (.int .i64 (indexF f c.1 c.2)) ∧ Below w.heap.size w w' := by
  have IV := FaceV.int hv
  have HC := hasF_iff.1 hc
  rw [indexF_of hv c.1 ⟨HC.2.1, by omega⟩]
  exact rnumber_any f a n c w ⟨by omega, by omega⟩ ⟨by omega, by omega⟩ ⟨by omega, by omega⟩
set_option maxHeartbeats 4000000 in
set_option maxRecDepth 100000 in
theorem rindexP_any (f : FaceV) (a : Option Addr) (n : Nat) (c : CellV) (w : World) (hr : RdI w a f.kinds.length n f.kinds) :
    Calls Tryz.prog 59 #[.agg (f.cells a n), .agg (cellA c)] w fun e w' => e = .returned (.tuple #[.int .i64 (indexP f c).1, .int .i64 (indexP f c).2]) ∧ Below w.heap.size w w' := by
  have AK := Lib.hid (fun W (hb : Below w.heap.size w W) => rasked_any f a n c W (hr.below hb))
  clear hr
  have AL := Lib.hid (al2 w (.cells (f.cells a n) 28) (.cells (cellA c) 41))
  go_enter Tryz.func59, Tryz.ntmps59
  go_upto_region 1 with fail
  obtain ⟨p, hp⟩ : ∃ p, Hid (w.heap.size = p) := ⟨_, Lib.hid rfl⟩
  obtain ⟨q, hq⟩ : ∃ q, Hid (w.heap.size + 1 = q) := ⟨_, Lib.hid rfl⟩
  rw [hq.out] at AL ⊢
  rw [hp.out] at AL ⊢
  generalize ((w.alloc (.cells (f.cells a n) 28)).alloc (.cells (cellA c) 41)) = W0 at *
  have BF : Hid (Below w.heap.size w W0) := Lib.hid (by rw [hp.out]; exact AL.out.1)
  have XF : Hid (W0.heap[p]? = some (.cells (f.cells a n) 28 (0, 0))) := Lib.hid AL.out.2.1
  have XC : Hid (W0.heap[q]? = some (.cells (cellA c) 41 (0, 0))) := Lib.hid AL.out.2.2
  clear AL
  have c0 := qcell XF.out 0 (.int .i64 f.eye) rfl
  have c1 := qcell XF.out 1 (.int .i64 f.rings) rfl
  have c2 := qcell XF.out 2 (.int .i64 f.sectors) rfl
  have c3 := qcell XF.out 3 (.slice a f.kinds.length n) rfl
  have d0 := qcell XC.out 0 (.int .i64 c.1) rfl
  have d1 := qcell XC.out 1 (.int .i64 c.2) rfl
  go_wp2_with (first
    | (refine wpList_load_row rfl 28 _ rfl p rfl 28 (f.cells a n) (0, 0) _ XF.out Tryz.underlying28 rfl (by exact (qJF f a n)) ?_)
    | (refine wpList_load_row rfl 41 _ rfl q rfl 41 (cellA c) (0, 0) _ XC.out Tryz.underlying41 rfl (by exact (qJC c)) ?_)
    | fail)
  refine (AK.out W0 BF.out).mono ?_
  rintro e V1 ⟨rfl, b⟩
  clear c0 c1 c2 c3 d0 d1
  replace BF := Lib.hid (BF.out.trans (b.mono BF.out.size))
  replace XF := Lib.hid (qblk b XF.out)
  replace XC := Lib.hid (qblk b XC.out)
  clear b
  have c0 := qcell XF.out 0 (.int .i64 f.eye) rfl
  have c1 := qcell XF.out 1 (.int .i64 f.rings) rfl
  have c2 := qcell XF.out 2 (.int .i64 f.sectors) rfl
  have c3 := qcell XF.out 3 (.slice a f.kinds.length n) rfl
  have d0 := qcell XC.out 0 (.int .i64 c.1) rfl
  have d1 := qcell XC.out 1 (.int .i64 c.2) rfl
  cases hk : decide (askedF f c ≠ 0)
  · have HK : Hid (askedF f c = 0) := Lib.hid (by simpa using hk)
    have ZK := Lib.hid (asked_zero.1 HK.out)
    have IV := Lib.hid (FaceV.int ZK.out.1)
    have HC := Lib.hid (hasF_iff.1 ZK.out.2)
    have IL := Lib.hid (index_lt ZK.out.1 HC.out.1 c.2)
    have hk2 : (askedF f c != 0) = false := by simpa using hk
    clear hk
    go_wp2_with (first
      | (refine wpList_load_row rfl 28 _ rfl p rfl 28 (f.cells a n) (0, 0) _ XF.out Tryz.underlying28 rfl (by exact (qJF f a n)) ?_)
      | (refine wpList_load_row rfl 41 _ rfl q rfl 41 (cellA c) (0, 0) _ XC.out Tryz.underlying41 rfl (by exact (qJC c)) ?_)
      | fail)
    refine (rnum_any f a n c V1 ZK.out.1 ZK.out.2).mono ?_
    rintro e V2 ⟨rfl, b⟩
    clear c0 c1 c2 c3 d0 d1
    replace BF := Lib.hid (BF.out.trans (b.mono BF.out.size))
    replace XF := Lib.hid (qblk b XF.out)
    replace XC := Lib.hid (qblk b XC.out)
    clear b
    have c0 := qcell XF.out 0 (.int .i64 f.eye) rfl
    have c1 := qcell XF.out 1 (.int .i64 f.rings) rfl
    have c2 := qcell XF.out 2 (.int .i64 f.sectors) rfl
    have c3 := qcell XF.out 3 (.slice a f.kinds.length n) rfl
    have d0 := qcell XC.out 0 (.int .i64 c.1) rfl
    have d1 := qcell XC.out 1 (.int .i64 c.2) rfl
    go_wp2_with (first
      | (refine wpList_load_row rfl 28 _ rfl p rfl 28 (f.cells a n) (0, 0) _ XF.out Tryz.underlying28 rfl (by exact (qJF f a n)) ?_)
      | (refine wpList_load_row rfl 41 _ rfl q rfl 41 (cellA c) (0, 0) _ XC.out Tryz.underlying41 rfl (by exact (qJC c)) ?_)
      | fail)
    go_ret2
    exact ⟨by unfold indexP; rw [if_pos HK.out]; rfl, BF.out⟩
  · have HK : Hid (askedF f c ≠ 0) := Lib.hid (by simpa using hk)
    have hk2 : (askedF f c != 0) = true := by simpa using hk
    clear hk
    go_wp2_with (first
      | (refine wpList_load_row rfl 28 _ rfl p rfl 28 (f.cells a n) (0, 0) _ XF.out Tryz.underlying28 rfl (by exact (qJF f a n)) ?_)
      | (refine wpList_load_row rfl 41 _ rfl q rfl 41 (cellA c) (0, 0) _ XC.out Tryz.underlying41 rfl (by exact (qJC c)) ?_)
      | fail)
    go_ret2
    exact ⟨by unfold indexP; rw [if_neg HK.out]; rfl, BF.out⟩
set_option maxHeartbeats 4000000 in
set_option maxRecDepth 100000 in
theorem ratP_any (f : FaceV) (a : Option Addr) (n : Nat) (c : CellV) (w : World) (hr : RdI w a f.kinds.length n f.kinds) :
    Calls Tryz.prog 55 #[.agg (f.cells a n), .agg (cellA c)] w fun e w' => e = .returned (.tuple #[.int .i64 (atF f c).1, .int .i64 (atF f c).2]) ∧ Below w.heap.size w w' := by
  have HR := Lib.hid (fun W (hb : Below w.heap.size w W) => hr.below hb)
  have AK := Lib.hid (fun W (hb : Below w.heap.size w W) => rasked_any f a n c W (hr.below hb))
  clear hr
  have AL := Lib.hid (al2 w (.cells (f.cells a n) 28) (.cells (cellA c) 41))
  go_enter Tryz.func55, Tryz.ntmps55
  go_upto_region 1 with fail
  obtain ⟨p, hp⟩ : ∃ p, Hid (w.heap.size = p) := ⟨_, Lib.hid rfl⟩
  obtain ⟨q, hq⟩ : ∃ q, Hid (w.heap.size + 1 = q) := ⟨_, Lib.hid rfl⟩
  rw [hq.out] at AL ⊢
  rw [hp.out] at AL ⊢
  generalize ((w.alloc (.cells (f.cells a n) 28)).alloc (.cells (cellA c) 41)) = W0 at *
  have BF : Hid (Below w.heap.size w W0) := Lib.hid (by rw [hp.out]; exact AL.out.1)
  have XF : Hid (W0.heap[p]? = some (.cells (f.cells a n) 28 (0, 0))) := Lib.hid AL.out.2.1
  have XC : Hid (W0.heap[q]? = some (.cells (cellA c) 41 (0, 0))) := Lib.hid AL.out.2.2
  clear AL
  have c0 := qcell XF.out 0 (.int .i64 f.eye) rfl
  have c1 := qcell XF.out 1 (.int .i64 f.rings) rfl
  have c2 := qcell XF.out 2 (.int .i64 f.sectors) rfl
  have c3 := qcell XF.out 3 (.slice a f.kinds.length n) rfl
  have d0 := qcell XC.out 0 (.int .i64 c.1) rfl
  have d1 := qcell XC.out 1 (.int .i64 c.2) rfl
  go_wp2_with (first
    | (refine wpList_load_row rfl 28 _ rfl p rfl 28 (f.cells a n) (0, 0) _ XF.out Tryz.underlying28 rfl (by exact (qJF f a n)) ?_)
    | (refine wpList_load_row rfl 41 _ rfl q rfl 41 (cellA c) (0, 0) _ XC.out Tryz.underlying41 rfl (by exact (qJC c)) ?_)
    | fail)
  refine (AK.out W0 BF.out).mono ?_
  rintro e V1 ⟨rfl, b⟩
  clear c0 c1 c2 c3 d0 d1
  replace BF := Lib.hid (BF.out.trans (b.mono BF.out.size))
  replace XF := Lib.hid (qblk b XF.out)
  replace XC := Lib.hid (qblk b XC.out)
  clear b
  have c0 := qcell XF.out 0 (.int .i64 f.eye) rfl
  have c1 := qcell XF.out 1 (.int .i64 f.rings) rfl
  have c2 := qcell XF.out 2 (.int .i64 f.sectors) rfl
  have c3 := qcell XF.out 3 (.slice a f.kinds.length n) rfl
  have d0 := qcell XC.out 0 (.int .i64 c.1) rfl
  have d1 := qcell XC.out 1 (.int .i64 c.2) rfl
  cases hk : decide (askedF f c ≠ 0)
  · have HK : Hid (askedF f c = 0) := Lib.hid (by simpa using hk)
    have ZK := Lib.hid (asked_zero.1 HK.out)
    have IV := Lib.hid (FaceV.int ZK.out.1)
    have HC := Lib.hid (hasF_iff.1 ZK.out.2)
    have IL := Lib.hid (index_lt ZK.out.1 HC.out.1 c.2)
    have hk2 : (askedF f c != 0) = false := by simpa using hk
    clear hk
    obtain ⟨b0, off, ha, hx⟩ := (HR.out V1 BF.out).get (k := (indexF f c.1 c.2).toNat) (x := f.kat (indexF f c.1 c.2).toNat) (by have := IL.out; unfold FaceV.kat; rw [List.getElem?_eq_getElem (by omega)]; rfl)
    have HX := Lib.hid hx
    have HI : Hid (((indexF f c.1 c.2).toNat : Int) = indexF f c.1 c.2) := Lib.hid (Int.toNat_of_nonneg IL.out.1)
    have HJ : Hid ((indexF f c.1 c.2).toNat < f.kinds.length) := Lib.hid (by have := IL.out; omega)
    clear hx
    subst ha
    obtain ⟨k, hk⟩ : ∃ k, Hid ((indexF f c.1 c.2).toNat = k) := ⟨_, Lib.hid rfl⟩
    rw [hk.out] at HX HI HJ
    go_wp2_with (first
      | (refine wpList_load_row rfl 28 _ rfl p rfl 28 (f.cells (some ⟨b0, off, none⟩) n) (0, 0) _ XF.out Tryz.underlying28 rfl (by exact (qJF f (some ⟨b0, off, none⟩) n)) ?_)
      | (refine wpList_load_row rfl 41 _ rfl q rfl 41 (cellA c) (0, 0) _ XC.out Tryz.underlying41 rfl (by exact (qJC c)) ?_)
      | fail)
    have RC : Hid (∀ W, Below w.heap.size w W → W.cell? ⟨b0, off + k, none⟩ = some (.int .i64 (f.kat k))) := Lib.hid (fun W hb => by
      obtain ⟨b1, o1, e1, h1⟩ := (HR.out W hb).get (k := k) (x := f.kat k) (by have := HJ.out; unfold FaceV.kat; rw [List.getElem?_eq_getElem (by omega)]; rfl)
      cases e1
      exact h1)
    clear c0 c1 c2 c3 d0 d1
    have hd : Below V1.heap.size V1 V1.drew := (Below.refl _ _).drew
    refine zC (fun W => Below w.heap.size w W ∧ W.heap[p]? = some (.cells (f.cells (some ⟨b0, off, none⟩) n) 28 (0, 0)) ∧ W.heap[q]? = some (.cells (cellA c) 41 (0, 0))) ⟨BF.out.drew, qblk hd XF.out, qblk hd XC.out⟩ ?_
    clear hd
    refine zv p 3 ?_
    refine zQ (.slice (some ⟨b0, off, none⟩) f.kinds.length n) (fun w0 hC => by have cc := qcell hC.2.1 3 (.slice (some ⟨b0, off, none⟩) f.kinds.length n) rfl; clear hC; go_simp) ?_
    refine zQ (.agg (f.cells (some ⟨b0, off, none⟩) n)) (fun w0 hC => qzrow 28 _ rfl p rfl _ 28 (0, 0) _ hC.2.1 Tryz.underlying28 rfl (by exact (qJF f (some ⟨b0, off, none⟩) n))) ?_
    refine zQ (.agg (cellA c)) (fun w0 hC => qzrow 41 _ rfl q rfl _ 41 (0, 0) _ hC.2.2 Tryz.underlying41 rfl (by exact (qJC c))) ?_
    refine zQ (.int .i64 (k : Int)) (fun w0 hC => by go_simp; refine (rnum_any f (some ⟨b0, off, none⟩) n c w0 ZK.out.1 ZK.out.2).mono ?_; rintro e w1 ⟨rfl, b⟩; exact ⟨by rw [← HI.out], hC.1.trans (b.mono hC.1.size), qblk b hC.2.1, qblk b hC.2.2⟩) ?_
    refine zQ (.pointer (some ⟨b0, off + k, none⟩)) (fun w0 hC => by have := HJ.out; clear hC; go_simp) ?_
    refine zQ (.int .i64 (f.kat k)) (fun w0 hC => by have cc := RC.out w0 hC.1; clear hC; go_simp) ?_
    refine zV (.int .i64 (f.kat k)) ?_
    refine zV (.int .i64 0) ?_
    refine wpQuiet_nil ?_
    intro V5 hC
    replace BF := Lib.hid hC.1
    replace XF := Lib.hid hC.2.1
    replace XC := Lib.hid hC.2.2
    clear hC
    have c0 := qcell XF.out 0 (.int .i64 f.eye) rfl
    have c1 := qcell XF.out 1 (.int .i64 f.rings) rfl
    have c2 := qcell XF.out 2 (.int .i64 f.sectors) rfl
    have c3 := qcell XF.out 3 (.slice (some ⟨b0, off, none⟩) f.kinds.length n) rfl
    have d0 := qcell XC.out 0 (.int .i64 c.1) rfl
    have d1 := qcell XC.out 1 (.int .i64 c.2) rfl
    go_wp2_with (first
      | (refine wpList_load_row rfl 28 _ rfl p rfl 28 (f.cells (some ⟨b0, off, none⟩) n) (0, 0) _ XF.out Tryz.underlying28 rfl (by exact (qJF f (some ⟨b0, off, none⟩) n)) ?_)
      | (refine wpList_load_row rfl 41 _ rfl q rfl 41 (cellA c) (0, 0) _ XC.out Tryz.underlying41 rfl (by exact (qJC c)) ?_)
      | fail)
    go_ret2
    exact ⟨by unfold atF; rw [if_pos HK.out, hk.out]; rfl, BF.out⟩
  · have HK : Hid (askedF f c ≠ 0) := Lib.hid (by simpa using hk)
    have hk2 : (askedF f c != 0) = true := by simpa using hk
    clear hk
    go_wp2_with (first
      | (refine wpList_load_row rfl 28 _ rfl p rfl 28 (f.cells a n) (0, 0) _ XF.out Tryz.underlying28 rfl (by exact (qJF f a n)) ?_)
      | (refine wpList_load_row rfl 41 _ rfl q rfl 41 (cellA c) (0, 0) _ XC.out Tryz.underlying41 rfl (by exact (qJC c)) ?_)
      | fail)
    go_ret2
    exact ⟨by unfold atF; rw [if_neg HK.out]; rfl, BF.out⟩
set_option maxHeartbeats 4000000 in
set_option maxRecDepth 100000 in
theorem rcellP_any (f : FaceV) (a : Option Addr) (n : Nat) (i : Int) (w : World) (hr : RdI w a f.kinds.length n f.kinds) :
    Calls Tryz.prog 60 #[.agg (f.cells a n), .int .i64 i] w fun e w' => e = .returned (.tuple #[.agg (cellA (cellP f i).1), .int .i64 (cellP f i).2]) ∧ Below w.heap.size w w' := by
  have AV := Lib.hid (fun W (hb : Below w.heap.size w W) => rvalid_any f a n W (hr.below hb))
  clear hr
  have AL := Lib.hid (al2 w (.cells (f.cells a n) 28) (.cells #[.int .i64 0, .int .i64 0] 41))
  go_enter Tryz.func60, Tryz.ntmps60
  go_upto_region 1 with fail
  obtain ⟨p, hp⟩ : ∃ p, Hid (w.heap.size = p) := ⟨_, Lib.hid rfl⟩
  obtain ⟨z, hz⟩ : ∃ z, Hid (w.heap.size + 1 = z) := ⟨_, Lib.hid rfl⟩
  rw [hz.out] at AL ⊢
  rw [hp.out] at AL ⊢
  generalize ((w.alloc (.cells (f.cells a n) 28)).alloc (.cells #[.int .i64 0, .int .i64 0] 41)) = W0 at *
  have BF : Hid (Below w.heap.size w W0) := Lib.hid (by rw [hp.out]; exact AL.out.1)
  have XF : Hid (W0.heap[p]? = some (.cells (f.cells a n) 28 (0, 0))) := Lib.hid AL.out.2.1
  have XZ : Hid (W0.heap[z]? = some (.cells #[.int .i64 0, .int .i64 0] 41 (0, 0))) := Lib.hid AL.out.2.2
  clear AL
  have c0 := qcell XF.out 0 (.int .i64 f.eye) rfl
  have c1 := qcell XF.out 1 (.int .i64 f.rings) rfl
  have c2 := qcell XF.out 2 (.int .i64 f.sectors) rfl
  have c3 := qcell XF.out 3 (.slice a f.kinds.length n) rfl
  go_wp2_with (first
    | (refine wpList_load_row rfl 28 _ rfl p rfl 28 (f.cells a n) (0, 0) _ XF.out Tryz.underlying28 rfl (by exact (qJF f a n)) ?_)
    | (refine wpList_load_row rfl 41 _ rfl z rfl 41 #[.int .i64 0, .int .i64 0] (0, 0) _ XZ.out Tryz.underlying41 rfl (by exact (qJC (0, 0))) ?_)
    | fail)
  refine (AV.out W0 BF.out).mono ?_
  rintro e V1 ⟨rfl, b⟩
  clear c0 c1 c2 c3
  replace BF := Lib.hid (BF.out.trans (b.mono BF.out.size))
  replace XF := Lib.hid (qblk b XF.out)
  replace XZ := Lib.hid (qblk b XZ.out)
  clear b
  have c0 := qcell XF.out 0 (.int .i64 f.eye) rfl
  have c1 := qcell XF.out 1 (.int .i64 f.rings) rfl
  have c2 := qcell XF.out 2 (.int .i64 f.sectors) rfl
  have c3 := qcell XF.out 3 (.slice a f.kinds.length n) rfl
  cases hv : f.valid
  · go_wp2_with (first
      | (refine wpList_load_row rfl 28 _ rfl p rfl 28 (f.cells a n) (0, 0) _ XF.out Tryz.underlying28 rfl (by exact (qJF f a n)) ?_)
      | (refine wpList_load_row rfl 41 _ rfl z rfl 41 #[.int .i64 0, .int .i64 0] (0, 0) _ XZ.out Tryz.underlying41 rfl (by exact (qJC (0, 0))) ?_)
      | (refine wpList_qstore rfl 41 _ _ rfl z #[.int .i64 0, .int .i64 0] (cellA (0, 0)) 41 rfl rfl XZ.out (by exact (qJC (0, 0))) rfl (qoneC (0, 0)) ?_; intro VZ hzz hgz; clear c0 c1 c2 c3; replace BF := Lib.hid (qstep BF.out hgz (by have h1 := hz.out; omega)); replace XF := Lib.hid (qgrown hgz XF.out (fun e => by have h1 := hp.out; have h2 := hz.out; have := Option.some.inj e; omega)); replace XZ := Lib.hid hzz; clear hzz hgz; have c0 := qcell XF.out 0 (.int .i64 f.eye) rfl; have c1 := qcell XF.out 1 (.int .i64 f.rings) rfl; have c2 := qcell XF.out 2 (.int .i64 f.sectors) rfl; have c3 := qcell XF.out 3 (.slice a f.kinds.length n) rfl)
      | fail)
    (try simp only [Exit.inBlock, Exit.then])
    refine bodyPost_ret (results_ct rfl _ VZ z 41 (cellA (0, 0)) (0, 0) _ rfl XZ.out Tryz.underlying41 rfl (by exact (qJC (0, 0)))) rfl ?_
    exact ⟨by unfold cellP; rw [hv]; rfl, BF.out⟩
  · have IV := Lib.hid (FaceV.int hv)
    have SB := Lib.hid (show wrap64 ((f.kinds.length : Int) - 1) = (f.kinds.length : Int) - 1 by have := IV.out; have h3 : f.rings * f.sectors ≤ 24 * 96 := Int.mul_le_mul (by omega) (by omega) (by omega) (by omega); unfold wrap64; omega)
    go_wp2_with (first
      | (refine wpList_load_row rfl 28 _ rfl p rfl 28 (f.cells a n) (0, 0) _ XF.out Tryz.underlying28 rfl (by exact (qJF f a n)) ?_)
      | (refine wpList_load_row rfl 41 _ rfl z rfl 41 #[.int .i64 0, .int .i64 0] (0, 0) _ XZ.out Tryz.underlying41 rfl (by exact (qJC (0, 0))) ?_)
      | fail)
    rw [SB.out]
    refine (rwithin_any i 0 ((f.kinds.length : Int) - 1) V1).mono ?_
    rintro e V2 ⟨rfl, rfl⟩
    cases hh : inB i 0 ((f.kinds.length : Int) - 1)
    · go_wp2_with (first
        | (refine wpList_load_row rfl 28 _ rfl p rfl 28 (f.cells a n) (0, 0) _ XF.out Tryz.underlying28 rfl (by exact (qJF f a n)) ?_)
        | (refine wpList_load_row rfl 41 _ rfl z rfl 41 #[.int .i64 0, .int .i64 0] (0, 0) _ XZ.out Tryz.underlying41 rfl (by exact (qJC (0, 0))) ?_)
        | (refine wpList_qstore rfl 41 _ _ rfl z #[.int .i64 0, .int .i64 0] (cellA (0, 0)) 41 rfl rfl XZ.out (by exact (qJC (0, 0))) rfl (qoneC (0, 0)) ?_; intro VZ hzz hgz; clear c0 c1 c2 c3; replace BF := Lib.hid (qstep BF.out hgz (by have h1 := hz.out; omega)); replace XF := Lib.hid (qgrown hgz XF.out (fun e => by have h1 := hp.out; have h2 := hz.out; have := Option.some.inj e; omega)); replace XZ := Lib.hid hzz; clear hzz hgz; have c0 := qcell XF.out 0 (.int .i64 f.eye) rfl; have c1 := qcell XF.out 1 (.int .i64 f.rings) rfl; have c2 := qcell XF.out 2 (.int .i64 f.sectors) rfl; have c3 := qcell XF.out 3 (.slice a f.kinds.length n) rfl)
        | fail)
      (try simp only [Exit.inBlock, Exit.then])
      refine bodyPost_ret (results_ct rfl _ VZ z 41 (cellA (0, 0)) (0, 0) _ rfl XZ.out Tryz.underlying41 rfl (by exact (qJC (0, 0)))) rfl ?_
      exact ⟨by unfold cellP; rw [hv, hh]; rfl, BF.out⟩
    · have HH := Lib.hid (inB_true.1 hh)
      go_wp2_with (first
        | (refine wpList_load_row rfl 28 _ rfl p rfl 28 (f.cells a n) (0, 0) _ XF.out Tryz.underlying28 rfl (by exact (qJF f a n)) ?_)
        | (refine wpList_load_row rfl 41 _ rfl z rfl 41 #[.int .i64 0, .int .i64 0] (0, 0) _ XZ.out Tryz.underlying41 rfl (by exact (qJC (0, 0))) ?_)
        | fail)
      refine (rplace_any f a n i V2 (by have := IV.out; omega) (by have := HH.out; have := IV.out; have h3 : f.rings * f.sectors ≤ 24 * 96 := Int.mul_le_mul (by omega) (by omega) (by omega) (by omega); omega)).mono ?_
      rintro e V3 ⟨rfl, b⟩
      clear c0 c1 c2 c3
      replace BF := Lib.hid (BF.out.trans (b.mono BF.out.size))
      replace XF := Lib.hid (qblk b XF.out)
      replace XZ := Lib.hid (qblk b XZ.out)
      clear b
      have c0 := qcell XF.out 0 (.int .i64 f.eye) rfl
      have c1 := qcell XF.out 1 (.int .i64 f.rings) rfl
      have c2 := qcell XF.out 2 (.int .i64 f.sectors) rfl
      have c3 := qcell XF.out 3 (.slice a f.kinds.length n) rfl
      go_wp2_with (first
        | (refine wpList_load_row rfl 28 _ rfl p rfl 28 (f.cells a n) (0, 0) _ XF.out Tryz.underlying28 rfl (by exact (qJF f a n)) ?_)
        | (refine wpList_load_row rfl 41 _ rfl z rfl 41 #[.int .i64 0, .int .i64 0] (0, 0) _ XZ.out Tryz.underlying41 rfl (by exact (qJC (0, 0))) ?_)
        | (refine wpList_qstore rfl 41 _ _ rfl z #[.int .i64 0, .int .i64 0] (cellA (cellF f i)) 41 rfl rfl XZ.out (by exact (qJC (cellF f i))) rfl (qoneC (cellF f i)) ?_; intro VZ hzz hgz; clear c0 c1 c2 c3; replace BF := Lib.hid (qstep BF.out hgz (by have h1 := hz.out; omega)); replace XF := Lib.hid (qgrown hgz XF.out (fun e => by have h1 := hp.out; have h2 := hz.out; have := Option.some.inj e; omega)); replace XZ := Lib.hid hzz; clear hzz hgz; have c0 := qcell XF.out 0 (.int .i64 f.eye) rfl; have c1 := qcell XF.out 1 (.int .i64 f.rings) rfl; have c2 := qcell XF.out 2 (.int .i64 f.sectors) rfl; have c3 := qcell XF.out 3 (.slice a f.kinds.length n) rfl)
        | fail)
      (try simp only [Exit.inBlock, Exit.then])
      refine bodyPost_ret (results_ct rfl _ VZ z 41 (cellA (cellF f i)) (0, 0) _ rfl XZ.out Tryz.underlying41 rfl (by exact (qJC (cellF f i)))) rfl ?_
      exact ⟨by unfold cellP; rw [hv, hh]; rfl, BF.out⟩
set_option maxHeartbeats 4000000 in
set_option maxRecDepth 100000 in
theorem rcopied_any (f : FaceV) (a : Option Addr) (n : Nat) (w : World) (hn : f.kinds.length ≤ 1000000) (hr : RdI w a f.kinds.length n f.kinds) :
    Calls Tryz.prog 102 #[.agg (f.cells a n)] w fun e w' => (∃ a' n', e = .returned (.agg (f.cells a' n')) ∧ OwnI w w' a' f.kinds.length n' f.kinds) ∧ Below w.heap.size w w' := by
  have HR := Lib.hid (fun W (hb : Below w.heap.size w W) => hr.below hb)
  clear hr
  have AL := Lib.hid (al2 w (.cells (f.cells a n) 28) (.cells #[.int .i64 0, .int .i64 0, .int .i64 0, .slice none 0 0] 28))
  go_enter Tryz.func102, Tryz.ntmps102
  go_upto_region 1 with fail
  obtain ⟨p, hp⟩ : ∃ p, Hid (w.heap.size = p) := ⟨_, Lib.hid rfl⟩
  obtain ⟨z, hz⟩ : ∃ z, Hid (w.heap.size + 1 = z) := ⟨_, Lib.hid rfl⟩
  rw [hz.out] at AL ⊢
  rw [hp.out] at AL ⊢
  generalize ((w.alloc (.cells (f.cells a n) 28)).alloc (.cells #[.int .i64 0, .int .i64 0, .int .i64 0, .slice none 0 0] 28)) = W0 at *
  have BF : Hid (Below w.heap.size w W0) := Lib.hid (by rw [hp.out]; exact AL.out.1)
  have XF : Hid (W0.heap[p]? = some (.cells (f.cells a n) 28 (0, 0))) := Lib.hid AL.out.2.1
  have XZ : Hid (W0.heap[z]? = some (.cells (zeroF.cells none 0) 28 (0, 0))) := Lib.hid AL.out.2.2
  clear AL
  have c0 := qcell XF.out 0 (.int .i64 f.eye) rfl
  have c1 := qcell XF.out 1 (.int .i64 f.rings) rfl
  have c2 := qcell XF.out 2 (.int .i64 f.sectors) rfl
  have c3 := qcell XF.out 3 (.slice a f.kinds.length n) rfl
  clear c0 c1 c2 c3
  refine yB ?_
  refine yR (fun K hK => ?_)
  refine qbuild (w' := W0.alloc (.cells #[] 3)) (.slice (some ⟨W0.heap.size, 0, none⟩) 0 0) (by kernel_rfl) ?_
  have b := zB W0 (.cells #[] 3)
  have OW : Hid (OwnI w (W0.alloc (.cells #[] 3)) (some ⟨W0.heap.size, 0, none⟩) 0 0 []) := Lib.hid (World.ownsRow_lit (base := w.heap.size) (e := 3) (size := 1) W0 #[] 0 BF.out.size (by unfold maxLen; omega) rfl)
  obtain ⟨y, hy⟩ : ∃ x, Hid (W0.heap.size = x) := ⟨_, Lib.hid rfl⟩
  replace BF := Lib.hid (BF.out.trans (b.mono BF.out.size))
  replace XF := Lib.hid (qblk b XF.out)
  replace XZ := Lib.hid (qblk b XZ.out)
  clear b
  rw [hy.out] at OW ⊢
  generalize hV9 : W0.alloc (.cells #[] 3) = W1 at *
  clear hV9
  refine yK hK ?_
  clear hK K
  refine yW (.pointer (some ⟨p, 3, none⟩)) ?_
  refine yW (.slice a f.kinds.length n) ?_ (.inl ⟨by kernel_rfl, by intro W hW; rw [hW]; have c := qcell XF.out 3 (.slice a f.kinds.length n) rfl; go_simp⟩)
  refine yR (fun K hK => ?_)
  obtain ⟨oa2, oc2, W2, hrun, ho7, hk7, hb7⟩ := run_app_q W1 w.heap.size (some ⟨y, 0, none⟩) 0 0 [] OW.out a f.kinds.length n f.kinds (HR.out W1 BF.out) (by omega) BF.out.size
  refine qappend _ _ _ rfl _ _ _ rfl rfl hrun ?_
  clear hrun
  rw [List.nil_append, Nat.zero_add] at ho7
  rw [Nat.zero_add]
  replace OW := Lib.hid (show OwnI w W2 oa2 f.kinds.length oc2 f.kinds from ho7)
  replace BF := Lib.hid (hb7 _ BF.out)
  replace XF := Lib.hid (hk7 _ _ XF.out (by simp))
  replace XZ := Lib.hid (hk7 _ _ XZ.out (by simp))
  clear hk7 hb7 ho7
  refine yK hK ?_
  clear hK K
  refine yW (.pointer (some ⟨p, 3, none⟩)) ?_
  refine yR (fun K hK => ?_)
  have cz := qcell XF.out 3 (.slice a f.kinds.length n) rfl
  have fz := qfroz XF.out 3
  go_simp
  clear cz fz
  refine yK hK ?_
  clear hK K
  refine yE ?_
  have HG := qput_grown W2 p 3 (.slice oa2 f.kinds.length oc2)
  have XG : Hid ((W2.setCell ⟨p, 3, none⟩ (.slice oa2 f.kinds.length oc2)).heap[p]? = some (.cells (f.cells oa2 oc2) 28 (0, 0))) := Lib.hid (by rw [qput_at XF.out 3 _]; rfl)
  replace OW := Lib.hid (OW.out.kept HG XF.out (by decide))
  replace BF := Lib.hid (qstep BF.out HG (by have h1 := hp.out; omega))
  replace XZ := Lib.hid (qgrown HG XZ.out (fun e => by have h1 := hp.out; have h2 := hz.out; have := Option.some.inj e; omega))
  clear HG XF
  generalize W2.setCell ⟨p, 3, none⟩ (.slice oa2 f.kinds.length oc2) = W3 at *
  go_wp2_with (first
    | (refine wpList_load_row rfl 28 _ rfl p rfl 28 (f.cells oa2 oc2) (0, 0) _ XG.out Tryz.underlying28 rfl (by exact (qJF f oa2 oc2)) ?_)
    | (refine wpList_load_row rfl 28 _ rfl z rfl 28 (zeroF.cells none 0) (0, 0) _ XZ.out Tryz.underlying28 rfl (by exact (qJF zeroF none 0)) ?_)
    | (refine wpList_qstore rfl 28 _ _ rfl z (zeroF.cells none 0) (f.cells oa2 oc2) 28 rfl rfl XZ.out (by exact (qJF f oa2 oc2)) rfl (qone f oa2 oc2) ?_; intro VZ hzz hgz; replace BF := Lib.hid (qstep BF.out hgz (by have h1 := hz.out; omega)); replace XG := Lib.hid (qgrown hgz XG.out (fun e => by have h1 := hp.out; have h2 := hz.out; have := Option.some.inj e; omega)); replace OW := Lib.hid (OW.out.kept hgz XZ.out (by decide)); replace XZ := Lib.hid hzz; clear hzz hgz)
    | fail)
  (try simp only [Exit.inBlock, Exit.then])
  refine bodyPost_ret (results_cell_row rfl _ VZ z 28 (f.cells oa2 oc2) (0, 0) _ rfl XZ.out Tryz.underlying28 rfl (by exact (qJF f oa2 oc2))) rfl ?_
  exact ⟨⟨oa2, oc2, rfl, OW.out⟩, BF.out⟩
set_option maxHeartbeats 4000000 in
set_option maxRecDepth 100000 in
theorem rsetF_any (f : FaceV) (a : Option Addr) (n : Nat) (c : CellV) (k : Int) (w : World) (hr : RdI w a f.kinds.length n f.kinds) :
    Calls Tryz.prog 56 #[.agg (f.cells a n), .agg (cellA c), .int .i64 k] w fun e w' => ∃ a' n', e = .returned (.tuple #[.agg ((setF f c k).1.cells a' n'), .int .i64 (setF f c k).2]) ∧ RdI w' a' (setF f c k).1.kinds.length n' (setF f c k).1.kinds ∧ Below w.heap.size w w' := by
  have HR := Lib.hid (fun W (hb : Below w.heap.size w W) => hr.below hb)
  have AK := Lib.hid (fun W (hb : Below w.heap.size w W) => rasked_any f a n c W (hr.below hb))
  clear hr
  have AL := Lib.hid (al3 w (.cells (f.cells a n) 28) (.cells (cellA c) 41) (.cells #[.int .i64 0, .int .i64 0, .int .i64 0, .slice none 0 0] 28))
  go_enter Tryz.func56, Tryz.ntmps56
  go_upto_region 1 with fail
  obtain ⟨p, hp⟩ : ∃ p, Hid (w.heap.size = p) := ⟨_, Lib.hid rfl⟩
  obtain ⟨q, hq⟩ : ∃ q, Hid (w.heap.size + 1 = q) := ⟨_, Lib.hid rfl⟩
  obtain ⟨z, hz⟩ : ∃ z, Hid (w.heap.size + 2 = z) := ⟨_, Lib.hid rfl⟩
  rw [hz.out] at AL ⊢
  rw [hq.out] at AL ⊢
  rw [hp.out] at AL ⊢
  generalize (((w.alloc (.cells (f.cells a n) 28)).alloc (.cells (cellA c) 41)).alloc (.cells #[.int .i64 0, .int .i64 0, .int .i64 0, .slice none 0 0] 28)) = W0 at *
  have BF : Hid (Below w.heap.size w W0) := Lib.hid (by rw [hp.out]; exact AL.out.1)
  have XF : Hid (W0.heap[p]? = some (.cells (f.cells a n) 28 (0, 0))) := Lib.hid AL.out.2.1
  have XC : Hid (W0.heap[q]? = some (.cells (cellA c) 41 (0, 0))) := Lib.hid AL.out.2.2.1
  have XZ : Hid (W0.heap[z]? = some (.cells (zeroF.cells none 0) 28 (0, 0))) := Lib.hid AL.out.2.2.2
  clear AL
  have c0 := qcell XF.out 0 (.int .i64 f.eye) rfl
  have c1 := qcell XF.out 1 (.int .i64 f.rings) rfl
  have c2 := qcell XF.out 2 (.int .i64 f.sectors) rfl
  have c3 := qcell XF.out 3 (.slice a f.kinds.length n) rfl
  have d0 := qcell XC.out 0 (.int .i64 c.1) rfl
  have d1 := qcell XC.out 1 (.int .i64 c.2) rfl
  go_wp2_with (first
    | (refine wpList_load_row rfl 28 _ rfl p rfl 28 (f.cells a n) (0, 0) _ XF.out Tryz.underlying28 rfl (by exact (qJF f a n)) ?_)
    | (refine wpList_load_row rfl 41 _ rfl q rfl 41 (cellA c) (0, 0) _ XC.out Tryz.underlying41 rfl (by exact (qJC c)) ?_)
    | (refine wpList_load_row rfl 28 _ rfl z rfl 28 (zeroF.cells none 0) (0, 0) _ XZ.out Tryz.underlying28 rfl (by exact (qJF zeroF none 0)) ?_)
    | fail)
  refine (AK.out W0 BF.out).mono ?_
  rintro e V1 ⟨rfl, b⟩
  clear c0 c1 c2 c3 d0 d1
  replace BF := Lib.hid (BF.out.trans (b.mono BF.out.size))
  replace XF := Lib.hid (qblk b XF.out)
  replace XC := Lib.hid (qblk b XC.out)
  replace XZ := Lib.hid (qblk b XZ.out)
  clear b
  have c0 := qcell XF.out 0 (.int .i64 f.eye) rfl
  have c1 := qcell XF.out 1 (.int .i64 f.rings) rfl
  have c2 := qcell XF.out 2 (.int .i64 f.sectors) rfl
  have c3 := qcell XF.out 3 (.slice a f.kinds.length n) rfl
  have d0 := qcell XC.out 0 (.int .i64 c.1) rfl
  have d1 := qcell XC.out 1 (.int .i64 c.2) rfl
  cases hk : decide (askedF f c ≠ 0)
  · have HK : Hid (askedF f c = 0) := Lib.hid (by simpa using hk)
    have ZK := Lib.hid (asked_zero.1 HK.out)
    have IV := Lib.hid (FaceV.int ZK.out.1)
    have HC := Lib.hid (hasF_iff.1 ZK.out.2)
    have LL := Lib.hid (FaceV.len_le ZK.out.1)
    have IL := Lib.hid (index_lt ZK.out.1 HC.out.1 c.2)
    have hk2 : (askedF f c != 0) = false := by simpa using hk
    clear hk
    go_wp2_with (first
      | (refine wpList_load_row rfl 28 _ rfl p rfl 28 (f.cells a n) (0, 0) _ XF.out Tryz.underlying28 rfl (by exact (qJF f a n)) ?_)
      | (refine wpList_load_row rfl 41 _ rfl q rfl 41 (cellA c) (0, 0) _ XC.out Tryz.underlying41 rfl (by exact (qJC c)) ?_)
      | (refine wpList_load_row rfl 28 _ rfl z rfl 28 (zeroF.cells none 0) (0, 0) _ XZ.out Tryz.underlying28 rfl (by exact (qJF zeroF none 0)) ?_)
      | fail)
    refine (rwithin_any k 0 2 V1).mono ?_
    rintro e V2 ⟨rfl, rfl⟩
    rw [show inB k 0 2 = kindB k from rfl]
    cases hb : kindB k
    · go_wp2_with (first
        | (refine wpList_load_row rfl 28 _ rfl p rfl 28 (f.cells a n) (0, 0) _ XF.out Tryz.underlying28 rfl (by exact (qJF f a n)) ?_)
        | (refine wpList_load_row rfl 41 _ rfl q rfl 41 (cellA c) (0, 0) _ XC.out Tryz.underlying41 rfl (by exact (qJC c)) ?_)
        | (refine wpList_load_row rfl 28 _ rfl z rfl 28 (zeroF.cells none 0) (0, 0) _ XZ.out Tryz.underlying28 rfl (by exact (qJF zeroF none 0)) ?_)
        | (refine wpList_qstore rfl 28 _ _ rfl z (zeroF.cells none 0) (zeroF.cells none 0) 28 rfl rfl XZ.out (by exact (qJF zeroF none 0)) rfl (qone zeroF none 0) ?_; intro VZ hzz hgz; clear c0 c1 c2 c3 d0 d1; replace BF := Lib.hid (qstep BF.out hgz (by have h1 := hz.out; omega)); replace XF := Lib.hid (qgrown hgz XF.out (fun e => by have h1 := hp.out; have h2 := hz.out; have := Option.some.inj e; omega)); replace XC := Lib.hid (qgrown hgz XC.out (fun e => by have h1 := hq.out; have h2 := hz.out; have := Option.some.inj e; omega)); replace XZ := Lib.hid hzz; clear hzz hgz; have c0 := qcell XF.out 0 (.int .i64 f.eye) rfl; have c1 := qcell XF.out 1 (.int .i64 f.rings) rfl; have c2 := qcell XF.out 2 (.int .i64 f.sectors) rfl; have c3 := qcell XF.out 3 (.slice a f.kinds.length n) rfl; have d0 := qcell XC.out 0 (.int .i64 c.1) rfl; have d1 := qcell XC.out 1 (.int .i64 c.2) rfl)
        | fail)
      (try simp only [Exit.inBlock, Exit.then])
      refine bodyPost_ret (results_ct rfl _ VZ z 28 (zeroF.cells none 0) (0, 0) _ rfl XZ.out Tryz.underlying28 rfl (by exact (qJF zeroF none 0))) rfl ?_
      unfold setF
      rw [if_pos HK.out, if_neg (by rw [hb]; decide)]
      exact ⟨none, 0, rfl, RdA.nil _ _, BF.out⟩
    · have HB := Lib.hid hb
      have HV := Lib.hid ZK.out.1
      clear hb hk2
      clear c0 c1 c2 c3 d0 d1
      go_upto_region 6 with fail
      refine yB ?_
      refine yW (.agg (f.cells a n)) ?_ (qyrow (by kernel_rfl) 28 _ rfl p rfl _ 28 (0, 0) _ (fun W hW => by rw [hW]; exact XF.out) Tryz.underlying28 rfl (by exact (qJF f a n)))
      refine yR (fun K hK => ?_)
      go_simp
      refine (rcopied_any f a n _ (by have := LL.out; omega) (HR.out _ BF.out)).mono ?_
      rintro e U1 ⟨⟨a1, n1, rfl, own⟩, b⟩
      have OW := Lib.hid (own.mono BF.out.size)
      clear own
      replace BF := Lib.hid (BF.out.trans (b.mono BF.out.size))
      replace XF := Lib.hid (qblk b XF.out)
      replace XC := Lib.hid (qblk b XC.out)
      replace XZ := Lib.hid (qblk b XZ.out)
      clear b
      try dsimp only
      refine yK hK ?_
      clear hK K
      refine yR (fun K hK => ?_)
      refine qbuild (w' := U1.alloc (.cells #[.int .i64 0, .int .i64 0, .int .i64 0, .slice none 0 0] 28)) (.pointer (some ⟨U1.heap.size, 0, none⟩)) (by kernel_rfl) ?_
      obtain ⟨x9, hx9⟩ : ∃ x, Hid (U1.heap.size = x) := ⟨_, Lib.hid rfl⟩
      have AL := Lib.hid (al1 U1 (.cells #[.int .i64 0, .int .i64 0, .int .i64 0, .slice none 0 0] 28))
      rw [hx9.out] at AL ⊢
      refine yK hK ?_
      clear hK K
      refine yR (fun K hK => ?_)
      refine qstore 28 _ _ rfl x9 #[.int .i64 0, .int .i64 0, .int .i64 0, .slice none 0 0] (f.cells a1 n1) 28 rfl rfl AL.out.2 (by exact qJF f a1 n1) rfl (qone f a1 n1) ?_
      intro U2 h8 hg8 hs8
      have b : Below U1.heap.size U1 U2 := qstep (by have h1 := AL.out.1; rw [← hx9.out] at h1; exact h1) hg8 (Nat.le_of_eq hx9.out)
      replace BF := Lib.hid (BF.out.trans (b.mono BF.out.size))
      replace OW := Lib.hid (OW.out.below b)
      replace XF := Lib.hid (qblk b XF.out)
      replace XC := Lib.hid (qblk b XC.out)
      replace XZ := Lib.hid (qblk b XZ.out)
      clear b
      have Xx9 := Lib.hid h8
      clear h8 hg8 hs8 AL
      refine yK hK ?_
      clear hK K
      refine yE ?_
      obtain ⟨i, hi⟩ : ∃ i, Hid ((indexF f c.1 c.2).toNat = i) := ⟨_, Lib.hid rfl⟩
      have HI : Hid (indexF f c.1 c.2 = (i : Int)) := Lib.hid (by have := IL.out; have := hi.out; omega)
      have HL : Hid (i < f.kinds.length) := Lib.hid (by have := IL.out; have := hi.out; omega)
      obtain ⟨gb, hg⟩ := OW.out.at HL.out
      subst hg
      have hlt : i < f.kinds.length := HL.out
      go_upto_region 7 with fail
      have hd : Below U2.heap.size U2 U2.drew := (Below.refl _ _).drew
      replace BF := Lib.hid (BF.out.trans (hd.mono BF.out.size))
      replace OW := Lib.hid (OW.out.below hd)
      replace XF := Lib.hid (qblk hd XF.out)
      replace XC := Lib.hid (qblk hd XC.out)
      replace XZ := Lib.hid (qblk hd XZ.out)
      replace Xx9 := Lib.hid (qblk hd Xx9.out)
      clear hd
      refine bD 7 (fun W => Below U2.drew.heap.size U2.drew W) (Below.refl _ _) (fun hHeld => ?_)
      have BV := Lib.hid hHeld
      generalize U2.drew = V7 at *
      refine bW 0 rfl (.pointer (some ⟨x9, 3, none⟩)) ?_
      refine bS 1 rfl (.slice (some ⟨gb, 0, none⟩) f.kinds.length n1) (fun W hW => by have c := qcell (qblk hW Xx9.out) 3 (.slice (some ⟨gb, 0, none⟩) f.kinds.length n1) rfl; go_simp) ?_
      refine bW 2 rfl (.agg (f.cells a n)) (hy := qyrow (by kernel_rfl) 28 _ rfl p rfl _ 28 (0, 0) _ (fun W hW => qblk hW XF.out) Tryz.underlying28 rfl (by exact (qJF f a n))) ?_
      refine bW 3 rfl (.agg (cellA c)) (hy := qyrow (by kernel_rfl) 41 _ rfl q rfl _ 41 (0, 0) _ (fun W hW => qblk hW XC.out) Tryz.underlying41 rfl (by exact (qJC c))) ?_
      refine bW 5 rfl (.int .i64 k) ?_
      refine bR 4 rfl (fun K hK => ?_)
      go_simp
      refine (rnum_any f a n c _ ZK.out.1 ZK.out.2).mono ?_
      rintro e Z1 ⟨rfl, b⟩
      rw [HI.out]
      have BV2 := Lib.hid (BV.out.trans (b.mono BV.out.size))
      clear b BV
      have BV := BV2
      clear BV2
      try dsimp only
      refine bK hK BV.out (fun hHeld => ?_)
      clear hK K
      refine bW 6 rfl (.pointer (some ⟨gb, i, none⟩)) ?_
      have bz := BV.out
      replace BF := Lib.hid (BF.out.trans (bz.mono BF.out.size))
      replace OW := Lib.hid (OW.out.below bz)
      replace XF := Lib.hid (qblk bz XF.out)
      replace XC := Lib.hid (qblk bz XC.out)
      replace XZ := Lib.hid (qblk bz XZ.out)
      replace Xx9 := Lib.hid (qblk bz Xx9.out)
      clear bz
      clear BV
      refine bL rfl (fun K hK => ?_)
      have OP := Lib.hid (OW.out.put HL.out k BF.out.size)
      have cc := OP.out.2.1
      have cf := OP.out.2.2.1
      go_simp
      refine hK.out _ _ ?_
      clear hK K cc cf hHeld
      replace BF := Lib.hid (OP.out.2.2.2.2 w BF.out)
      replace XF := Lib.hid (OP.out.2.2.2.1 _ _ XF.out (by simp))
      replace XC := Lib.hid (OP.out.2.2.2.1 _ _ XC.out (by simp))
      replace XZ := Lib.hid (OP.out.2.2.2.1 _ _ XZ.out (by simp))
      replace Xx9 := Lib.hid (OP.out.2.2.2.1 _ _ Xx9.out (by simp))
      replace OW := Lib.hid OP.out.1
      clear OP
      generalize Z1.setCell ⟨gb, i, none⟩ (.int .i64 k) = X5 at *
      refine bE ?_
      go_wp2_with (first
        | (refine wpList_load_row rfl 28 _ rfl x9 rfl 28 (f.cells (some ⟨gb, 0, none⟩) n1) (0, 0) _ Xx9.out Tryz.underlying28 rfl (by exact qJF f (some ⟨gb, 0, none⟩) n1) ?_)
        | (refine wpList_qstore rfl 28 _ _ rfl z (zeroF.cells none 0) (f.cells (some ⟨gb, 0, none⟩) n1) 28 rfl rfl XZ.out (by exact qJF f (some ⟨gb, 0, none⟩) n1) rfl (qone f (some ⟨gb, 0, none⟩) n1) ?_; intro VZ hzz hgz; replace BF := Lib.hid (qstep BF.out hgz (by have h1 := hz.out; omega)); replace OW := Lib.hid (OW.out.kept hgz XZ.out (by decide)); replace XZ := Lib.hid hzz; clear hzz hgz)
        | fail)
      (try simp only [Exit.inBlock, Exit.then])
      refine bodyPost_ret (results_ct rfl _ VZ z 28 (f.cells (some ⟨gb, 0, none⟩) n1) (0, 0) _ rfl XZ.out Tryz.underlying28 rfl (by exact qJF f (some ⟨gb, 0, none⟩) n1)) rfl ?_
      unfold setF
      rw [if_pos HK.out, if_pos HB.out, hi.out]
      have LE : (f.kinds.set i k).length = f.kinds.length := List.length_set ..
      refine ⟨some ⟨gb, 0, none⟩, n1, ?_, ?_, BF.out⟩
      · show _ = Ending.returned (.tuple #[.agg (FaceV.cells { f with kinds := f.kinds.set i k } (some ⟨gb, 0, none⟩) n1), .int .i64 0])
        unfold FaceV.cells
        dsimp only
        rw [LE]
        rfl
      · show RdI VZ _ (f.kinds.set i k).length n1 (f.kinds.set i k)
        rw [LE]
        exact OW.out.rd
  · have HK : Hid (askedF f c ≠ 0) := Lib.hid (by simpa using hk)
    have hk2 : (askedF f c != 0) = true := by simpa using hk
    clear hk
    go_wp2_with (first
      | (refine wpList_load_row rfl 28 _ rfl p rfl 28 (f.cells a n) (0, 0) _ XF.out Tryz.underlying28 rfl (by exact (qJF f a n)) ?_)
      | (refine wpList_load_row rfl 41 _ rfl q rfl 41 (cellA c) (0, 0) _ XC.out Tryz.underlying41 rfl (by exact (qJC c)) ?_)
      | (refine wpList_load_row rfl 28 _ rfl z rfl 28 (zeroF.cells none 0) (0, 0) _ XZ.out Tryz.underlying28 rfl (by exact (qJF zeroF none 0)) ?_)
      | (refine wpList_qstore rfl 28 _ _ rfl z (zeroF.cells none 0) (zeroF.cells none 0) 28 rfl rfl XZ.out (by exact (qJF zeroF none 0)) rfl (qone zeroF none 0) ?_; intro VZ hzz hgz; clear c0 c1 c2 c3 d0 d1; replace BF := Lib.hid (qstep BF.out hgz (by have h1 := hz.out; omega)); replace XF := Lib.hid (qgrown hgz XF.out (fun e => by have h1 := hp.out; have h2 := hz.out; have := Option.some.inj e; omega)); replace XC := Lib.hid (qgrown hgz XC.out (fun e => by have h1 := hq.out; have h2 := hz.out; have := Option.some.inj e; omega)); replace XZ := Lib.hid hzz; clear hzz hgz; have c0 := qcell XF.out 0 (.int .i64 f.eye) rfl; have c1 := qcell XF.out 1 (.int .i64 f.rings) rfl; have c2 := qcell XF.out 2 (.int .i64 f.sectors) rfl; have c3 := qcell XF.out 3 (.slice a f.kinds.length n) rfl; have d0 := qcell XC.out 0 (.int .i64 c.1) rfl; have d1 := qcell XC.out 1 (.int .i64 c.2) rfl)
      | fail)
    (try simp only [Exit.inBlock, Exit.then])
    refine bodyPost_ret (results_ct rfl _ VZ z 28 (zeroF.cells none 0) (0, 0) _ rfl XZ.out Tryz.underlying28 rfl (by exact (qJF zeroF none 0))) rfl ?_
    unfold setF
    rw [if_neg HK.out]
    exact ⟨none, 0, rfl, RdA.nil _ _, BF.out⟩
end Go.Proofs.YtimmadkbkimonaaGreatDoor
namespace Go.Proofs.YtimmadkbkimonaaGreatDoor
set_option linter.unusedSimpArgs false
set_option linter.unusedVariables false
open Go.RowKit

theorem RdC.below {w w' : World} {a : Option Addr} {n c : Nat} {l : List CellV} (h : RdC w a n c l) (hb : Below w.heap.size w w') : RdC w' a n c l := RdA.below h hb
theorem RdC.len {w : World} {a : Option Addr} {n c : Nat} {l : List CellV} (h : RdC w a n c l) : l.length = n := by have := RdA.len h; rw [cellsV_len] at this; omega
theorem RdC.get {w : World} {a : Option Addr} {n c : Nat} {l : List CellV} (h : RdC w a n c l) {k : Nat} {x : CellV} (hx : l[k]? = some x) : ∃ b off, a = some ⟨b, off, none⟩ ∧ w.cell? ⟨b, off + k * 2, none⟩ = some (.int .i64 x.1) ∧ w.cell? ⟨b, off + k * 2 + 1, none⟩ = some (.int .i64 x.2) := by
  have hl := (List.getElem?_eq_some_iff.1 hx).1
  have hn := h.len
  obtain ⟨b, off, rfl, h4⟩ := RdA.at h (by omega)
  refine ⟨b, off, rfl, h4 _ _ (cellsV_at l k x hx).1, ?_⟩
  rw [Nat.add_assoc]
  exact h4 _ _ (cellsV_at l k x hx).2
theorem rdc_at {W : World} {b off n c k : Nat} {l : List CellV} {x : CellV} (h : RdC W (some ⟨b, off, none⟩) n c l) (hx : l[k]? = some x) : W.cell? ⟨b, off + k * 2, none⟩ = some (.int .i64 x.1) ∧ W.cell? ⟨b, off + k * 2 + 1, none⟩ = some (.int .i64 x.2) := by
  obtain ⟨b2, o2, e, h2⟩ := h.get hx
  simp only [Option.some.injEq, Addr.mk.injEq, and_true] at e
  rw [e.1, e.2]
  exact h2
theorem qsizeC : (Tryz.prog.info? 41).map (·.size) = some 2 := by kernel_rfl
end Go.Proofs.YtimmadkbkimonaaGreatDoor
namespace Go.Proofs.YtimmadkbkimonaaGreatDoor
set_option linter.unusedSimpArgs false
set_option linter.unusedVariables false
open Go.RowKit

set_option maxHeartbeats 4000000 in
set_option maxRecDepth 100000 in
theorem rsameCells_any (a : Option Addr) (N c : Nat) (a' : Option Addr) (c' : Nat) (l : List CellV) (w : World) (hN : l.length = N) (hl : N ≤ 1000000) (hr : RdC w a N c l) (hr' : RdC w a' N c' l) :
    Calls Tryz.prog 28 #[.slice a N c, .slice a' N c'] w fun e w' => e = .returned (.bool true) ∧ Below w.heap.size w w' := by
  have HA := Lib.hid hr
  have HB := Lib.hid hr'
  have HN := Lib.hid hN
  have HL := Lib.hid hl
  clear hr hr' hN hl
  have BF := Lib.hid (Below.refl w.heap.size w)
  go_enter Tryz.func28, Tryz.ntmps28
  have t0 : ((N : Int) != (N : Int)) = false := by simp
  go_wp2_with fail
  clear t0
  go_loopw [5] (fun v wr => ∃ k : Nat, v = .int .i64 (k : Int) ∧ k ≤ N ∧ Hid (Below w.heap.size w wr)) (fun v _ => N - (intOf v).toNat)
  case atStart => exact ⟨0, rfl, Nat.zero_le _, BF⟩
  case round =>
    clear BF
    obtain ⟨k, rfl, hk, BF⟩ := hrel
    by_cases hkn : k < N
    · have t0 : decide ((k : Int) < (N : Int)) = true := by simp; omega
      have HK64 : Hid ((k : Int) + 1 ≤ 9223372036854775807) := Lib.hid (by have := HL.out; omega)
      obtain ⟨x, hx⟩ : ∃ x, l[k]? = some x := ⟨_, List.getElem?_eq_getElem (by rw [HN.out]; exact hkn)⟩
      have HX := Lib.hid hx
      obtain ⟨gb, go, ha, _⟩ := HA.out.get hx
      obtain ⟨gd, gp, ha', _⟩ := HB.out.get hx
      subst ha ha'
      clear hx
      obtain ⟨m, hm⟩ : ∃ m, Hid (go + k * 2 = m) := ⟨_, Lib.hid rfl⟩
      obtain ⟨m', hm'⟩ : ∃ m, Hid (gp + k * 2 = m) := ⟨_, Lib.hid rfl⟩
      have hi := fun W => qidx (W := W) (c := c) (b := gb) Tryz.underlying44 qsizeC hkn hm.out
      have hi' := fun W => qidx (W := W) (c := c') (b := gd) Tryz.underlying44 qsizeC hkn hm'.out
      have RA := Lib.hid (HA.out.below BF.out)
      have RB := Lib.hid (HB.out.below BF.out)
      go_upto_region 6 with fail
      clear t0
      have hd : Below wr.heap.size wr wr.drew := (Below.refl _ _).drew
      replace BF := Lib.hid (BF.out.trans (hd.mono BF.out.size))
      replace RA := Lib.hid (RA.out.below hd)
      replace RB := Lib.hid (RB.out.below hd)
      clear hd
      refine zD (fun W => Below wr.drew.heap.size wr.drew W) (Below.refl _ _) (fun hHeld => ?_)
      have BV := Lib.hid hHeld
      generalize wr.drew = V1 at *
      refine zW 0 rfl (.slice (some ⟨gb, go, none⟩) N c) ?_
      refine zW 1 rfl (.int .i64 (k : Int)) ?_
      refine zW 2 rfl (.pointer (some ⟨gb, m, none⟩)) ?_
      refine zS 3 rfl (.agg (cellA x)) (fun W hW => by have c0 := (rdc_at (RA.out.below hW) HX.out).1; have c1 := (rdc_at (RA.out.below hW) HX.out).2; rw [hm.out] at c0 c1; go_simp; (try rfl)) ?_
      refine zW 4 rfl (.slice (some ⟨gd, gp, none⟩) N c') ?_
      refine zW 5 rfl (.int .i64 (k : Int)) ?_
      refine zW 6 rfl (.pointer (some ⟨gd, m', none⟩)) ?_
      refine zS 7 rfl (.agg (cellA x)) (fun W hW => by have c0 := (rdc_at (RB.out.below hW) HX.out).1; have c1 := (rdc_at (RB.out.below hW) HX.out).2; rw [hm'.out] at c0 c1; go_simp; (try rfl)) ?_
      refine zW 8 rfl (.bool false) (hy := .inl ⟨by kernel_rfl, by intro W hW; (try rw [hW]); unfold cellA; go_simp; (try simp)⟩) ?_
      refine zE ?_
      have bz := BV.out
      replace BF := Lib.hid (BF.out.trans (bz.mono BF.out.size))
      replace RA := Lib.hid (RA.out.below bz)
      replace RB := Lib.hid (RB.out.below bz)
      clear bz
      clear BV
      go_upto_region 5 with fail
      clear hi hi'
      have hk64 := HK64.out
      go_wp2_with fail
      go_roundw
      case rel => exact ⟨k + 1, by simp, by omega, BF⟩
      case measure => simp [intOf]; omega
    · have t0 : decide ((k : Int) < (N : Int)) = false := by simp; omega
      go_wp2_with fail
      go_ret
      exact ⟨rfl, BF.out⟩
end Go.Proofs.YtimmadkbkimonaaGreatDoor
namespace Go.Proofs.YtimmadkbkimonaaGreatDoor
set_option linter.unusedSimpArgs false
set_option linter.unusedVariables false
open Go.RowKit

set_option maxHeartbeats 4000000 in
set_option maxRecDepth 100000 in
theorem rcellsP_any (f : FaceV) (a : Option Addr) (n : Nat) (K : Int) (w : World) (hr : RdI w a f.kinds.length n f.kinds) :
    Calls Tryz.prog 62 #[.agg (f.cells a n), .int .i64 K] w fun e w' => ∃ oa oc, e = .returned (.tuple #[.slice oa (cellsP f K).1.length oc, .int .i64 (cellsP f K).2]) ∧ w'.ownsRow w.heap.size 41 2 (.slice oa (cellsP f K).1.length oc) (cellsP f K).1.length (cellsV (cellsP f K).1) ∧ Below w.heap.size w w' := by
  have AV := Lib.hid (fun W (hb : Below w.heap.size w W) => rvalid_any f a n W (hr.below hb))
  have HR := Lib.hid (fun W (hb : Below w.heap.size w W) => hr.below hb)
  clear hr
  have AL := Lib.hid (al1 w (.cells (f.cells a n) 28))
  go_enter Tryz.func62, Tryz.ntmps62
  go_upto_region 1 with fail
  obtain ⟨p, hp⟩ : ∃ p, Hid (w.heap.size = p) := ⟨_, Lib.hid rfl⟩
  rw [hp.out] at AL ⊢
  generalize (w.alloc (.cells (f.cells a n) 28)) = W0 at *
  have BF : Hid (Below w.heap.size w W0) := Lib.hid (by rw [hp.out]; exact AL.out.1)
  have XF : Hid (W0.heap[p]? = some (.cells (f.cells a n) 28 (0, 0))) := Lib.hid AL.out.2
  clear AL
  have c0 := qcell XF.out 0 (.int .i64 f.eye) rfl
  have c1 := qcell XF.out 1 (.int .i64 f.rings) rfl
  have c2 := qcell XF.out 2 (.int .i64 f.sectors) rfl
  have c3 := qcell XF.out 3 (.slice a f.kinds.length n) rfl
  go_wp2_with (first
    | (refine wpList_load_row rfl 28 _ rfl p rfl 28 (f.cells a n) (0, 0) _ XF.out Tryz.underlying28 rfl (by exact (qJF f a n)) ?_)
    | fail)
  refine (AV.out W0 BF.out).mono ?_
  rintro e V1 ⟨rfl, b⟩
  clear c0 c1 c2 c3
  replace BF := Lib.hid (BF.out.trans (b.mono BF.out.size))
  replace XF := Lib.hid (qblk b XF.out)
  clear b
  have c0 := qcell XF.out 0 (.int .i64 f.eye) rfl
  have c1 := qcell XF.out 1 (.int .i64 f.rings) rfl
  have c2 := qcell XF.out 2 (.int .i64 f.sectors) rfl
  have c3 := qcell XF.out 3 (.slice a f.kinds.length n) rfl
  cases hv : f.valid
  · go_wp2_with (first
      | (refine wpList_load_row rfl 28 _ rfl p rfl 28 (f.cells a n) (0, 0) _ XF.out Tryz.underlying28 rfl (by exact (qJF f a n)) ?_)
      | fail)
    go_ret2
    unfold cellsP
    rw [if_pos hv]
    exact ⟨none, 0, rfl, World.ownsRow_nil _ _ _ _, BF.out⟩
  · have IV := Lib.hid (FaceV.int hv)
    have LL := Lib.hid (FaceV.len_le hv)
    go_wp2_with (first
      | (refine wpList_load_row rfl 28 _ rfl p rfl 28 (f.cells a n) (0, 0) _ XF.out Tryz.underlying28 rfl (by exact (qJF f a n)) ?_)
      | fail)
    refine (rwithin_any K 0 2 V1).mono ?_
    rintro e V2 ⟨rfl, rfl⟩
    rw [show inB K 0 2 = kindB K from rfl]
    cases hb : kindB K
    · go_wp2_with (first
        | (refine wpList_load_row rfl 28 _ rfl p rfl 28 (f.cells a n) (0, 0) _ XF.out Tryz.underlying28 rfl (by exact (qJF f a n)) ?_)
        | fail)
      go_ret2
      unfold cellsP
      rw [if_neg (by rw [hv]; decide), if_pos hb]
      exact ⟨none, 0, rfl, World.ownsRow_nil _ _ _ _, BF.out⟩
    · have HB := Lib.hid hb
      have HV := Lib.hid hv
      clear hb hv
      go_wp2_with (first
        | (refine wpList_load_row rfl 28 _ rfl p rfl 28 (f.cells a n) (0, 0) _ XF.out Tryz.underlying28 rfl (by exact (qJF f a n)) ?_)
        | fail)
      clear c0 c1 c2 c3
      go_loopw [6, 7] (fun o i wr => ∃ (k : Nat) (oa : Option Addr) (oc : Nat), i = .int .i64 k ∧ o = .slice oa (cellsF f K k).length oc ∧ k ≤ f.kinds.length ∧ Hid (wr.ownsRow w.heap.size 41 2 (.slice oa (cellsF f K k).length oc) (cellsF f K k).length (cellsV (cellsF f K k))) ∧ Hid (Below w.heap.size w wr) ∧ Hid (wr.heap[p]? = some (.cells (f.cells a n) 28 (0, 0)))) (fun _ i _ => f.kinds.length - (intOf i).toNat)
      case atStart => exact ⟨0, none, 0, rfl, rfl, Nat.zero_le _, Lib.hid (World.ownsRow_nil _ _ _ _), BF, XF⟩
      case round =>
        clear BF XF
        obtain ⟨k, oa, oc, rfl, rfl, hk, OW, BF, XF⟩ := hrel
        by_cases hkn : k < f.kinds.length
        · have t0 : decide ((k : Int) < (f.kinds.length : Int)) = true := by simp; omega
          obtain ⟨b, off, rfl, hx⟩ := (HR.out _ BF.out).get (FaceV.kat_at hkn)
          have hk64 : (k : Int) + 1 ≤ 9223372036854775807 := by have := LL.out; omega
          have HL := Lib.hid (cellsF_len f K k)
          obtain ⟨y, hy⟩ : ∃ y, Hid (f.kat k = y) := ⟨_, Lib.hid rfl⟩
          rw [hy.out] at hx
          have c0 := qcell XF.out 0 (.int .i64 f.eye) rfl
          have c1 := qcell XF.out 1 (.int .i64 f.rings) rfl
          have c2 := qcell XF.out 2 (.int .i64 f.sectors) rfl
          have c3 := qcell XF.out 3 (.slice (some ⟨b, off, none⟩) f.kinds.length n) rfl
          cases he : decide (y = K)
          · have he2 : (y == K) = false := by simpa using he
            go_wp2_with (first
              | (refine wpList_load_row rfl 28 _ rfl p rfl 28 (f.cells (some ⟨b, off, none⟩) n) (0, 0) _ XF.out Tryz.underlying28 rfl (by exact (qJF f (some ⟨b, off, none⟩) n)) ?_)
              | fail)
            go_roundw
            case rel =>
              have e : cellsF f K (k + 1) = cellsF f K k := by rw [cellsF_succ, hy.out, if_neg (by simpa using he), List.append_nil]
              refine ⟨k + 1, oa, oc, by simp, by rw [e], by omega, ?_, BF, XF⟩
              rw [e]
              exact OW
            case measure => simp [intOf]; omega
          · have he2 : (y == K) = true := by simpa using he
            have HLL : Hid ((cellsF f K k).length + 1 ≤ 2305) := Lib.hid (by have := HL.out; have := LL.out; omega)
            go_wp2_with (first
              | (refine wpList_load_row rfl 28 _ rfl p rfl 28 (f.cells (some ⟨b, off, none⟩) n) (0, 0) _ XF.out Tryz.underlying28 rfl (by exact (qJF f (some ⟨b, off, none⟩) n)) ?_)
              | fail)
            refine (rplace_any f (some ⟨b, off, none⟩) n k wr (by have := IV.out; omega) (by have := LL.out; omega)).mono ?_
            rintro e V3 ⟨rfl, b2⟩
            replace OW := Lib.hid (own_below OW.out b2)
            clear hx
            have HK64 := Lib.hid hk64
            clear hk64
            clear c0 c1 c2 c3
            replace BF := Lib.hid (BF.out.trans (b2.mono BF.out.size))
            replace XF := Lib.hid (qblk b2 XF.out)
            clear b2
            have c0 := qcell XF.out 0 (.int .i64 f.eye) rfl
            have c1 := qcell XF.out 1 (.int .i64 f.rings) rfl
            have c2 := qcell XF.out 2 (.int .i64 f.sectors) rfl
            have c3 := qcell XF.out 3 (.slice (some ⟨b, off, none⟩) f.kinds.length n) rfl
            go_upto_region 8 with (first
              | (refine wpList_load_row rfl 28 _ rfl p rfl 28 (f.cells (some ⟨b, off, none⟩) n) (0, 0) _ XF.out Tryz.underlying28 rfl (by exact (qJF f (some ⟨b, off, none⟩) n)) ?_)
              | (at_builtin; refine appq_cells _ rfl _ _ rfl w.heap.size _ _ _ (cellsF f K k) rfl (own_below OW.out (zB V3 _)) _ _ _ [cellF f k] rfl (lit_cell V3 (cellF f k)) (by have := HLL.out; omega) (Nat.le_trans BF.out.size (zB V3 _).size) ?_; intro oa2 oc2 V4 h1 h2 h3; clear c0 c1 c2 c3; replace BF := Lib.hid (h3 _ (BF.out.trans ((zB V3 _).mono BF.out.size))); replace XF := Lib.hid (h2 _ _ (qblk (zB V3 _) XF.out) (by simp)); replace OW := Lib.hid h1; clear h1 h2 h3; have c0 := qcell XF.out 0 (.int .i64 f.eye) rfl; have c1 := qcell XF.out 1 (.int .i64 f.rings) rfl; have c2 := qcell XF.out 2 (.int .i64 f.sectors) rfl; have c3 := qcell XF.out 3 (.slice (some ⟨b, off, none⟩) f.kinds.length n) rfl)
              | fail)
            have hk64 := HK64.out
            go_wp2_with (first
              | (refine wpList_load_row rfl 28 _ rfl p rfl 28 (f.cells (some ⟨b, off, none⟩) n) (0, 0) _ XF.out Tryz.underlying28 rfl (by exact (qJF f (some ⟨b, off, none⟩) n)) ?_)
              | fail)
            go_roundw
            case rel =>
              have e : cellsF f K (k + 1) = cellsF f K k ++ [cellF f k] := by rw [cellsF_succ, hy.out, if_pos (by simpa using he)]
              refine ⟨k + 1, oa2, oc2, by simp, by rw [e, List.length_append]; rfl, by omega, ?_, BF, XF⟩
              rw [e, List.length_append]
              exact OW
            case measure => simp [intOf]; omega
        · have t0 : decide ((k : Int) < (f.kinds.length : Int)) = false := by simp; omega
          have e : k = f.kinds.length := by omega
          subst e
          have c0 := qcell XF.out 0 (.int .i64 f.eye) rfl
          have c1 := qcell XF.out 1 (.int .i64 f.rings) rfl
          have c2 := qcell XF.out 2 (.int .i64 f.sectors) rfl
          have c3 := qcell XF.out 3 (.slice a f.kinds.length n) rfl
          go_wp2_with (first
            | (refine wpList_load_row rfl 28 _ rfl p rfl 28 (f.cells a n) (0, 0) _ XF.out Tryz.underlying28 rfl (by exact (qJF f a n)) ?_)
            | fail)
          go_ret2
          unfold cellsP
          rw [if_neg (by rw [HV.out]; decide), if_neg (by rw [HB.out]; decide)]
          exact ⟨oa, oc, rfl, OW.out, BF.out⟩
end Go.Proofs.YtimmadkbkimonaaGreatDoor
namespace Go.Proofs.YtimmadkbkimonaaGreatDoor
structure LookV where
  cell : CellV
  idx : Int
  kind : Int
  n : Int
def lookA (x : LookV) : Array Value := #[.int .i64 x.cell.1, .int .i64 x.cell.2, .int .i64 x.idx, .int .i64 x.kind, .int .i64 x.n]
end Go.Proofs.YtimmadkbkimonaaGreatDoor
namespace Go.Proofs.YtimmadkbkimonaaGreatDoor
set_option linter.unusedSimpArgs false
set_option linter.unusedVariables false
open Go.RowKit

set_option maxHeartbeats 4000000 in
set_option maxRecDepth 100000 in
theorem cells_any (f g : FaceV) (a b : Option Addr) (n m : Nat) (x : LookV) (w : World) (he : EnvW w) (hr : RdI w a f.kinds.length n f.kinds) (hg : RdI w b g.kinds.length m g.kinds) :
    Calls Tryz.prog 10 #[.agg (f.cells a n), .agg (g.cells b m), .agg (lookA x)] w fun e w' => e = .returned (.bool true) ∧ Below w.heap.size w w' := by
  have EV := Lib.hid (fun W (hb : Below w.heap.size w W) => he.below hb)
  have HR := Lib.hid hr
  have HG := Lib.hid hg
  clear he hr hg
  have AL := Lib.hid (al3 w (.cells (f.cells a n) 28) (.cells (g.cells b m) 28) (.cells (lookA x) 43))
  go_enter Tryz.func10, Tryz.ntmps10
  go_upto_region 1 with fail
  obtain ⟨p, hp⟩ : ∃ p, Hid (w.heap.size = p) := ⟨_, Lib.hid rfl⟩
  obtain ⟨q, hq⟩ : ∃ q, Hid (w.heap.size + 1 = q) := ⟨_, Lib.hid rfl⟩
  obtain ⟨u, hu⟩ : ∃ u, Hid (w.heap.size + 2 = u) := ⟨_, Lib.hid rfl⟩
  rw [hu.out] at AL ⊢
  rw [hq.out] at AL ⊢
  rw [hp.out] at AL ⊢
  generalize (((w.alloc (.cells (f.cells a n) 28)).alloc (.cells (g.cells b m) 28)).alloc (.cells (lookA x) 43)) = W0 at *
  have BF : Hid (Below w.heap.size w W0) := Lib.hid (by rw [hp.out]; exact AL.out.1)
  have XF : Hid (W0.heap[p]? = some (.cells (f.cells a n) 28 (0, 0))) := Lib.hid AL.out.2.1
  have XG : Hid (W0.heap[q]? = some (.cells (g.cells b m) 28 (0, 0))) := Lib.hid AL.out.2.2.1
  have XL : Hid (W0.heap[u]? = some (.cells (lookA x) 43 (0, 0))) := Lib.hid AL.out.2.2.2
  clear AL
  have c0 := qcell XF.out 0 (.int .i64 f.eye) rfl
  have c1 := qcell XF.out 1 (.int .i64 f.rings) rfl
  have c2 := qcell XF.out 2 (.int .i64 f.sectors) rfl
  have c3 := qcell XF.out 3 (.slice a f.kinds.length n) rfl
  have d0 := qcell XG.out 0 (.int .i64 g.eye) rfl
  have d1 := qcell XG.out 1 (.int .i64 g.rings) rfl
  have d2 := qcell XG.out 2 (.int .i64 g.sectors) rfl
  have d3 := qcell XG.out 3 (.slice b g.kinds.length m) rfl
  clear c0 c1 c2 c3 d0 d1 d2 d3
  replace HR := Lib.hid (HR.out.below BF.out)
  replace HG := Lib.hid (HG.out.below BF.out)
  go_upto_region 1 with fail
  refine yB ?_
  refine yR (fun K hK => ?_)
  go_simp
  refine (awake_any _ (EV.out _ BF.out)).mono ?_
  rintro e U1 ⟨rfl, b⟩
  replace BF := Lib.hid (BF.out.trans (b.mono BF.out.size))
  replace HR := Lib.hid (HR.out.below b)
  replace HG := Lib.hid (HG.out.below b)
  replace XF := Lib.hid (qblk b XF.out)
  replace XG := Lib.hid (qblk b XG.out)
  replace XL := Lib.hid (qblk b XL.out)
  clear b
  try dsimp only
  refine yK hK ?_
  clear hK K
  refine yM (.bool true) ?_
  refine yE ?_
  go_upto_region 2 with fail
  refine yB ?_
  refine yW (.agg (f.cells a n)) ?_ (qyrow (by kernel_rfl) 28 _ rfl p rfl _ 28 (0, 0) _ (fun W hW => by rw [hW]; exact XF.out) Tryz.underlying28 rfl (by exact (qJF f a n)))
  refine yR (fun K hK => ?_)
  go_simp
  refine (short_any f a n _).mono ?_
  rintro e U2 ⟨rfl, b⟩
  replace BF := Lib.hid (BF.out.trans (b.mono BF.out.size))
  replace HR := Lib.hid (HR.out.below b)
  replace HG := Lib.hid (HG.out.below b)
  replace XF := Lib.hid (qblk b XF.out)
  replace XG := Lib.hid (qblk b XG.out)
  replace XL := Lib.hid (qblk b XL.out)
  clear b
  cases hf : decide (f.kinds.length ≤ 3000)
  · try dsimp only
    refine yK hK ?_
    clear hK K
    refine yM (.bool true) ?_
    refine yM (.bool true) ?_
    go_skip
    refine yM (.bool true) ?_
    refine yE ?_
    go_wp2_with fail
    go_ret
    exact ⟨rfl, BF.out⟩
  · try dsimp only
    refine yK hK ?_
    clear hK K
    refine yM (.bool false) ?_
    refine yM (.bool false) ?_
    refine yW (.agg (g.cells b m)) ?_ (qyrow (by kernel_rfl) 28 _ rfl q rfl _ 28 (0, 0) _ (fun W hW => by rw [hW]; exact XG.out) Tryz.underlying28 rfl (by exact (qJF g b m)))
    refine yR (fun K hK => ?_)
    go_simp
    refine (short_any g b m _).mono ?_
    rintro e U3 ⟨rfl, b⟩
    replace BF := Lib.hid (BF.out.trans (b.mono BF.out.size))
    replace HR := Lib.hid (HR.out.below b)
    replace HG := Lib.hid (HG.out.below b)
    replace XF := Lib.hid (qblk b XF.out)
    replace XG := Lib.hid (qblk b XG.out)
    replace XL := Lib.hid (qblk b XL.out)
    clear b
    cases hg : decide (g.kinds.length ≤ 3000)
    · try dsimp only
      refine yK hK ?_
      clear hK K
      refine yM (.bool true) ?_
      refine yM (.bool true) ?_
      refine yE ?_
      go_wp2_with fail
      go_ret
      exact ⟨rfl, BF.out⟩
    · try dsimp only
      refine yK hK ?_
      clear hK K
      refine yM (.bool false) ?_
      refine yM (.bool false) ?_
      refine yE ?_
      obtain ⟨A, hA⟩ : ∃ z, Hid ((atF f x.cell).1 = z) := ⟨_, Lib.hid rfl⟩
      obtain ⟨EA, hEA⟩ : ∃ z, Hid ((atF f x.cell).2 = z) := ⟨_, Lib.hid rfl⟩
      obtain ⟨D, hD⟩ : ∃ z, Hid ((setF f x.cell x.kind).1 = z) := ⟨_, Lib.hid rfl⟩
      obtain ⟨ED, hED⟩ : ∃ z, Hid ((setF f x.cell x.kind).2 = z) := ⟨_, Lib.hid rfl⟩
      obtain ⟨VF, hVF⟩ : ∃ z, Hid (f.valid = z) := ⟨_, Lib.hid rfl⟩
      obtain ⟨SG, hSG⟩ : ∃ z, Hid (sameF f g = z) := ⟨_, Lib.hid rfl⟩
      obtain ⟨I, hI⟩ : ∃ z, Hid ((indexP f x.cell).1 = z) := ⟨_, Lib.hid rfl⟩
      obtain ⟨EI, hEI⟩ : ∃ z, Hid ((indexP f x.cell).2 = z) := ⟨_, Lib.hid rfl⟩
      obtain ⟨C, hC⟩ : ∃ z, Hid ((cellP f x.idx).1 = z) := ⟨_, Lib.hid rfl⟩
      obtain ⟨EC, hEC⟩ : ∃ z, Hid ((cellP f x.idx).2 = z) := ⟨_, Lib.hid rfl⟩
      obtain ⟨LC, hLC⟩ : ∃ z, Hid ((cellsP f x.kind).1 = z) := ⟨_, Lib.hid rfl⟩
      obtain ⟨EL, hEL⟩ : ∃ z, Hid ((cellsP f x.kind).2 = z) := ⟨_, Lib.hid rfl⟩
      obtain ⟨NL, hNL⟩ : ∃ z, Hid (LC.length = z) := ⟨_, Lib.hid rfl⟩
      have LLC : Hid (NL ≤ 1000000) := Lib.hid (by
        rw [← hNL.out, ← hLC.out]
        unfold cellsP
        by_cases hv : f.valid = true
        · rw [if_neg (by rw [hv]; decide)]
          split
          · simp
          · have h1 := cellsF_len f x.kind f.kinds.length
            have h2 := FaceV.len_le hv
            dsimp only
            omega
        · rw [if_pos (by simpa using hv)]
          simp)
      go_upto_region 4 with fail
      refine yB ?_
      refine yW (.agg (f.cells a n)) ?_ (qyrow (by kernel_rfl) 28 _ rfl p rfl _ 28 (0, 0) _ (fun W hW => by rw [hW]; exact XF.out) Tryz.underlying28 rfl (by exact (qJF f a n)))
      refine yW (.pointer (some ⟨u, 0, none⟩)) ?_
      refine yW (.agg (cellA x.cell)) ?_ (.inl ⟨by kernel_rfl, by intro W hW; rw [hW]; have c0 := qcell XL.out 0 (.int .i64 x.cell.1) rfl; have c1 := qcell XL.out 1 (.int .i64 x.cell.2) rfl; go_simp; (try rfl)⟩)
      refine yR (fun K hK => ?_)
      go_simp
      refine (atP_any f a n x.cell _ HR.out).mono ?_
      rintro e U4 ⟨rfl, b⟩
      replace BF := Lib.hid (BF.out.trans (b.mono BF.out.size))
      replace HR := Lib.hid (HR.out.below b)
      replace HG := Lib.hid (HG.out.below b)
      replace XF := Lib.hid (qblk b XF.out)
      replace XG := Lib.hid (qblk b XG.out)
      replace XL := Lib.hid (qblk b XL.out)
      clear b
      rw [hA.out, hEA.out]
      try dsimp only
      refine yK hK ?_
      clear hK K
      refine yM (.tuple #[.int .i64 A, .int .i64 EA]) ?_
      refine yM (.int .i64 A) ?_
      refine yM (.int .i64 EA) ?_
      refine yM (.int .i64 A) ?_
      refine yM (.int .i64 EA) ?_
      refine yE ?_
      go_upto_region 5 with fail
      refine yB ?_
      refine yW (.agg (f.cells a n)) ?_ (qyrow (by kernel_rfl) 28 _ rfl p rfl _ 28 (0, 0) _ (fun W hW => by rw [hW]; exact XF.out) Tryz.underlying28 rfl (by exact (qJF f a n)))
      refine yW (.pointer (some ⟨u, 0, none⟩)) ?_
      refine yW (.agg (cellA x.cell)) ?_ (.inl ⟨by kernel_rfl, by intro W hW; rw [hW]; have c0 := qcell XL.out 0 (.int .i64 x.cell.1) rfl; have c1 := qcell XL.out 1 (.int .i64 x.cell.2) rfl; go_simp; (try rfl)⟩)
      refine yR (fun K hK => ?_)
      go_simp
      refine (ratP_any f a n x.cell _ HR.out).mono ?_
      rintro e U5 ⟨rfl, b⟩
      replace BF := Lib.hid (BF.out.trans (b.mono BF.out.size))
      replace HR := Lib.hid (HR.out.below b)
      replace HG := Lib.hid (HG.out.below b)
      replace XF := Lib.hid (qblk b XF.out)
      replace XG := Lib.hid (qblk b XG.out)
      replace XL := Lib.hid (qblk b XL.out)
      clear b
      rw [hA.out, hEA.out]
      try dsimp only
      refine yK hK ?_
      clear hK K
      refine yM (.tuple #[.int .i64 A, .int .i64 EA]) ?_
      refine yM (.int .i64 A) ?_
      refine yM (.int .i64 EA) ?_
      refine yM (.int .i64 A) ?_
      refine yM (.int .i64 EA) ?_
      refine yE ?_
      go_upto_region 6 with fail
      refine yB ?_
      refine yW (.agg (f.cells a n)) ?_ (qyrow (by kernel_rfl) 28 _ rfl p rfl _ 28 (0, 0) _ (fun W hW => by rw [hW]; exact XF.out) Tryz.underlying28 rfl (by exact (qJF f a n)))
      refine yW (.pointer (some ⟨u, 0, none⟩)) ?_
      refine yW (.agg (cellA x.cell)) ?_ (.inl ⟨by kernel_rfl, by intro W hW; rw [hW]; have c0 := qcell XL.out 0 (.int .i64 x.cell.1) rfl; have c1 := qcell XL.out 1 (.int .i64 x.cell.2) rfl; go_simp; (try rfl)⟩)
      refine yW (.pointer (some ⟨u, 3, none⟩)) ?_
      refine yW (.int .i64 x.kind) ?_ (.inl ⟨by kernel_rfl, by intro W hW; rw [hW]; have c := qcell XL.out 3 (.int .i64 x.kind) rfl; go_simp⟩)
      refine yR (fun K hK => ?_)
      go_simp
      refine (setF_any f a n x.cell x.kind _ HR.out).mono ?_
      rintro e U6 ⟨b1, m1, rfl, own, b⟩
      rw [hD.out] at own ⊢
      rw [hED.out]
      have R1 := Lib.hid own
      clear own
      replace BF := Lib.hid (BF.out.trans (b.mono BF.out.size))
      replace HR := Lib.hid (HR.out.below b)
      replace HG := Lib.hid (HG.out.below b)
      replace XF := Lib.hid (qblk b XF.out)
      replace XG := Lib.hid (qblk b XG.out)
      replace XL := Lib.hid (qblk b XL.out)
      clear b
      try dsimp only
      refine yK hK ?_
      clear hK K
      refine yM (.tuple #[.agg (D.cells b1 m1), .int .i64 ED]) ?_
      refine yM (.agg (D.cells b1 m1)) ?_
      refine yM (.int .i64 ED) ?_
      refine yR (fun K hK => ?_)
      refine qbuild (w' := U6.alloc (.cells #[.int .i64 0, .int .i64 0, .int .i64 0, .slice none 0 0] 28)) (.pointer (some ⟨U6.heap.size, 0, none⟩)) (by kernel_rfl) ?_
      obtain ⟨x12, hx12⟩ : ∃ x, Hid (U6.heap.size = x) := ⟨_, Lib.hid rfl⟩
      have AL := Lib.hid (al1 U6 (.cells #[.int .i64 0, .int .i64 0, .int .i64 0, .slice none 0 0] 28))
      rw [hx12.out] at AL ⊢
      refine yK hK ?_
      clear hK K
      refine yR (fun K hK => ?_)
      refine qstore 28 _ _ rfl x12 #[.int .i64 0, .int .i64 0, .int .i64 0, .slice none 0 0] (D.cells b1 m1) 28 rfl rfl AL.out.2 (by exact qJF D b1 m1) rfl (qone D b1 m1) ?_
      intro U7 h8 hg8 hs8
      have b : Below U6.heap.size U6 U7 := qstep (by have h1 := AL.out.1; rw [← hx12.out] at h1; exact h1) hg8 (Nat.le_of_eq hx12.out)
      replace BF := Lib.hid (BF.out.trans (b.mono BF.out.size))
      replace HR := Lib.hid (HR.out.below b)
      replace HG := Lib.hid (HG.out.below b)
      replace R1 := Lib.hid (R1.out.below b)
      replace XF := Lib.hid (qblk b XF.out)
      replace XG := Lib.hid (qblk b XG.out)
      replace XL := Lib.hid (qblk b XL.out)
      clear b
      have Xx12 := Lib.hid h8
      clear h8 hg8 hs8 AL
      refine yK hK ?_
      clear hK K
      refine yM (.int .i64 ED) ?_
      refine yE ?_
      go_upto_region 7 with fail
      refine yB ?_
      refine yW (.agg (f.cells a n)) ?_ (qyrow (by kernel_rfl) 28 _ rfl p rfl _ 28 (0, 0) _ (fun W hW => by rw [hW]; exact XF.out) Tryz.underlying28 rfl (by exact (qJF f a n)))
      refine yW (.pointer (some ⟨u, 0, none⟩)) ?_
      refine yW (.agg (cellA x.cell)) ?_ (.inl ⟨by kernel_rfl, by intro W hW; rw [hW]; have c0 := qcell XL.out 0 (.int .i64 x.cell.1) rfl; have c1 := qcell XL.out 1 (.int .i64 x.cell.2) rfl; go_simp; (try rfl)⟩)
      refine yW (.pointer (some ⟨u, 3, none⟩)) ?_
      refine yW (.int .i64 x.kind) ?_ (.inl ⟨by kernel_rfl, by intro W hW; rw [hW]; have c := qcell XL.out 3 (.int .i64 x.kind) rfl; go_simp⟩)
      refine yR (fun K hK => ?_)
      go_simp
      refine (rsetF_any f a n x.cell x.kind _ HR.out).mono ?_
      rintro e U8 ⟨b2, m2, rfl, own, b⟩
      rw [hD.out] at own ⊢
      rw [hED.out]
      have R2 := Lib.hid own
      clear own
      replace BF := Lib.hid (BF.out.trans (b.mono BF.out.size))
      replace HR := Lib.hid (HR.out.below b)
      replace HG := Lib.hid (HG.out.below b)
      replace R1 := Lib.hid (R1.out.below b)
      replace XF := Lib.hid (qblk b XF.out)
      replace XG := Lib.hid (qblk b XG.out)
      replace XL := Lib.hid (qblk b XL.out)
      replace Xx12 := Lib.hid (qblk b Xx12.out)
      clear b
      try dsimp only
      refine yK hK ?_
      clear hK K
      refine yM (.tuple #[.agg (D.cells b2 m2), .int .i64 ED]) ?_
      refine yM (.agg (D.cells b2 m2)) ?_
      refine yM (.int .i64 ED) ?_
      refine yR (fun K hK => ?_)
      refine qbuild (w' := U8.alloc (.cells #[.int .i64 0, .int .i64 0, .int .i64 0, .slice none 0 0] 28)) (.pointer (some ⟨U8.heap.size, 0, none⟩)) (by kernel_rfl) ?_
      obtain ⟨x14, hx14⟩ : ∃ x, Hid (U8.heap.size = x) := ⟨_, Lib.hid rfl⟩
      have AL := Lib.hid (al1 U8 (.cells #[.int .i64 0, .int .i64 0, .int .i64 0, .slice none 0 0] 28))
      rw [hx14.out] at AL ⊢
      refine yK hK ?_
      clear hK K
      refine yR (fun K hK => ?_)
      refine qstore 28 _ _ rfl x14 #[.int .i64 0, .int .i64 0, .int .i64 0, .slice none 0 0] (D.cells b2 m2) 28 rfl rfl AL.out.2 (by exact qJF D b2 m2) rfl (qone D b2 m2) ?_
      intro U9 h8 hg8 hs8
      have b : Below U8.heap.size U8 U9 := qstep (by have h1 := AL.out.1; rw [← hx14.out] at h1; exact h1) hg8 (Nat.le_of_eq hx14.out)
      replace BF := Lib.hid (BF.out.trans (b.mono BF.out.size))
      replace HR := Lib.hid (HR.out.below b)
      replace HG := Lib.hid (HG.out.below b)
      replace R1 := Lib.hid (R1.out.below b)
      replace R2 := Lib.hid (R2.out.below b)
      replace XF := Lib.hid (qblk b XF.out)
      replace XG := Lib.hid (qblk b XG.out)
      replace XL := Lib.hid (qblk b XL.out)
      replace Xx12 := Lib.hid (qblk b Xx12.out)
      clear b
      have Xx14 := Lib.hid h8
      clear h8 hg8 hs8 AL
      refine yK hK ?_
      clear hK K
      refine yM (.int .i64 ED) ?_
      refine yE ?_
      go_upto_region 8 with fail
      have hd : Below U9.heap.size U9 U9.drew := (Below.refl _ _).drew
      replace BF := Lib.hid (BF.out.trans (hd.mono BF.out.size))
      replace HR := Lib.hid (HR.out.below hd)
      replace HG := Lib.hid (HG.out.below hd)
      replace R1 := Lib.hid (R1.out.below hd)
      replace R2 := Lib.hid (R2.out.below hd)
      replace XF := Lib.hid (qblk hd XF.out)
      replace XG := Lib.hid (qblk hd XG.out)
      replace XL := Lib.hid (qblk hd XL.out)
      replace Xx12 := Lib.hid (qblk hd Xx12.out)
      replace Xx14 := Lib.hid (qblk hd Xx14.out)
      clear hd
      refine zD (fun W => Below U9.drew.heap.size U9.drew W) (Below.refl _ _) (fun hHeld => ?_)
      have BV := Lib.hid hHeld
      generalize U9.drew = Y1 at *
      refine zT 0 rfl (.agg (f.cells a n)) (qyrow (by kernel_rfl) 28 _ rfl p rfl _ 28 (0, 0) _ (fun W hW => qblk hW XF.out) Tryz.underlying28 rfl (by exact (qJF f a n))) ?_
      refine zT 2 rfl (.agg (f.cells a n)) (qyrow (by kernel_rfl) 28 _ rfl p rfl _ 28 (0, 0) _ (fun W hW => qblk hW XF.out) Tryz.underlying28 rfl (by exact (qJF f a n))) ?_
      refine zR 1 rfl (fun K hK => ?_)
      go_simp
      refine (valid2_any f a n _ (HR.out.below BV.out)).mono ?_
      rintro e Z2 ⟨rfl, b⟩
      rw [hVF.out]
      have BV2 := Lib.hid (BV.out.trans (b.mono BV.out.size))
      clear b BV
      have BV := BV2
      clear BV2
      try dsimp only
      refine zK hK BV.out (fun hHeld => ?_)
      clear hK K
      refine zR 3 rfl (fun K hK => ?_)
      go_simp
      refine (rvalid_any f a n _ (HR.out.below BV.out)).mono ?_
      rintro e Z3 ⟨rfl, b⟩
      rw [hVF.out]
      have BV2 := Lib.hid (BV.out.trans (b.mono BV.out.size))
      clear b BV
      have BV := BV2
      clear BV2
      try dsimp only
      refine zK hK BV.out (fun hHeld => ?_)
      clear hK K
      refine zW 4 rfl (.bool false) (hy := .inl ⟨by kernel_rfl, by intro W hW; (try rw [hW]); cases VF <;> rfl⟩) ?_
      refine zW 5 rfl (.bool false) ?_
      refine zT 6 rfl (.agg (f.cells a n)) (qyrow (by kernel_rfl) 28 _ rfl p rfl _ 28 (0, 0) _ (fun W hW => qblk hW XF.out) Tryz.underlying28 rfl (by exact (qJF f a n))) ?_
      refine zT 7 rfl (.agg (g.cells b m)) (qyrow (by kernel_rfl) 28 _ rfl q rfl _ 28 (0, 0) _ (fun W hW => qblk hW XG.out) Tryz.underlying28 rfl (by exact (qJF g b m))) ?_
      refine zT 9 rfl (.agg (f.cells a n)) (qyrow (by kernel_rfl) 28 _ rfl p rfl _ 28 (0, 0) _ (fun W hW => qblk hW XF.out) Tryz.underlying28 rfl (by exact (qJF f a n))) ?_
      refine zT 10 rfl (.agg (g.cells b m)) (qyrow (by kernel_rfl) 28 _ rfl q rfl _ 28 (0, 0) _ (fun W hW => qblk hW XG.out) Tryz.underlying28 rfl (by exact (qJF g b m))) ?_
      refine zR 8 rfl (fun K hK => ?_)
      go_simp
      refine (same_any f g a b n m _ (HR.out.below BV.out) (HG.out.below BV.out)).mono ?_
      rintro e Z4 ⟨rfl, b⟩
      rw [hSG.out]
      have BV2 := Lib.hid (BV.out.trans (b.mono BV.out.size))
      clear b BV
      have BV := BV2
      clear BV2
      try dsimp only
      refine zK hK BV.out (fun hHeld => ?_)
      clear hK K
      refine zR 11 rfl (fun K hK => ?_)
      go_simp
      refine (rsame_any f a n g b m _ (HR.out.below BV.out) (HG.out.below BV.out)).mono ?_
      rintro e Z5 ⟨rfl, b⟩
      rw [hSG.out]
      have BV2 := Lib.hid (BV.out.trans (b.mono BV.out.size))
      clear b BV
      have BV := BV2
      clear BV2
      try dsimp only
      refine zK hK BV.out (fun hHeld => ?_)
      clear hK K
      refine zW 12 rfl (.bool false) (hy := .inl ⟨by kernel_rfl, by intro W hW; (try rw [hW]); cases SG <;> rfl⟩) ?_
      refine zW 13 rfl (.bool false) ?_
      refine zW 14 rfl (.bool false) ?_
      refine zW 15 rfl (.int .i64 A) ?_
      refine zW 16 rfl (.int .i64 A) ?_
      refine zW 17 rfl (.bool false) (hy := .inl ⟨by kernel_rfl, by intro W hW; (try rw [hW]); go_simp; (try simp)⟩) ?_
      refine zW 18 rfl (.bool false) ?_
      refine zW 19 rfl (.bool false) ?_
      refine zW 20 rfl (.int .i64 EA) ?_
      refine zW 21 rfl (.int .i64 EA) ?_
      refine zW 22 rfl (.bool false) (hy := .inl ⟨by kernel_rfl, by intro W hW; (try rw [hW]); go_simp; (try simp)⟩) ?_
      refine zW 23 rfl (.bool false) ?_
      refine zW 24 rfl (.bool false) ?_
      refine zT 25 rfl (.agg (D.cells b1 m1)) (qyrow (by kernel_rfl) 28 _ rfl x12 rfl _ 28 (0, 0) _ (fun W hW => qblk hW Xx12.out) Tryz.underlying28 rfl (by exact (qJF D b1 m1))) ?_
      refine zT 26 rfl (.agg (D.cells b2 m2)) (qyrow (by kernel_rfl) 28 _ rfl x14 rfl _ 28 (0, 0) _ (fun W hW => qblk hW Xx14.out) Tryz.underlying28 rfl (by exact (qJF D b2 m2))) ?_
      refine zR 27 rfl (fun K hK => ?_)
      go_simp
      refine (rsame_any D b1 m1 D b2 m2 _ (R1.out.below BV.out) (R2.out.below BV.out)).mono ?_
      rintro e Z6 ⟨rfl, b⟩
      rw [show sameF D D = true from decide_eq_true rfl]
      have BV2 := Lib.hid (BV.out.trans (b.mono BV.out.size))
      clear b BV
      have BV := BV2
      clear BV2
      try dsimp only
      refine zK hK BV.out (fun hHeld => ?_)
      clear hK K
      refine zW 28 rfl (.bool false) ?_
      refine zW 29 rfl (.bool false) ?_
      refine zW 30 rfl (.bool false) ?_
      refine zW 31 rfl (.int .i64 ED) ?_
      refine zW 32 rfl (.int .i64 ED) ?_
      refine zW 33 rfl (.bool false) (hy := .inl ⟨by kernel_rfl, by intro W hW; (try rw [hW]); go_simp; (try simp)⟩) ?_
      refine zW 34 rfl (.bool false) ?_
      refine zE ?_
      have bz := BV.out
      replace BF := Lib.hid (BF.out.trans (bz.mono BF.out.size))
      replace HR := Lib.hid (HR.out.below bz)
      replace HG := Lib.hid (HG.out.below bz)
      replace R1 := Lib.hid (R1.out.below bz)
      replace R2 := Lib.hid (R2.out.below bz)
      replace XF := Lib.hid (qblk bz XF.out)
      replace XG := Lib.hid (qblk bz XG.out)
      replace XL := Lib.hid (qblk bz XL.out)
      replace Xx12 := Lib.hid (qblk bz Xx12.out)
      replace Xx14 := Lib.hid (qblk bz Xx14.out)
      clear bz
      clear BV
      go_upto_region 10 with fail
      refine yB ?_
      refine yW (.agg (f.cells a n)) ?_ (qyrow (by kernel_rfl) 28 _ rfl p rfl _ 28 (0, 0) _ (fun W hW => by rw [hW]; exact XF.out) Tryz.underlying28 rfl (by exact (qJF f a n)))
      refine yW (.pointer (some ⟨u, 0, none⟩)) ?_
      refine yW (.agg (cellA x.cell)) ?_ (.inl ⟨by kernel_rfl, by intro W hW; rw [hW]; have c0 := qcell XL.out 0 (.int .i64 x.cell.1) rfl; have c1 := qcell XL.out 1 (.int .i64 x.cell.2) rfl; go_simp; (try rfl)⟩)
      refine yR (fun K hK => ?_)
      go_simp
      refine (indexP_any f a n x.cell _ HR.out).mono ?_
      rintro e U10 ⟨rfl, b⟩
      replace BF := Lib.hid (BF.out.trans (b.mono BF.out.size))
      replace HR := Lib.hid (HR.out.below b)
      replace HG := Lib.hid (HG.out.below b)
      replace R1 := Lib.hid (R1.out.below b)
      replace R2 := Lib.hid (R2.out.below b)
      replace XF := Lib.hid (qblk b XF.out)
      replace XG := Lib.hid (qblk b XG.out)
      replace XL := Lib.hid (qblk b XL.out)
      replace Xx12 := Lib.hid (qblk b Xx12.out)
      replace Xx14 := Lib.hid (qblk b Xx14.out)
      clear b
      rw [hI.out, hEI.out]
      try dsimp only
      refine yK hK ?_
      clear hK K
      refine yM (.tuple #[.int .i64 I, .int .i64 EI]) ?_
      refine yM (.int .i64 I) ?_
      refine yM (.int .i64 EI) ?_
      refine yM (.int .i64 I) ?_
      refine yM (.int .i64 EI) ?_
      refine yE ?_
      go_upto_region 11 with fail
      refine yB ?_
      refine yW (.agg (f.cells a n)) ?_ (qyrow (by kernel_rfl) 28 _ rfl p rfl _ 28 (0, 0) _ (fun W hW => by rw [hW]; exact XF.out) Tryz.underlying28 rfl (by exact (qJF f a n)))
      refine yW (.pointer (some ⟨u, 0, none⟩)) ?_
      refine yW (.agg (cellA x.cell)) ?_ (.inl ⟨by kernel_rfl, by intro W hW; rw [hW]; have c0 := qcell XL.out 0 (.int .i64 x.cell.1) rfl; have c1 := qcell XL.out 1 (.int .i64 x.cell.2) rfl; go_simp; (try rfl)⟩)
      refine yR (fun K hK => ?_)
      go_simp
      refine (rindexP_any f a n x.cell _ HR.out).mono ?_
      rintro e U11 ⟨rfl, b⟩
      replace BF := Lib.hid (BF.out.trans (b.mono BF.out.size))
      replace HR := Lib.hid (HR.out.below b)
      replace HG := Lib.hid (HG.out.below b)
      replace R1 := Lib.hid (R1.out.below b)
      replace R2 := Lib.hid (R2.out.below b)
      replace XF := Lib.hid (qblk b XF.out)
      replace XG := Lib.hid (qblk b XG.out)
      replace XL := Lib.hid (qblk b XL.out)
      replace Xx12 := Lib.hid (qblk b Xx12.out)
      replace Xx14 := Lib.hid (qblk b Xx14.out)
      clear b
      rw [hI.out, hEI.out]
      try dsimp only
      refine yK hK ?_
      clear hK K
      refine yM (.tuple #[.int .i64 I, .int .i64 EI]) ?_
      refine yM (.int .i64 I) ?_
      refine yM (.int .i64 EI) ?_
      refine yM (.int .i64 I) ?_
      refine yM (.int .i64 EI) ?_
      refine yE ?_
      go_upto_region 12 with fail
      refine yB ?_
      refine yW (.agg (f.cells a n)) ?_ (qyrow (by kernel_rfl) 28 _ rfl p rfl _ 28 (0, 0) _ (fun W hW => by rw [hW]; exact XF.out) Tryz.underlying28 rfl (by exact (qJF f a n)))
      refine yW (.pointer (some ⟨u, 2, none⟩)) ?_
      refine yW (.int .i64 x.idx) ?_ (.inl ⟨by kernel_rfl, by intro W hW; rw [hW]; have c := qcell XL.out 2 (.int .i64 x.idx) rfl; go_simp⟩)
      refine yR (fun K hK => ?_)
      go_simp
      refine (cellP_any f a n x.idx _ HR.out).mono ?_
      rintro e U12 ⟨rfl, b⟩
      replace BF := Lib.hid (BF.out.trans (b.mono BF.out.size))
      replace HR := Lib.hid (HR.out.below b)
      replace HG := Lib.hid (HG.out.below b)
      replace R1 := Lib.hid (R1.out.below b)
      replace R2 := Lib.hid (R2.out.below b)
      replace XF := Lib.hid (qblk b XF.out)
      replace XG := Lib.hid (qblk b XG.out)
      replace XL := Lib.hid (qblk b XL.out)
      replace Xx12 := Lib.hid (qblk b Xx12.out)
      replace Xx14 := Lib.hid (qblk b Xx14.out)
      clear b
      rw [hC.out, hEC.out]
      try dsimp only
      refine yK hK ?_
      clear hK K
      refine yM (.tuple #[.agg (cellA C), .int .i64 EC]) ?_
      refine yM (.agg (cellA C)) ?_
      refine yM (.int .i64 EC) ?_
      refine yR (fun K hK => ?_)
      refine qbuild (w' := U12.alloc (.cells #[.int .i64 0, .int .i64 0] 41)) (.pointer (some ⟨U12.heap.size, 0, none⟩)) (by kernel_rfl) ?_
      obtain ⟨x20, hx20⟩ : ∃ x, Hid (U12.heap.size = x) := ⟨_, Lib.hid rfl⟩
      have AL := Lib.hid (al1 U12 (.cells #[.int .i64 0, .int .i64 0] 41))
      rw [hx20.out] at AL ⊢
      refine yK hK ?_
      clear hK K
      refine yR (fun K hK => ?_)
      refine qstore 41 _ _ rfl x20 #[.int .i64 0, .int .i64 0] (cellA C) 41 rfl rfl AL.out.2 (by exact (qJC C)) rfl (qoneC C) ?_
      intro U13 h8 hg8 hs8
      have b : Below U12.heap.size U12 U13 := qstep (by have h1 := AL.out.1; rw [← hx20.out] at h1; exact h1) hg8 (Nat.le_of_eq hx20.out)
      replace BF := Lib.hid (BF.out.trans (b.mono BF.out.size))
      replace HR := Lib.hid (HR.out.below b)
      replace HG := Lib.hid (HG.out.below b)
      replace R1 := Lib.hid (R1.out.below b)
      replace R2 := Lib.hid (R2.out.below b)
      replace XF := Lib.hid (qblk b XF.out)
      replace XG := Lib.hid (qblk b XG.out)
      replace XL := Lib.hid (qblk b XL.out)
      replace Xx12 := Lib.hid (qblk b Xx12.out)
      replace Xx14 := Lib.hid (qblk b Xx14.out)
      clear b
      have Xx20 := Lib.hid h8
      clear h8 hg8 hs8 AL
      refine yK hK ?_
      clear hK K
      refine yM (.int .i64 EC) ?_
      refine yE ?_
      go_upto_region 13 with fail
      refine yB ?_
      refine yW (.agg (f.cells a n)) ?_ (qyrow (by kernel_rfl) 28 _ rfl p rfl _ 28 (0, 0) _ (fun W hW => by rw [hW]; exact XF.out) Tryz.underlying28 rfl (by exact (qJF f a n)))
      refine yW (.pointer (some ⟨u, 2, none⟩)) ?_
      refine yW (.int .i64 x.idx) ?_ (.inl ⟨by kernel_rfl, by intro W hW; rw [hW]; have c := qcell XL.out 2 (.int .i64 x.idx) rfl; go_simp⟩)
      refine yR (fun K hK => ?_)
      go_simp
      refine (rcellP_any f a n x.idx _ HR.out).mono ?_
      rintro e U14 ⟨rfl, b⟩
      replace BF := Lib.hid (BF.out.trans (b.mono BF.out.size))
      replace HR := Lib.hid (HR.out.below b)
      replace HG := Lib.hid (HG.out.below b)
      replace R1 := Lib.hid (R1.out.below b)
      replace R2 := Lib.hid (R2.out.below b)
      replace XF := Lib.hid (qblk b XF.out)
      replace XG := Lib.hid (qblk b XG.out)
      replace XL := Lib.hid (qblk b XL.out)
      replace Xx12 := Lib.hid (qblk b Xx12.out)
      replace Xx14 := Lib.hid (qblk b Xx14.out)
      replace Xx20 := Lib.hid (qblk b Xx20.out)
      clear b
      rw [hC.out, hEC.out]
      try dsimp only
      refine yK hK ?_
      clear hK K
      refine yM (.tuple #[.agg (cellA C), .int .i64 EC]) ?_
      refine yM (.agg (cellA C)) ?_
      refine yM (.int .i64 EC) ?_
      refine yR (fun K hK => ?_)
      refine qbuild (w' := U14.alloc (.cells #[.int .i64 0, .int .i64 0] 41)) (.pointer (some ⟨U14.heap.size, 0, none⟩)) (by kernel_rfl) ?_
      obtain ⟨x22, hx22⟩ : ∃ x, Hid (U14.heap.size = x) := ⟨_, Lib.hid rfl⟩
      have AL := Lib.hid (al1 U14 (.cells #[.int .i64 0, .int .i64 0] 41))
      rw [hx22.out] at AL ⊢
      refine yK hK ?_
      clear hK K
      refine yR (fun K hK => ?_)
      refine qstore 41 _ _ rfl x22 #[.int .i64 0, .int .i64 0] (cellA C) 41 rfl rfl AL.out.2 (by exact (qJC C)) rfl (qoneC C) ?_
      intro U15 h8 hg8 hs8
      have b : Below U14.heap.size U14 U15 := qstep (by have h1 := AL.out.1; rw [← hx22.out] at h1; exact h1) hg8 (Nat.le_of_eq hx22.out)
      replace BF := Lib.hid (BF.out.trans (b.mono BF.out.size))
      replace HR := Lib.hid (HR.out.below b)
      replace HG := Lib.hid (HG.out.below b)
      replace R1 := Lib.hid (R1.out.below b)
      replace R2 := Lib.hid (R2.out.below b)
      replace XF := Lib.hid (qblk b XF.out)
      replace XG := Lib.hid (qblk b XG.out)
      replace XL := Lib.hid (qblk b XL.out)
      replace Xx12 := Lib.hid (qblk b Xx12.out)
      replace Xx14 := Lib.hid (qblk b Xx14.out)
      replace Xx20 := Lib.hid (qblk b Xx20.out)
      clear b
      have Xx22 := Lib.hid h8
      clear h8 hg8 hs8 AL
      refine yK hK ?_
      clear hK K
      refine yM (.int .i64 EC) ?_
      refine yE ?_
      go_upto_region 14 with fail
      refine yB ?_
      refine yW (.agg (f.cells a n)) ?_ (qyrow (by kernel_rfl) 28 _ rfl p rfl _ 28 (0, 0) _ (fun W hW => by rw [hW]; exact XF.out) Tryz.underlying28 rfl (by exact (qJF f a n)))
      refine yW (.pointer (some ⟨u, 3, none⟩)) ?_
      refine yW (.int .i64 x.kind) ?_ (.inl ⟨by kernel_rfl, by intro W hW; rw [hW]; have c := qcell XL.out 3 (.int .i64 x.kind) rfl; go_simp⟩)
      refine yR (fun K hK => ?_)
      go_simp
      refine (cellsP_any f a n x.kind _ HR.out).mono ?_
      rintro e U16 ⟨b3, m3, rfl, own, b⟩
      rw [hLC.out, hNL.out] at own ⊢
      rw [hEL.out]
      have RC1 : Hid (RdC U16 b3 NL m3 LC) := Lib.hid (RdA.of_own own)
      clear own
      replace BF := Lib.hid (BF.out.trans (b.mono BF.out.size))
      replace HR := Lib.hid (HR.out.below b)
      replace HG := Lib.hid (HG.out.below b)
      replace R1 := Lib.hid (R1.out.below b)
      replace R2 := Lib.hid (R2.out.below b)
      replace XF := Lib.hid (qblk b XF.out)
      replace XG := Lib.hid (qblk b XG.out)
      replace XL := Lib.hid (qblk b XL.out)
      replace Xx12 := Lib.hid (qblk b Xx12.out)
      replace Xx14 := Lib.hid (qblk b Xx14.out)
      replace Xx20 := Lib.hid (qblk b Xx20.out)
      replace Xx22 := Lib.hid (qblk b Xx22.out)
      clear b
      try dsimp only
      refine yK hK ?_
      clear hK K
      refine yM (.tuple #[.slice b3 NL m3, .int .i64 EL]) ?_
      refine yM (.slice b3 NL m3) ?_
      refine yM (.int .i64 EL) ?_
      refine yM (.slice b3 NL m3) ?_
      refine yM (.int .i64 EL) ?_
      refine yE ?_
      go_upto_region 15 with fail
      refine yB ?_
      refine yW (.agg (f.cells a n)) ?_ (qyrow (by kernel_rfl) 28 _ rfl p rfl _ 28 (0, 0) _ (fun W hW => by rw [hW]; exact XF.out) Tryz.underlying28 rfl (by exact (qJF f a n)))
      refine yW (.pointer (some ⟨u, 3, none⟩)) ?_
      refine yW (.int .i64 x.kind) ?_ (.inl ⟨by kernel_rfl, by intro W hW; rw [hW]; have c := qcell XL.out 3 (.int .i64 x.kind) rfl; go_simp⟩)
      refine yR (fun K hK => ?_)
      go_simp
      refine (rcellsP_any f a n x.kind _ HR.out).mono ?_
      rintro e U17 ⟨b4, m4, rfl, own, b⟩
      rw [hLC.out, hNL.out] at own ⊢
      rw [hEL.out]
      have RC2 : Hid (RdC U17 b4 NL m4 LC) := Lib.hid (RdA.of_own own)
      clear own
      replace BF := Lib.hid (BF.out.trans (b.mono BF.out.size))
      replace HR := Lib.hid (HR.out.below b)
      replace HG := Lib.hid (HG.out.below b)
      replace R1 := Lib.hid (R1.out.below b)
      replace R2 := Lib.hid (R2.out.below b)
      replace RC1 := Lib.hid (RC1.out.below b)
      replace XF := Lib.hid (qblk b XF.out)
      replace XG := Lib.hid (qblk b XG.out)
      replace XL := Lib.hid (qblk b XL.out)
      replace Xx12 := Lib.hid (qblk b Xx12.out)
      replace Xx14 := Lib.hid (qblk b Xx14.out)
      replace Xx20 := Lib.hid (qblk b Xx20.out)
      replace Xx22 := Lib.hid (qblk b Xx22.out)
      clear b
      try dsimp only
      refine yK hK ?_
      clear hK K
      refine yM (.tuple #[.slice b4 NL m4, .int .i64 EL]) ?_
      refine yM (.slice b4 NL m4) ?_
      refine yM (.int .i64 EL) ?_
      refine yM (.slice b4 NL m4) ?_
      refine yM (.int .i64 EL) ?_
      refine yE ?_
      go_upto_region 16 with fail
      refine yB ?_
      refine yM (.bool true) ?_
      refine yM (.bool true) ?_
      refine yM (.int .i64 I) ?_
      refine yM (.int .i64 I) ?_
      refine yW (.bool true) ?_ (.inl ⟨by kernel_rfl, by intro W hW; (try rw [hW]); go_simp; (try simp)⟩)
      refine yM (.bool true) ?_
      refine yM (.bool true) ?_
      refine yM (.int .i64 EI) ?_
      refine yM (.int .i64 EI) ?_
      refine yW (.bool true) ?_ (.inl ⟨by kernel_rfl, by intro W hW; (try rw [hW]); go_simp; (try simp)⟩)
      refine yM (.bool true) ?_
      refine yM (.bool true) ?_
      refine yW (.agg (cellA C)) ?_ (qyrow (by kernel_rfl) 41 _ rfl x20 rfl _ 41 (0, 0) _ (fun W hW => by rw [hW]; exact Xx20.out) Tryz.underlying41 rfl (by exact (qJC C)))
      refine yW (.agg (cellA C)) ?_ (qyrow (by kernel_rfl) 41 _ rfl x22 rfl _ 41 (0, 0) _ (fun W hW => by rw [hW]; exact Xx22.out) Tryz.underlying41 rfl (by exact (qJC C)))
      refine yW (.bool true) ?_ (.inl ⟨by kernel_rfl, by intro W hW; (try rw [hW]); unfold cellA; go_simp; (try simp)⟩)
      refine yM (.bool true) ?_
      refine yM (.bool true) ?_
      refine yM (.int .i64 EC) ?_
      refine yM (.int .i64 EC) ?_
      refine yW (.bool true) ?_ (.inl ⟨by kernel_rfl, by intro W hW; (try rw [hW]); go_simp; (try simp)⟩)
      refine yM (.bool true) ?_
      refine yM (.bool true) ?_
      refine yM (.slice b3 NL m3) ?_
      refine yM (.slice b4 NL m4) ?_
      refine yR (fun K hK => ?_)
      go_simp
      refine (rsameCells_any b3 NL m3 b4 m4 LC _ hNL.out LLC.out RC1.out RC2.out).mono ?_
      rintro e U18 ⟨rfl, b⟩
      replace BF := Lib.hid (BF.out.trans (b.mono BF.out.size))
      replace HR := Lib.hid (HR.out.below b)
      replace HG := Lib.hid (HG.out.below b)
      replace R1 := Lib.hid (R1.out.below b)
      replace R2 := Lib.hid (R2.out.below b)
      replace RC1 := Lib.hid (RC1.out.below b)
      replace RC2 := Lib.hid (RC2.out.below b)
      replace XF := Lib.hid (qblk b XF.out)
      replace XG := Lib.hid (qblk b XG.out)
      replace XL := Lib.hid (qblk b XL.out)
      replace Xx12 := Lib.hid (qblk b Xx12.out)
      replace Xx14 := Lib.hid (qblk b Xx14.out)
      replace Xx20 := Lib.hid (qblk b Xx20.out)
      replace Xx22 := Lib.hid (qblk b Xx22.out)
      clear b
      try dsimp only
      refine yK hK ?_
      clear hK K
      refine yM (.bool true) ?_
      refine yM (.bool true) ?_
      refine yM (.int .i64 EL) ?_
      refine yM (.int .i64 EL) ?_
      refine yW (.bool true) ?_ (.inl ⟨by kernel_rfl, by intro W hW; (try rw [hW]); go_simp; (try simp)⟩)
      refine yM (.bool true) ?_
      refine yM (.bool true) ?_
      refine yE ?_
      go_wp2_with fail
      go_ret
      exact ⟨rfl, BF.out⟩
end Go.Proofs.YtimmadkbkimonaaGreatDoor
namespace Go.Proofs.YtimmadkbkimonaaGreatDoor
open Go.ChangeShapes Go.WideShapes Go.ChangeAt Go.RowKit

theorem Tryz.own : ownKnob Tryz.prog.godebug = none := by kernel_rfl
theorem Tryz.laidOut : laidOutB Tryz.prog = true := by kernel_rfl

theorem below_trodAll {H : Type} {enc : TypeId × Value → H} {P : Program} (hl : laidOutB P = true) {W W' : World} (hb : Below W.heap.size W W') :
    ∀ (ts : List TypeId) {vs : List Value} {ds : List (DataW H)} {ps : List MemPlace}, ts.all (fun t => P.readableRec t && decide (t < P.types.size)) = true → (∀ x ∈ ps, x.block < W.heap.size) →
      DataW.TrodAll enc P W 0 (fun _ => true) true ts vs ds ps → DataW.TrodAll enc P W' 0 (fun b => decide (b < W.heap.size)) true ts vs ds ps
  | [], [], [], _, _, _, h => h
  | [], _ :: _, _, _, _, _, h => h.elim
  | [], [], _ :: _, _, _, _, h => h.elim
  | _ :: _, [], _, _, _, _, h => h.elim
  | _ :: _, _ :: _, [], _, _, _, h => h.elim
  | t :: ts, v :: vs, d :: ds, ps, hr, hlt, h => by
    obtain ⟨p, q, h1, h2, rfl⟩ := h
    simp only [List.all_cons, Bool.and_eq_true, decide_eq_true_eq] at hr
    exact ⟨p, q, Below.trod hl hr.1.1 hr.1.2 h1 hb (fun x hx => hlt x (List.mem_append_left _ hx)), below_trodAll hl hb ts hr.2 (fun x hx => hlt x (List.mem_append_right _ hx)) h2, rfl⟩

theorem post_of_law {H : Type} {enc : TypeId × Value → H} {P : Program} (hl : laidOutB P = true) {t : TypeId} (ht : P.underlying t = some .bool) {f : Func} {s : ChangeSpec} {W W' : World} {args : Array Value} {ds : List (DataW H)} {ps : List MemPlace}
    (hv : s.vars = []) (hf : f.resultTypes = #[t]) (hr : f.params.toList.all (fun t => P.readableRec t && decide (t < P.types.size)) = true)
    (hW : DataW.Whole enc P f.params.toList s.vars false W args.toList ds [] ps) (hA : DataW.TrodAll enc P W 0 (fun _ => true) true f.params.toList args.toList ds ps)
    (hs : s.fn H (ds ++ []) = { results := [.lit (.bool true)], args := ds }) (hb : Below W.heap.size W W') : s.post enc P f false true false false W args (.bool true) W' := by
  refine ⟨ds, [], ps, [], ps, [], hW, ?_, ?_, ?_, hb.frame _, fun h => by cases h⟩
  · rw [hs, hf]
    exact trodAll_mk1 (shut_bool ht _)
  · rw [hs]
    exact below_trodAll hl hb _ hr hW.lt hA
  · rw [hs, hv]
    rfl

end Go.Proofs.YtimmadkbkimonaaGreatDoor
namespace Go.Proofs.YtimmadkbkimonaaGreatDoor
open Go.ChangeShapes Go.WideShapes Go.ChangeAt Go.RowKit

theorem i64_of_wf {x : Int} (h : (Lit.int .i64 x).wf = true) : I64 x := by
  simp [Lit.wf, IntKind.min, IntKind.max, IntKind.signed, IntKind.bits] at h
  unfold I64
  omega
theorem Tryz.cells3 : Tryz.prog.cellsOf 3 = 1 := by kernel_rfl
theorem Tryz.cells26 : Tryz.prog.cellsOf 26 = 1 := by kernel_rfl
section
variable {H : Type} {enc : TypeId × Value → H} {W : World} {fuel : Nat}

theorem open_ri1 {cs : List Value} {y : DataW H × List MemPlace} (h : DataW.trod enc Tryz.prog W 0 (fun _ => true) true fuel 26 cs = some y) : ∃ a c l, cs = [.slice a l.length c] ∧ RdI W a l.length c l ∧ ∀ z ∈ l, I64 z := by
  rcases open_ints Tryz.underlying26 Tryz.underlying3 Tryz.cells3 h with ⟨hcs, hx⟩ | ⟨a, n, c, zs, hcs, _, hl, hm, hz, hx, hcell, hwz⟩
  · exact ⟨none, 0, [], hcs, RdA.nil _ _, fun z hz => by cases hz⟩
  · simp only [if_true] at hz
    have hlen : (zs.take n).length = n := by rw [List.length_take]; omega
    refine ⟨some a, c, zs.take n, by rw [hlen]; exact hcs, ⟨by simp, by omega, hm, ?_⟩, fun z hz => i64_of_wf (hwz z (List.mem_of_mem_take hz))⟩
    by_cases hc0 : c = 0
    · exact .inl hc0
    · obtain ⟨ab, ao, spot⟩ := a
      have hspot : spot = none := by simpa [Addr.add] using World.cell?_spot (hcell 0 (by omega))
      subst hspot
      refine .inr ⟨ab, ao, rfl, fun i x hx => ?_⟩
      rw [List.getElem?_map, List.getElem?_take] at hx
      split at hx
      · rename_i hi
        have hiz : i < zs.length := by omega
        rw [List.getElem?_eq_getElem hiz, Option.map_some] at hx
        simp only [Option.some.injEq] at hx
        subst hx
        have hc := hcell i hiz
        rw [Addr.add_lit] at hc
        rw [hc, List.getD_eq_getElem?_getD, List.getElem?_eq_getElem hiz]
        rfl
      · cases hx
end
end Go.Proofs.YtimmadkbkimonaaGreatDoor
namespace Go.Proofs.YtimmadkbkimonaaGreatDoor
set_option linter.constructorNameAsVariable false
open Go.ChangeShapes Go.WideShapes Go.ChangeAt Go.RowKit

theorem Tryz.cells28 : Tryz.prog.cellsOf 28 = 4 := by kernel_rfl
section
variable {H : Type} {enc : TypeId × Value → H} {W : World}
set_option maxRecDepth 100000 in
theorem open_face {base : Nat} {v : Value} {d : DataW H} {p : List MemPlace} (hval : Value.okWide Tryz.prog W .any base 28 v)
    (h : DataW.Trod enc Tryz.prog W 0 (fun _ => true) true 28 v d p) : ∃ (f : FaceV) (a : Option Addr) (n : Nat), v = .agg (f.cells a n) ∧ RdI W a f.kinds.length n f.kinds := by
  obtain ⟨cs, rfl, hsz⟩ := okWide_struct Tryz.underlying28 hval
  obtain ⟨fuel, hf⟩ := h
  obtain ⟨y0, y1, y2, y3, n, _, hl, g0, g1, g2, g3⟩ := Go.Joins.trod_struct4 Tryz.underlying28 hf
  rw [Tryz.cells28] at hsz
  obtain ⟨l⟩ := cs
  match l, hsz with
  | [c0, c1, c2, c3], _ =>
    have g0' : DataW.trod enc Tryz.prog W 0 (fun _ => true) true n 3 (([c0, c1, c2, c3].drop 0).take (Tryz.prog.cellsOf 3)) = some y0 := g0
    have g1' : DataW.trod enc Tryz.prog W 0 (fun _ => true) true n 3 (([c0, c1, c2, c3].drop 1).take (Tryz.prog.cellsOf 3)) = some y1 := g1
    have g2' : DataW.trod enc Tryz.prog W 0 (fun _ => true) true n 3 (([c0, c1, c2, c3].drop 2).take (Tryz.prog.cellsOf 3)) = some y2 := g2
    have g3' : DataW.trod enc Tryz.prog W 0 (fun _ => true) true n 26 (([c0, c1, c2, c3].drop 3).take (Tryz.prog.cellsOf 26)) = some y3 := g3
    rw [Tryz.cells3] at g0' g1' g2'
    rw [Tryz.cells26] at g3'
    obtain ⟨x0, a0, _, _⟩ := DataW.trod_int Tryz.underlying3 g0'
    obtain ⟨x1, a1, _, _⟩ := DataW.trod_int Tryz.underlying3 g1'
    obtain ⟨x2, a2, _, _⟩ := DataW.trod_int Tryz.underlying3 g2'
    obtain ⟨a, c, l, a3, hr, _⟩ := open_ri1 g3'
    simp at a0 a1 a2 a3
    exact ⟨⟨x0, x1, x2, l⟩, a, c, by rw [a0, a1, a2, a3]; rfl, hr⟩
end
theorem gE3 : Tryz.prog.globalNamed "strconv.ErrSyntax" = some 3 := by kernel_rfl
theorem gE4 : Tryz.prog.globalNamed "strconv.ErrRange" = some 4 := by kernel_rfl
theorem gE3t : (Tryz.prog.globals[3]?).map (·.type) = some 89 := by kernel_rfl
theorem gE4t : (Tryz.prog.globals[4]?).map (·.type) = some 89 := by kernel_rfl
theorem gstar : "*" ++ "errors.errorString" = "*errors.errorString" := by decide
theorem rowE (u : TypeId) (h : Tryz.prog.typeName? 3 u = some "*errors.errorString") : u = 212 :=
  typeName_ptr_named (nm := "errors.errorString") (by rw [gstar]; kernel_rfl) (by kernel_rfl) (by decide) u (by rw [gstar]; exact h)
theorem Tryz.cells214 : Tryz.prog.cellsOf 214 = 1 := by kernel_rfl
theorem Tryz.cells9 : Tryz.prog.cellsOf 9 = 1 := by kernel_rfl
theorem env_of {W : World} (hL : laidMetH Tryz.prog Rows.stonesCellsRow.laid W) (hs : W.ShapedOpen Tryz.prog) : EnvW W := by
  rw [MakeChecks.laidMetH_plain _ _ _ (by kernel_rfl)] at hL
  obtain ⟨a0, s0, hv0, _⟩ := laid_sentinel hL.tail.tail.tail.tail gE4 gE4t Tryz.underlying89 rowE Tryz.underlying212 Tryz.underlying214 rfl rfl Tryz.underlying9 Tryz.cells214 Tryz.cells9
  obtain ⟨a1, s1, hv1, _⟩ := laid_sentinel hL.tail.tail.tail.tail.tail gE3 gE3t Tryz.underlying89 rowE Tryz.underlying212 Tryz.underlying214 rfl rfl Tryz.underlying9 Tryz.cells214 Tryz.cells9
  refine ⟨Go.Proofs.cell_of_shapedOpen_int (zero := #[.int .i64 0]) (t := 3) hs (of_decide_eq_true (by kernel_rfl)) (by kernel_rfl) rfl (by kernel_rfl) (by kernel_rfl) Tryz.underlying3, ⟨.iface 212 (.pointer (some a1)), ?_, .inr ⟨_, _, rfl⟩⟩, ⟨.iface 212 (.pointer (some a0)), ?_, .inr ⟨_, _, rfl⟩⟩⟩
  · have h0 := World.var?_cell gE3 hv1 0
    simpa using h0
  · have h0 := World.var?_cell gE4 hv0 0
    simpa using h0
end Go.Proofs.YtimmadkbkimonaaGreatDoor
namespace Go.Proofs.YtimmadkbkimonaaGreatDoor
set_option linter.constructorNameAsVariable false
open Go.ChangeShapes Go.WideShapes Go.ChangeAt Go.RowKit

theorem Tryz.cells41 : Tryz.prog.cellsOf 41 = 2 := by kernel_rfl
section
variable {H : Type} {enc : TypeId × Value → H} {W : World}
set_option maxRecDepth 100000 in
theorem open_cell1 {fuel : Nat} {cs : List Value} {y : DataW H × List MemPlace} (h : DataW.trod enc Tryz.prog W 0 (fun _ => true) true fuel 41 cs = some y) (hl : cs.length = 2) : ∃ c : CellV, cs = [.int .i64 c.1, .int .i64 c.2] := by
  obtain ⟨y0, y1, n, _, _, g0, g1⟩ := trod_struct2 Tryz.underlying41 h
  match cs, hl with
  | [c0, c1], _ =>
    have g0' : DataW.trod enc Tryz.prog W 0 (fun _ => true) true n 3 (([c0, c1].drop 0).take (Tryz.prog.cellsOf 3)) = some y0 := g0
    have g1' : DataW.trod enc Tryz.prog W 0 (fun _ => true) true n 3 (([c0, c1].drop 1).take (Tryz.prog.cellsOf 3)) = some y1 := g1
    rw [Tryz.cells3] at g0' g1'
    obtain ⟨x0, a0, _, _⟩ := DataW.trod_int Tryz.underlying3 g0'
    obtain ⟨x1, a1, _, _⟩ := DataW.trod_int Tryz.underlying3 g1'
    simp at a0 a1
    exact ⟨(x0, x1), by rw [a0, a1]⟩
end
end Go.Proofs.YtimmadkbkimonaaGreatDoor
namespace Go.Proofs.YtimmadkbkimonaaGreatDoor
set_option linter.constructorNameAsVariable false
open Go.ChangeShapes Go.WideShapes Go.ChangeAt Go.RowKit

theorem Tryz.cells43 : Tryz.prog.cellsOf 43 = 5 := by kernel_rfl
section
variable {H : Type} {enc : TypeId × Value → H} {W : World}
set_option maxRecDepth 100000 in
theorem open_look {base : Nat} {v : Value} {d : DataW H} {p : List MemPlace} (hval : Value.okWide Tryz.prog W .any base 43 v)
    (h : DataW.Trod enc Tryz.prog W 0 (fun _ => true) true 43 v d p) : ∃ x : LookV, v = .agg (lookA x) ∧ True := by
  obtain ⟨cs, rfl, hsz⟩ := okWide_struct Tryz.underlying43 hval
  obtain ⟨fuel, hf⟩ := h
  rw [Tryz.cells43] at hsz
  obtain ⟨l⟩ := cs
  obtain ⟨y0, y1, y2, y3, n, _, hl, g0, g1, g2, g3⟩ := Go.Joins.trod_struct4 Tryz.underlying43 hf
  match l, hsz with
  | [c0, c1, c2, c3, c4], _ =>
    have g0' : DataW.trod enc Tryz.prog W 0 (fun _ => true) true n 41 (([c0, c1, c2, c3, c4].drop 0).take (Tryz.prog.cellsOf 41)) = some y0 := g0
    have g1' : DataW.trod enc Tryz.prog W 0 (fun _ => true) true n 3 (([c0, c1, c2, c3, c4].drop 2).take (Tryz.prog.cellsOf 3)) = some y1 := g1
    have g2' : DataW.trod enc Tryz.prog W 0 (fun _ => true) true n 3 (([c0, c1, c2, c3, c4].drop 3).take (Tryz.prog.cellsOf 3)) = some y2 := g2
    have g3' : DataW.trod enc Tryz.prog W 0 (fun _ => true) true n 3 (([c0, c1, c2, c3, c4].drop 4).take (Tryz.prog.cellsOf 3)) = some y3 := g3
    rw [Tryz.cells41] at g0'
    rw [Tryz.cells3] at g1' g2' g3'
    obtain ⟨c, a0⟩ := open_cell1 g0' rfl
    obtain ⟨x1, a1, _, _⟩ := DataW.trod_int Tryz.underlying3 g1'
    obtain ⟨x2, a2, _, _⟩ := DataW.trod_int Tryz.underlying3 g2'
    obtain ⟨x3, a3, _, _⟩ := DataW.trod_int Tryz.underlying3 g3'
    simp at a0 a1 a2 a3
    obtain ⟨a0, a4⟩ := a0
    exact ⟨⟨c, x1, x2, x3⟩, by rw [a0, a1, a2, a3, a4]; rfl, trivial⟩
end
end Go.Proofs.YtimmadkbkimonaaGreatDoor
