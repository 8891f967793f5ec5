/- Parts of the proof, in this order: turned, Turn, Mirror, Same of stones; slices.Compare of ints; Sort and Compact of the library, laid at this program; Sort and Compact of the call's own ints; What a furrow cuts, step by step, plain; floor, cut of stones; Rows of ints of the call's own, as values; Dress of stones; Rows of bools of the call's own; rows of another type stay when ints are appended; A row that is written from its beginning on, plain; A range over a function whose iterator keeps state of its own in cells: one law, over any program, at the wide fence; From a walk that knows of no fence to one under the wide fence, in a round or not; a range over a function whose assignments make memory; Maps from int to int: what such a map in memory reads as, and its operations in these words; Append to ints of the call's own: what lies elsewhere stays, the row's block is the old one or new. -/
import Derived.ChangeKeysEq
import Derived.Shelf.Sort.Plain
import Derived.Shelf.Slices.CompactI
import Derived.Ground.Names2Prog
import Derived.Lib.SlicesCompact
import Derived.Laws.MakeOwn
import Derived.RangeFuncNested
import Derived.RangeFuncBound
import Derived.RangeFuncCalls
import Derived.RangeFuncLeaves
import Derived.WalkKit
import Derived.OwnWalkIn
import Derived.TacticsInMore
import Derived.LoopNIn
import Derived.LoopIn
import Derived.Shelf.RegionOpen
import Derived.Maps.RangeWalk
import Derived.Maps.OwnSet
import Derived.DeepKeys4
import Derived.Maps.AppendAt
import Derived.Test.YtimmadkbkimonaaGreatDoorKPsv2
set_option linter.unusedSimpArgs false
set_option linter.unusedVariables false
open List renaming getElem_toArray → lq0, getElem_cons_succ → lq1, getElem_cons_zero → lq2, setIfInBounds_toArray → lq3, set_cons_zero → lq4, set_cons_succ → lq5
namespace Go.Proofs.YtimmadkbkimonaaGreatDoor
set_option linter.unusedSimpArgs false
set_option linter.unusedVariables false
open Go.RowKit

def FOwn (w W : World) (g : FaceV) (a : Option Addr) (n : Nat) : Prop := W.ownsRow w.heap.size 3 1 (.slice a g.kinds.length n) g.kinds.length (g.kinds.map intV)
theorem FOwn.rd {w W : World} {g : FaceV} {a : Option Addr} {n : Nat} (h : FOwn w W g a n) : RdI W a g.kinds.length n g.kinds := RdA.of_own h
theorem FOwn.nil (w W : World) : FOwn w W zeroF none 0 := World.ownsRow_nil _ _ _ _
theorem FOwn.below {w W W' : World} {g : FaceV} {a : Option Addr} {n : Nat} (h : FOwn w W g a n) (hb : Below W.heap.size W W') : FOwn w W' g a n := own_below h hb
theorem FOwn.mono {w V W : World} {g : FaceV} {a : Option Addr} {n : Nat} (h : FOwn V W g a n) (hb : w.heap.size ≤ V.heap.size) : FOwn w W g a n := own_mono h hb
theorem FOwn.kept {w W W' : World} {g : FaceV} {a : Option Addr} {n p : Nat} {A : Array Value} (h : FOwn w W g a n) (hg : W.grownBy W' (some p)) (hp : W.heap[p]? = some (.cells A 28 (0, 0))) : FOwn w W' g a n :=
  World.ownsRow.kept h hg (.inr (qown_no h hp (by simp)).symm)
theorem mapped2_any (f : FaceV) (a : Option Addr) (n s : Nat) (si : Int) (of : Int → Int) (fn : Nat) (cap : Array Value) (w : World) (hsi : si = (s : Int)) (hv : f.valid = true) (hr : RdI w a f.kinds.length n f.kinds) (hs : 1 ≤ s ∧ s ≤ 96)
    (hfn : ∀ (args : Array Value) (w : World), (callFunc fn args).run Tryz.prog w = .ok (.enter fn args) w)
    (hcl : ∀ (j : Nat) W, Below w.heap.size w W → j < s → Calls Tryz.prog fn (#[.int .i64 j] ++ cap) W fun e W' => e = .returned (.int .i64 (of j)) ∧ Below W.heap.size W W') :
    Calls Tryz.prog 100 #[.agg (f.cells a n), .int .i64 si, .func (.func fn) #[] cap] w fun e w' => (∃ a' n', e = .returned (.agg ((mapF f s of).cells a' n')) ∧ FOwn w w' (mapF f s of) a' n') ∧ Below w.heap.size w w' := by
  subst hsi
  refine (mapped_any f a n s of fn cap w hv hr hs hfn hcl).mono ?_
  rintro e W ⟨a', n', rfl, h1, h2⟩
  exact ⟨⟨a', n', rfl, h1⟩, h2⟩
set_option maxHeartbeats 4000000 in
set_option maxRecDepth 100000 in
theorem turned_any (f : FaceV) (a : Option Addr) (n : Nat) (by_ : Int) (w : World) (hv : f.valid = true) (hr : RdI w a f.kinds.length n f.kinds) :
    Calls Tryz.prog 98 #[.agg (f.cells a n), .int .i64 by_] w fun e w' => (∃ a' n', e = .returned (.agg ((turnF f by_).cells a' n')) ∧ FOwn w w' (turnF f by_) a' n') ∧ Below w.heap.size w w' := by
  have HR := Lib.hid (fun W (hb : Below w.heap.size w W) => hr.below hb)
  have NV := Lib.hid (FaceV.nat hv)
  have IV := Lib.hid (FaceV.int hv)
  have HV := Lib.hid hv
  clear hr hv
  have AL := Lib.hid (al3 w (.cells (f.cells a n) 28) (.cells #[.int .i64 by_] 3) (.cells #[.int .i64 0, .int .i64 0, .int .i64 0, .slice none 0 0] 28))
  go_enter Tryz.func98, Tryz.ntmps98
  go_upto_region 1 with fail
  obtain ⟨p, hp⟩ : ∃ p, Hid (w.heap.size = p) := ⟨_, Lib.hid rfl⟩
  obtain ⟨q, hq⟩ : ∃ q, Hid (w.heap.size + 1 = q) := ⟨_, Lib.hid rfl⟩
  obtain ⟨z, hz⟩ : ∃ z, Hid (w.heap.size + 2 = z) := ⟨_, Lib.hid rfl⟩
  rw [hz.out] at AL ⊢
  rw [hq.out] at AL ⊢
  rw [hp.out] at AL ⊢
  generalize (((w.alloc (.cells (f.cells a n) 28)).alloc (.cells #[.int .i64 by_] 3)).alloc (.cells #[.int .i64 0, .int .i64 0, .int .i64 0, .slice none 0 0] 28)) = W0 at *
  have BF : Hid (Below w.heap.size w W0) := Lib.hid (by rw [hp.out]; exact AL.out.1)
  have XF : Hid (W0.heap[p]? = some (.cells (f.cells a n) 28 (0, 0))) := Lib.hid AL.out.2.1
  have XB : Hid (W0.heap[q]? = some (.cells #[.int .i64 by_] 3 (0, 0))) := Lib.hid AL.out.2.2.1
  have XZ : Hid (W0.heap[z]? = some (.cells (zeroF.cells none 0) 28 (0, 0))) := Lib.hid AL.out.2.2.2
  clear AL
  have c0 := qcell XF.out 0 (.int .i64 f.eye) rfl
  have c1 := qcell XF.out 1 (.int .i64 f.rings) rfl
  have c2 := qcell XF.out 2 (.int .i64 f.sectors) rfl
  have c3 := qcell XF.out 3 (.slice a f.kinds.length n) rfl
  have d0 := qcell XB.out 0 (.int .i64 by_) rfl
  go_wp2_with (first
    | (refine wpList_load_row rfl 28 _ rfl p rfl 28 (f.cells a n) (0, 0) _ XF.out Tryz.underlying28 rfl (by exact (qJF f a n)) ?_)
    | (refine wpList_load_row rfl 28 _ rfl z rfl 28 (zeroF.cells none 0) (0, 0) _ XZ.out Tryz.underlying28 rfl (by exact (qJF zeroF none 0)) ?_)
    | fail)
  refine (around_any by_ f.sectors W0 (by have := IV.out; omega)).mono ?_
  rintro e V1 ⟨rfl, rfl⟩
  have fz := qfroz XB.out 0
  go_upto_region 2 with (first
    | (refine wpList_load_row rfl 28 _ rfl p rfl 28 (f.cells a n) (0, 0) _ XF.out Tryz.underlying28 rfl (by exact (qJF f a n)) ?_)
    | (refine wpList_load_row rfl 28 _ rfl z rfl 28 (zeroF.cells none 0) (0, 0) _ XZ.out Tryz.underlying28 rfl (by exact (qJF zeroF none 0)) ?_)
    | fail)
  clear c0 c1 c2 c3 d0
  clear fz
  have HG := qput_grown V1 q 0 (.int .i64 (around by_ f.sectors))
  replace BF := Lib.hid (qstep BF.out HG (by have h1 := hq.out; omega))
  have XR : Hid ((V1.setCell ⟨q, 0, none⟩ (.int .i64 (around by_ f.sectors))).heap[q]? = some (.cells #[.int .i64 (around by_ f.sectors)] 3 (0, 0))) := Lib.hid (by rw [qput_at XB.out 0 _]; rfl)
  replace XF := Lib.hid (qgrown HG XF.out (fun e => by have h1 := hp.out; have h2 := hq.out; have := Option.some.inj e; omega))
  replace XZ := Lib.hid (qgrown HG XZ.out (fun e => by have h1 := hz.out; have h2 := hq.out; have := Option.some.inj e; omega))
  clear HG XB
  generalize V1.setCell ⟨q, 0, none⟩ (.int .i64 (around by_ f.sectors)) = V2 at *
  have c0 := qcell XF.out 0 (.int .i64 f.eye) rfl
  have c1 := qcell XF.out 1 (.int .i64 f.rings) rfl
  have c2 := qcell XF.out 2 (.int .i64 f.sectors) rfl
  have c3 := qcell XF.out 3 (.slice a f.kinds.length n) rfl
  have d0 := qcell XR.out 0 (.int .i64 (around by_ f.sectors)) rfl
  go_wp2_with (first
    | (refine wpList_load_row rfl 28 _ rfl p rfl 28 (f.cells a n) (0, 0) _ XF.out Tryz.underlying28 rfl (by exact (qJF f a n)) ?_)
    | (refine wpList_load_row rfl 28 _ rfl z rfl 28 (zeroF.cells none 0) (0, 0) _ XZ.out Tryz.underlying28 rfl (by exact (qJF zeroF none 0)) ?_)
    | fail)
  refine (mapped2_any f a n f.S f.sectors (fun s => s - around by_ f.sectors) 135 #[.pointer (some ⟨q, 0, none⟩)] V2 NV.out.2.1 HV.out (HR.out V2 BF.out) (by have := NV.out; omega) (fun args w => by kernel_rfl) (fun j W hb hj => ?cl)).mono ?_
  case cl =>
    have h0 := qcell (qblk hb XR.out) 0 (.int .i64 (around by_ f.sectors)) rfl
    have hA := around_lt HV.out by_
    have WA := Lib.hid (show wrap64 ((j : Int) - around by_ f.sectors) = (j : Int) - around by_ f.sectors by have := IV.out; have := NV.out; unfold wrap64; omega)
    clear hA hb d0 c0 c1 c2 c3
    go_enter Tryz.func135, Tryz.ntmps135
    go_wp2_with fail
    go_ret
    exact ⟨by first | (rw [WA.out]; rfl) | (rw [← WA.out]; rfl) | rfl, Below.refl _ _⟩
  rintro e V3 ⟨⟨a', n', rfl, own⟩, b⟩
  have OW := Lib.hid (own.mono BF.out.size)
  clear own
  clear c0 c1 c2 c3 d0
  replace BF := Lib.hid (BF.out.trans (b.mono BF.out.size))
  replace XF := Lib.hid (qblk b XF.out)
  replace XR := Lib.hid (qblk b XR.out)
  replace XZ := Lib.hid (qblk b XZ.out)
  clear b
  have c0 := qcell XF.out 0 (.int .i64 f.eye) rfl
  have c1 := qcell XF.out 1 (.int .i64 f.rings) rfl
  have c2 := qcell XF.out 2 (.int .i64 f.sectors) rfl
  have c3 := qcell XF.out 3 (.slice a f.kinds.length n) rfl
  have d0 := qcell XR.out 0 (.int .i64 (around by_ f.sectors)) rfl
  have eT : mapF f f.S (fun s => s - around by_ f.sectors) = turnF f by_ := rfl
  rw [eT] at OW ⊢
  clear eT
  go_wp2_with (first
    | (refine wpList_load_row rfl 28 _ rfl p rfl 28 (f.cells a n) (0, 0) _ XF.out Tryz.underlying28 rfl (by exact (qJF f a n)) ?_)
    | (refine wpList_load_row rfl 28 _ rfl z rfl 28 (zeroF.cells none 0) (0, 0) _ XZ.out Tryz.underlying28 rfl (by exact (qJF zeroF none 0)) ?_)
    | (refine wpList_qstore rfl 28 _ _ rfl z (zeroF.cells none 0) ((turnF f by_).cells a' n') 28 rfl rfl XZ.out (by exact (qJF (turnF f by_) a' n')) rfl (qone (turnF f by_) a' n') ?_; intro VZ hzz hgz; clear c0 c1 c2 c3 d0; replace BF := Lib.hid (qstep BF.out hgz (by have h1 := hz.out; omega)); replace XF := Lib.hid (qgrown hgz XF.out (fun e => by have h1 := hp.out; have h2 := hz.out; have := Option.some.inj e; omega)); replace XR := Lib.hid (qgrown hgz XR.out (fun e => by have h1 := hq.out; have h2 := hz.out; have := Option.some.inj e; omega)); replace OW := Lib.hid (OW.out.kept hgz XZ.out); replace XZ := Lib.hid hzz; clear hzz hgz; have c0 := qcell XF.out 0 (.int .i64 f.eye) rfl; have c1 := qcell XF.out 1 (.int .i64 f.rings) rfl; have c2 := qcell XF.out 2 (.int .i64 f.sectors) rfl; have c3 := qcell XF.out 3 (.slice a f.kinds.length n) rfl; have d0 := qcell XR.out 0 (.int .i64 (around by_ f.sectors)) rfl)
    | fail)
  (try simp only [Exit.inBlock, Exit.then])
  refine bodyPost_ret (results_cell_row rfl _ VZ z 28 ((turnF f by_).cells a' n') (0, 0) _ rfl XZ.out Tryz.underlying28 rfl (by exact (qJF (turnF f by_) a' n'))) rfl ?_
  exact ⟨⟨a', n', rfl, OW.out⟩, BF.out⟩
set_option maxHeartbeats 4000000 in
set_option maxRecDepth 100000 in
theorem turnP_any (f : FaceV) (a : Option Addr) (n : Nat) (by_ : Int) (w : World) (hr : RdI w a f.kinds.length n f.kinds) :
    Calls Tryz.prog 40 #[.agg (f.cells a n), .int .i64 by_] w fun e w' => (∃ a' n', e = .returned (.tuple #[.agg ((turnP f by_).1.cells a' n'), .int .i64 (turnP f by_).2]) ∧ FOwn w w' (turnP f by_).1 a' n') ∧ Below w.heap.size w w' := by
  have AV := Lib.hid (fun W (hb : Below w.heap.size w W) => valid2_any f a n W (hr.below hb))
  have HR := Lib.hid (fun W (hb : Below w.heap.size w W) => hr.below hb)
  clear hr
  have AL := Lib.hid (al2 w (.cells (f.cells a n) 28) (.cells #[.int .i64 0, .int .i64 0, .int .i64 0, .slice none 0 0] 28))
  go_enter Tryz.func40, Tryz.ntmps40
  go_upto_region 1 with fail
  obtain ⟨p, hp⟩ : ∃ p, Hid (w.heap.size = p) := ⟨_, Lib.hid rfl⟩
  obtain ⟨z, hz⟩ : ∃ z, Hid (w.heap.size + 1 = z) := ⟨_, Lib.hid rfl⟩
  rw [hz.out] at AL ⊢
  rw [hp.out] at AL ⊢
  generalize ((w.alloc (.cells (f.cells a n) 28)).alloc (.cells #[.int .i64 0, .int .i64 0, .int .i64 0, .slice none 0 0] 28)) = W0 at *
  have BF : Hid (Below w.heap.size w W0) := Lib.hid (by rw [hp.out]; exact AL.out.1)
  have XF : Hid (W0.heap[p]? = some (.cells (f.cells a n) 28 (0, 0))) := Lib.hid AL.out.2.1
  have XZ : Hid (W0.heap[z]? = some (.cells (zeroF.cells none 0) 28 (0, 0))) := Lib.hid AL.out.2.2
  clear AL
  have c0 := qcell XF.out 0 (.int .i64 f.eye) rfl
  have c1 := qcell XF.out 1 (.int .i64 f.rings) rfl
  have c2 := qcell XF.out 2 (.int .i64 f.sectors) rfl
  have c3 := qcell XF.out 3 (.slice a f.kinds.length n) rfl
  go_wp2_with (first
    | (refine wpList_load_row rfl 28 _ rfl p rfl 28 (f.cells a n) (0, 0) _ XF.out Tryz.underlying28 rfl (by exact (qJF f a n)) ?_)
    | (refine wpList_load_row rfl 28 _ rfl z rfl 28 (zeroF.cells none 0) (0, 0) _ XZ.out Tryz.underlying28 rfl (by exact (qJF zeroF none 0)) ?_)
    | fail)
  refine (AV.out W0 BF.out).mono ?_
  rintro e V1 ⟨rfl, b⟩
  clear c0 c1 c2 c3
  replace BF := Lib.hid (BF.out.trans (b.mono BF.out.size))
  replace XF := Lib.hid (qblk b XF.out)
  replace XZ := Lib.hid (qblk b XZ.out)
  clear b
  have c0 := qcell XF.out 0 (.int .i64 f.eye) rfl
  have c1 := qcell XF.out 1 (.int .i64 f.rings) rfl
  have c2 := qcell XF.out 2 (.int .i64 f.sectors) rfl
  have c3 := qcell XF.out 3 (.slice a f.kinds.length n) rfl
  cases hv : f.valid
  · go_wp2_with (first
      | (refine wpList_load_row rfl 28 _ rfl p rfl 28 (f.cells a n) (0, 0) _ XF.out Tryz.underlying28 rfl (by exact (qJF f a n)) ?_)
      | (refine wpList_load_row rfl 28 _ rfl z rfl 28 (zeroF.cells none 0) (0, 0) _ XZ.out Tryz.underlying28 rfl (by exact (qJF zeroF none 0)) ?_)
      | (refine wpList_qstore rfl 28 _ _ rfl z (zeroF.cells none 0) (zeroF.cells none 0) 28 rfl rfl XZ.out (by exact (qJF zeroF none 0)) rfl (qone zeroF none 0) ?_; intro VZ hzz hgz; clear c0 c1 c2 c3; replace BF := Lib.hid (qstep BF.out hgz (by have h1 := hz.out; omega)); replace XF := Lib.hid (qgrown hgz XF.out (fun e => by have h1 := hp.out; have h2 := hz.out; have := Option.some.inj e; omega)); replace XZ := Lib.hid hzz; clear hzz hgz; have c0 := qcell XF.out 0 (.int .i64 f.eye) rfl; have c1 := qcell XF.out 1 (.int .i64 f.rings) rfl; have c2 := qcell XF.out 2 (.int .i64 f.sectors) rfl; have c3 := qcell XF.out 3 (.slice a f.kinds.length n) rfl)
      | fail)
    (try simp only [Exit.inBlock, Exit.then])
    refine bodyPost_ret (results_ct rfl _ VZ z 28 (zeroF.cells none 0) (0, 0) _ rfl XZ.out Tryz.underlying28 rfl (by exact (qJF zeroF none 0))) rfl ?_
    unfold turnP
    rw [hv]
    exact ⟨⟨none, 0, rfl, FOwn.nil _ _⟩, BF.out⟩
  · have HV := Lib.hid hv
    clear hv
    go_wp2_with (first
      | (refine wpList_load_row rfl 28 _ rfl p rfl 28 (f.cells a n) (0, 0) _ XF.out Tryz.underlying28 rfl (by exact (qJF f a n)) ?_)
      | (refine wpList_load_row rfl 28 _ rfl z rfl 28 (zeroF.cells none 0) (0, 0) _ XZ.out Tryz.underlying28 rfl (by exact (qJF zeroF none 0)) ?_)
      | fail)
    refine (turned_any f a n by_ V1 HV.out (HR.out V1 BF.out)).mono ?_
    rintro e V3 ⟨⟨a', n', rfl, own⟩, b⟩
    have OW := Lib.hid (own.mono BF.out.size)
    clear own
    clear c0 c1 c2 c3
    replace BF := Lib.hid (BF.out.trans (b.mono BF.out.size))
    replace XF := Lib.hid (qblk b XF.out)
    replace XZ := Lib.hid (qblk b XZ.out)
    clear b
    have c0 := qcell XF.out 0 (.int .i64 f.eye) rfl
    have c1 := qcell XF.out 1 (.int .i64 f.rings) rfl
    have c2 := qcell XF.out 2 (.int .i64 f.sectors) rfl
    have c3 := qcell XF.out 3 (.slice a f.kinds.length n) rfl
    go_wp2_with (first
      | (refine wpList_load_row rfl 28 _ rfl p rfl 28 (f.cells a n) (0, 0) _ XF.out Tryz.underlying28 rfl (by exact (qJF f a n)) ?_)
      | (refine wpList_load_row rfl 28 _ rfl z rfl 28 (zeroF.cells none 0) (0, 0) _ XZ.out Tryz.underlying28 rfl (by exact (qJF zeroF none 0)) ?_)
      | (refine wpList_qstore rfl 28 _ _ rfl z (zeroF.cells none 0) ((turnF f by_).cells a' n') 28 rfl rfl XZ.out (by exact (qJF (turnF f by_) a' n')) rfl (qone (turnF f by_) a' n') ?_; intro VZ hzz hgz; clear c0 c1 c2 c3; replace BF := Lib.hid (qstep BF.out hgz (by have h1 := hz.out; omega)); replace XF := Lib.hid (qgrown hgz XF.out (fun e => by have h1 := hp.out; have h2 := hz.out; have := Option.some.inj e; omega)); replace OW := Lib.hid (OW.out.kept hgz XZ.out); replace XZ := Lib.hid hzz; clear hzz hgz; have c0 := qcell XF.out 0 (.int .i64 f.eye) rfl; have c1 := qcell XF.out 1 (.int .i64 f.rings) rfl; have c2 := qcell XF.out 2 (.int .i64 f.sectors) rfl; have c3 := qcell XF.out 3 (.slice a f.kinds.length n) rfl)
      | fail)
    (try simp only [Exit.inBlock, Exit.then])
    refine bodyPost_ret (results_ct rfl _ VZ z 28 ((turnF f by_).cells a' n') (0, 0) _ rfl XZ.out Tryz.underlying28 rfl (by exact (qJF (turnF f by_) a' n'))) rfl ?_
    unfold turnP
    rw [HV.out]
    exact ⟨⟨a', n', rfl, OW.out⟩, BF.out⟩
theorem qplain_int : Tryz.prog.plainKey 3 = true := by kernel_rfl
theorem run_eqItems_q (w : World) (d : Nat) (l m : List Int) : ∀ is : List Nat, (∀ i ∈ is, i < l.length ∧ i < m.length) →
    (Op.eqItems (d + 1) 3 (Tryz.prog.cellsOf 3) (l.map intV).toArray (m.map intV).toArray is).run Tryz.prog w = .ok (decide (∀ i ∈ is, l[i]?.getD 0 = m[i]?.getD 0)) w
  | [], _ => by simp [Op.eqItems]
  | i :: is, h => by
    have hi := h i (List.mem_cons_self ..)
    have hc : Tryz.prog.cellsOf 3 = 1 := by kernel_rfl
    have ih := run_eqItems_q w d l m is (fun j hj => h j (List.mem_cons_of_mem _ hj))
    have p1 : (part 3 (l.map intV).toArray (i * 1)).run Tryz.prog w = .ok (intV (l[i]?.getD 0)) w := run_part_plain w qplain_int (by simp [List.getElem?_eq_getElem hi.1])
    have p2 : (part 3 (m.map intV).toArray (i * 1)).run Tryz.prog w = .ok (intV (m[i]?.getD 0)) w := run_part_plain w qplain_int (by simp [List.getElem?_eq_getElem hi.2])
    have p3 := run_equalIn_int w d 3 .i64 .i64 (l[i]?.getD 0) (m[i]?.getD 0) Tryz.underlying3
    rw [hc] at ih ⊢
    simp only [Op.eqItems, Sem.run_bind, p1, p2, Result.andThen_ok]
    rw [show Op.equalIn (d + 1) 3 (intV (l[i]?.getD 0)) (intV (m[i]?.getD 0)) = Op.equalIn (d + 1) 3 (.int .i64 (l[i]?.getD 0)) (.int .i64 (m[i]?.getD 0)) from rfl, p3]
    simp only [Result.andThen_ok]
    by_cases he : l[i]?.getD 0 = m[i]?.getD 0
    · simp [he, ih]
    · simp [he]
def eq3 (x y z x' y' z' : Int) : Bool := decide ([x, y, z] = [x', y', z'])
theorem run_equal3 (w : World) (x y z x' y' z' : Int) : (Op.equalIn 10000 131 (.agg #[.int .i64 x, .int .i64 y, .int .i64 z]) (.agg #[.int .i64 x', .int .i64 y', .int .i64 z'])).run Tryz.prog w = .ok (eq3 x y z x' y' z') w := by
  obtain ⟨i, hi, _⟩ : ∃ i, Tryz.prog.info? 3 = some i ∧ True := by
    cases h : Tryz.prog.info? 3 with
    | none => exact absurd h (by
      have : (Tryz.prog.info? 3).isSome = true := by kernel_rfl
      intro h'; rw [h'] at this; cases this)
    | some i => exact ⟨i, rfl, trivial⟩
  have h := run_equalIn_array (P := Tryz.prog) w 9999 (t := 131) ([x, y, z].map intV).toArray ([x', y', z'].map intV).toArray Tryz.underlying131 hi
  rw [run_eqItems_q w 9998 [x, y, z] [x', y', z'] (List.range 3) (fun i hi => by have := List.mem_range.1 hi; simp; omega)] at h
  have e : decide (∀ i ∈ List.range 3, [x, y, z][i]?.getD 0 = [x', y', z'][i]?.getD 0) = decide ([x, y, z] = [x', y', z']) := by
    rw [decide_eq_decide]
    constructor
    · intro h
      have h0 := h 0 (by decide)
      have h1 := h 1 (by decide)
      have h2 := h 2 (by decide)
      simp at h0 h1 h2
      rw [h0, h1, h2]
    · intro h i hi
      rw [h]
  rw [e] at h
  exact h
attribute [local go_sem ↓] run_equal3
end Go.Proofs.YtimmadkbkimonaaGreatDoor
namespace Go.Proofs.YtimmadkbkimonaaGreatDoor
set_option linter.unusedSimpArgs false
set_option linter.unusedVariables false
open Go.RowKit

set_option maxHeartbeats 4000000 in
set_option maxRecDepth 100000 in
theorem isNaNZ (x : Int) (w : World) : Calls Tryz.prog 151 #[.int .i64 x] w fun e w' => e = .returned (.bool false) ∧ w' = w := by
  have h : (x != x) = false := by simp
  go_enter Tryz.func151, Tryz.ntmps151
  go_wp2_with fail
  go_ret
  exact ⟨rfl, rfl⟩
def cmp1 (x y : Int) : Int := if x < y then -1 else if y < x then 1 else 0
set_option maxHeartbeats 4000000 in
set_option maxRecDepth 100000 in
theorem cmp1_any (x y : Int) (w : World) : Calls Tryz.prog 136 #[.int .i64 x, .int .i64 y] w fun e w' => e = .returned (.int .i64 (cmp1 x y)) ∧ w' = w := by
  by_cases h1 : x < y
  · have t1 : decide (x < y) = true := by simp; omega
    go_enter Tryz.func136, Tryz.ntmps136
    go_wp2_with (refine (isNaNZ _ _).mono ?_; rintro e W1 ⟨rfl, rfl⟩)
    go_ret
    exact ⟨by unfold cmp1; rw [if_pos (by omega)]; rfl, rfl⟩
  · have t1 : decide (x < y) = false := by simp; omega
    by_cases h2 : y < x
    · have t2 : decide (y < x) = true := by simp; omega
      go_enter Tryz.func136, Tryz.ntmps136
      go_wp2_with (refine (isNaNZ _ _).mono ?_; rintro e W1 ⟨rfl, rfl⟩)
      go_ret
      exact ⟨by unfold cmp1; rw [if_neg (by omega), if_pos (by omega)]; rfl, rfl⟩
    · have t2 : decide (y < x) = false := by simp; omega
      go_enter Tryz.func136, Tryz.ntmps136
      go_wp2_with (refine (isNaNZ _ _).mono ?_; rintro e W1 ⟨rfl, rfl⟩)
      go_ret
      exact ⟨by unfold cmp1; rw [if_neg (by omega), if_neg (by omega)]; rfl, rfl⟩
set_option maxHeartbeats 4000000 in
set_option maxRecDepth 100000 in
theorem cmpZ_any (a : Option Addr) (n c : Nat) (l : List Int) (b : Option Addr) (m d : Nat) (l2 : List Int) (w : World) (hr : RdI w a n c l) (hr2 : RdI w b m d l2) :
    Calls Tryz.prog 103 #[.slice a n c, .slice b m d] w fun e w' => e = .returned (.int .i64 (cmpZ l l2)) ∧ w' = w := by
  have HN63 := Lib.hid hr.maxn
  have HM63 := Lib.hid hr2.maxn
  have HN := Lib.hid hr.len
  have HM := Lib.hid hr2.len
  have R1 := Lib.hid hr
  have R2 := Lib.hid hr2
  clear hr hr2
  go_enter Tryz.func103, Tryz.ntmps103
  go_wp2_with fail
  go_loopw [11] (fun i wr => ∃ k : Nat, i = .int .i64 k ∧ k ≤ n ∧ k ≤ m ∧ Hid (cmpZ l l2 = cmpZ (l.drop k) (l2.drop k)) ∧ wr = w) (fun i _ => n - (intOf i).toNat)
  case atStart => exact ⟨0, rfl, Nat.zero_le _, Nat.zero_le _, Lib.hid rfl, rfl⟩
  case round =>
    obtain ⟨k, rfl, hk, hkm, HC, rfl⟩ := hrel
    by_cases hkn : k < n
    · have t0 : decide ((k : Int) < (n : Int)) = true := by simp; omega
      obtain ⟨x, hx⟩ : ∃ x, l[k]? = some x := ⟨l[k]'(by rw [HN.out]; exact hkn), List.getElem?_eq_getElem _⟩
      obtain ⟨b0, off, rfl, hc1⟩ := R1.out.get hx
      have HX := Lib.hid hx
      clear hx
      by_cases hkm2 : k < m
      · have t1 : decide ((m : Int) ≤ (k : Int)) = false := by simp; omega
        obtain ⟨y, hy⟩ : ∃ y, l2[k]? = some y := ⟨l2[k]'(by rw [HM.out]; exact hkm2), List.getElem?_eq_getElem _⟩
        obtain ⟨b1, off1, rfl, hc2⟩ := R2.out.get hy
        have HY := Lib.hid hy
        clear hy
        have ST : Hid (cmpZ l l2 = if x < y then -1 else if y < x then 1 else cmpZ (l.drop (k + 1)) (l2.drop (k + 1))) := Lib.hid (by
          have e1 : l.drop k = x :: l.drop (k + 1) := by
            have h := List.drop_eq_getElem_cons (l := l) (i := k) (by rw [HN.out]; exact hkn)
            rw [h]
            have h2 := HX.out
            rw [List.getElem?_eq_getElem (by rw [HN.out]; exact hkn)] at h2
            rw [Option.some.inj h2]
          have e2 : l2.drop k = y :: l2.drop (k + 1) := by
            have h := List.drop_eq_getElem_cons (l := l2) (i := k) (by rw [HM.out]; exact hkm2)
            rw [h]
            have h2 := HY.out
            rw [List.getElem?_eq_getElem (by rw [HM.out]; exact hkm2)] at h2
            rw [Option.some.inj h2]
          rw [HC.out, e1, e2]
          rfl)
        go_wp2_with fail
        refine (cmp1_any x y _).mono ?_
        rintro e W1 ⟨rfl, rfl⟩
        obtain ⟨c, hc⟩ : ∃ c, Hid (cmp1 x y = c) := ⟨_, Lib.hid rfl⟩
        rw [hc.out]
        by_cases h0 : c = 0
        · have t2 : (c != 0) = false := by simp [h0]
          go_upto_region 10 with fail
          have hk64 : (k : Int) + 1 ≤ 9223372036854775807 := by have := HN63.out; omega
          go_wp2_with fail
          go_roundw
          case rel =>
            refine ⟨k + 1, by simp, by omega, by omega, Lib.hid ?_, by trivial⟩
            rw [ST.out]
            have h1 := hc.out
            unfold cmp1 at h1
            split at h1
            · omega
            · split at h1
              · omega
              · rename_i h2 h3
                rw [if_neg h2, if_neg h3]
          case measure => simp [intOf]; omega
        · have t2 : (c != 0) = true := by simp [h0]
          go_wp2_with fail
          go_ret
          have e : cmpZ l l2 = c := by
            rw [ST.out]
            have h1 := hc.out
            unfold cmp1 at h1
            split at h1
            · rename_i h2; rw [if_pos h2]; exact h1
            · rename_i h2
              rw [if_neg h2]
              split at h1
              · rename_i h3; rw [if_pos h3]; exact h1
              · exact absurd h1.symm h0
          rw [e]
          exact ⟨rfl, rfl⟩
      · have t1 : decide ((m : Int) ≤ (k : Int)) = true := by simp; omega
        go_wp2_with fail
        go_ret
        have e2 : cmpZ l l2 = 1 := by
          rw [HC.out, List.drop_of_length_le (l := l2) (by have := HM.out; omega), List.drop_eq_getElem_cons (l := l) (i := k) (by rw [HN.out]; exact hkn)]
          rfl
        rw [e2]
        exact ⟨rfl, rfl⟩
    · have t0 : decide ((k : Int) < (n : Int)) = false := by simp; omega
      have E1 : Hid (l.drop k = []) := Lib.hid (List.drop_of_length_le (by have := HN.out; omega))
      have EK : Hid (k = n) := Lib.hid (by omega)
      by_cases hnm : n < m
      · have t1 : decide ((n : Int) < (m : Int)) = true := by simp; omega
        have e2 : cmpZ l l2 = -1 := by
          rw [HC.out, E1.out, List.drop_eq_getElem_cons (l := l2) (i := k) (by have := HM.out; have := EK.out; omega)]
          rfl
        have E2 := Lib.hid e2
        clear e2
        go_wp2_with fail
        go_ret
        rw [E2.out]
        exact ⟨rfl, rfl⟩
      · have t1 : decide ((n : Int) < (m : Int)) = false := by simp; omega
        have e2 : cmpZ l l2 = 0 := by
          rw [HC.out, E1.out, List.drop_of_length_le (by have := HM.out; have := EK.out; omega)]
          rfl
        have E2 := Lib.hid e2
        clear e2
        go_wp2_with fail
        go_ret
        rw [E2.out]
        exact ⟨rfl, rfl⟩
end Go.Proofs.YtimmadkbkimonaaGreatDoor
namespace Go.Proofs.YtimmadkbkimonaaGreatDoor
set_option linter.unusedSimpArgs false
set_option linter.unusedVariables false
open Go.Shelf

def sh_lays189_ren : Go.Shelf.Ren := ⟨fun | 189 => 130 | 125 => 150 | 257 => 149 | 128 => 176 | 129 => 177 | 294 => 167 | 295 => 168 | 296 => 169 | 297 => 170 | 298 => 171 | 299 => 172 | 216 => 173 | 300 => 174 | 301 => 175 | 328 => 189 | 329 => 190 | 330 => 191 | 331 => 192 | 332 => 193 | 215 => 151 | 343 => 200 | n => n, fun | 28 => 26 | 3 => 3 | 46 => 162 | 0 => 0 | 51 => 181 | 53 => 183 | 4 => 4 | 183 => 174 | 182 => 173 | 131 => 145 | 5 => 5 | 9 => 9 | 218 => 202 | 222 => 142 | 228 => 215 | 229 => 216 | n => n, fun | n => n⟩
theorem sh_lays189 : Go.Proofs.Lays.n189 Tryz.prog sh_lays189_ren := {
  mixed := by kernel_rfl
  f125 := Tryz.func150.trans (congrArg some (by kernel_rfl))
  f128 := Tryz.func176.trans (congrArg some (by kernel_rfl))
  f129 := Tryz.func177.trans (congrArg some (by kernel_rfl))
  f189 := Tryz.func130.trans (congrArg some (by kernel_rfl))
  f215 := Tryz.func151.trans (congrArg some (by kernel_rfl))
  f216 := Tryz.func173.trans (congrArg some (by kernel_rfl))
  f257 := Tryz.func149.trans (congrArg some (by kernel_rfl))
  f294 := Tryz.func167.trans (congrArg some (by kernel_rfl))
  f295 := Tryz.func168.trans (congrArg some (by kernel_rfl))
  f296 := Tryz.func169.trans (congrArg some (by kernel_rfl))
  f297 := Tryz.func170.trans (congrArg some (by kernel_rfl))
  f298 := Tryz.func171.trans (congrArg some (by kernel_rfl))
  f299 := Tryz.func172.trans (congrArg some (by kernel_rfl))
  f300 := Tryz.func174.trans (congrArg some (by kernel_rfl))
  f301 := Tryz.func175.trans (congrArg some (by kernel_rfl))
  f328 := Tryz.func189.trans (congrArg some (by kernel_rfl))
  f329 := Tryz.func190.trans (congrArg some (by kernel_rfl))
  f330 := Tryz.func191.trans (congrArg some (by kernel_rfl))
  f331 := Tryz.func192.trans (congrArg some (by kernel_rfl))
  f332 := Tryz.func193.trans (congrArg some (by kernel_rfl))
  f343 := Tryz.func200.trans (congrArg some (by kernel_rfl))
  t0 := Tryz.underlying0
  a0 := Tryz.isAgg0
  z0 := Tryz.sizeOf0
  v0 := Tryz.zeroValue0
  t3 := Tryz.underlying3
  a3 := Tryz.isAgg3
  z3 := Tryz.sizeOf3
  v3 := Tryz.zeroValue3
  t4 := Tryz.underlying4
  a4 := Tryz.isAgg4
  z4 := Tryz.sizeOf4
  v4 := Tryz.zeroValue4
  t5 := Tryz.underlying5
  a5 := Tryz.isAgg5
  z5 := Tryz.sizeOf5
  v5 := Tryz.zeroValue5
  t9 := Tryz.underlying9
  a9 := Tryz.isAgg9
  z9 := Tryz.sizeOf9
  v9 := Tryz.zeroValue9
  t28 := Tryz.underlying26
  a28 := Tryz.isAgg26
  z28 := Tryz.sizeOf26
  v28 := Tryz.zeroValue26
  t46 := Tryz.underlying162
  a46 := Tryz.isAgg162
  z46 := Tryz.sizeOf162
  v46 := Tryz.zeroValue162
  t51 := Tryz.underlying181
  a51 := Tryz.isAgg181
  z51 := Tryz.sizeOf181
  v51 := Tryz.zeroValue181
  t53 := Tryz.underlying183
  a53 := Tryz.isAgg183
  z53 := Tryz.sizeOf183
  v53 := Tryz.zeroValue183
  t131 := Tryz.underlying145
  a131 := Tryz.isAgg145
  z131 := Tryz.sizeOf145
  v131 := Tryz.zeroValue145
  t182 := Tryz.underlying173
  a182 := Tryz.isAgg173
  z182 := Tryz.sizeOf173
  v182 := Tryz.zeroValue173
  t183 := Tryz.underlying174
  a183 := Tryz.isAgg174
  z183 := Tryz.sizeOf174
  v183 := Tryz.zeroValue174
  t218 := Tryz.underlying202
  a218 := Tryz.isAgg202
  z218 := Tryz.sizeOf202
  v218 := Tryz.zeroValue202
  t222 := Tryz.underlying142
  a222 := Tryz.isAgg142
  z222 := Tryz.sizeOf142
  v222 := Tryz.zeroValue142
  t228 := Tryz.underlying215
  a228 := Tryz.isAgg215
  z228 := Tryz.sizeOf215
  v228 := Tryz.zeroValue215
  t229 := Tryz.underlying216
  a229 := Tryz.isAgg216
  z229 := Tryz.sizeOf216
  v229 := Tryz.zeroValue216 }
open Go.Sort Go.RowKit in
theorem sh_slices_Sort_int (blk off cap : Nat) (zs : List Int) (w : World) (hH : Holds (Value.int .i64) w blk off zs.toArray) (hblk : blk < w.heap.size) (hsz : zs.length < 4611686018427387904) :
    Calls Tryz.prog 130 #[.slice (some ⟨blk, off, none⟩) zs.length cap] w fun e w' =>
      e = .returned (.tuple #[]) ∧ ∃ n os, w' = grow (putRow (Value.int .i64) (Sort.ahead w n) blk off (zs.mergeSort fun x y => decide (x ≤ y)).toArray) os := Any.slices_Sort_int sh_lays189 blk off cap zs w hH hblk hsz
def sh_laysNm220_ren : Go.Shelf.Ren := ⟨fun | 20 => 131 | n => n, fun | 22 => 26 | 3 => 3 | 4 => 4 | 0 => 0 | n => n, fun | n => n⟩
theorem sh_laysNm220 : Go.Proofs.Lays2.n20 Tryz.prog sh_laysNm220_ren := {
  mixed := by kernel_rfl
  f20 := Tryz.func131.trans (congrArg some (by kernel_rfl))
  t0 := Tryz.underlying0
  a0 := Tryz.isAgg0
  z0 := Tryz.sizeOf0
  v0 := Tryz.zeroValue0
  t3 := Tryz.underlying3
  a3 := Tryz.isAgg3
  z3 := Tryz.sizeOf3
  v3 := Tryz.zeroValue3
  t4 := Tryz.underlying4
  a4 := Tryz.isAgg4
  z4 := Tryz.sizeOf4
  v4 := Tryz.zeroValue4
  t22 := Tryz.underlying26
  a22 := Tryz.isAgg26
  z22 := Tryz.sizeOf26
  v22 := Tryz.zeroValue26
  i3 := by kernel_rfl }
open Go.RowKit Go.Lib Go.Sort in
theorem sh_slices_Compact_int (blk off cap : Nat) (zs : List Int) (w : World) (hH : Holds (Value.int .i64) w blk off zs.toArray) (hsz : zs.length ≤ 9223372036854775807) (hcap : zs.length ≤ cap) :
    Calls Tryz.prog 131 #[.slice (some ⟨blk, off, none⟩) zs.length cap] w fun e w' => e = .returned (.slice (some ⟨blk, off, none⟩) (Lib.compact zs).length cap) ∧ ∃ q, w' = putRow (Value.int .i64) (Sort.ahead w q) blk off (Lib.compact zs ++ List.replicate (zs.length - (Lib.compact zs).length) 0).toArray := Any.slices_Compact_int sh_laysNm220 blk off cap zs w hH hsz hcap
end Go.Proofs.YtimmadkbkimonaaGreatDoor
namespace Go.Proofs.YtimmadkbkimonaaGreatDoor
set_option linter.unusedSimpArgs false
set_option linter.unusedVariables false
open Go.RowKit Go.Sort

def KeptBut (base : Nat) (w w' : World) : Prop := (∀ (p : Nat) (ob : Obj), w.heap[p]? = some ob → (∀ cur, ob ≠ .cells cur 3 (0, 0)) → w'.heap[p]? = some ob) ∧ ∀ W, Below base W w → Below base W w'
theorem compactUpTo_le (d : Array Int) : ∀ m, (Lib.compactUpTo d m).length ≤ m
  | 0 => by simp [Lib.compactUpTo]
  | m + 1 => by
    have := compactUpTo_le d m
    rw [Lib.compactUpTo_succ, List.length_append]
    split <;> simp <;> omega
theorem compact_le (xs : List Int) : (Lib.compact xs).length ≤ xs.length := compactUpTo_le xs.toArray xs.length
theorem own_turn {w w' : World} {base g n c m : Nat} {xs ys : List Int} (h : w.ownsRow base 3 1 (.slice (some ⟨g, 0, none⟩) n c) n (xs.map intV)) (hy : ys.length = n) (hm : m ≤ n) (hb : base ≤ w.heap.size) (d : List Int) (hd : d = ys.take m)
    (hw : ∃ q os, w' = grow (putRow (Value.int .i64) (Sort.ahead w q) g 0 ys.toArray) os) : w'.ownsRow base 3 1 (.slice (some ⟨g, 0, none⟩) m c) m (d.map intV) ∧ KeptBut base w w' := by
  obtain ⟨q, os, rfl⟩ := hw
  obtain ⟨h1, h2⟩ := h
  rcases h2 with ⟨h2, _⟩ | ⟨g', cap, cur, hv, hbg, hg, hn, hc, hs, ht⟩
  · cases h2
  · simp only [Value.slice.injEq, Option.some.injEq, Addr.mk.injEq] at hv
    obtain ⟨⟨rfl, _⟩, _, rfl⟩ := hv
    have hgl := qlt hg
    have hG : w.grownBy (grow (putRow (Value.int .i64) (Sort.ahead w q) g 0 ys.toArray) os) (some g) := by
      refine ⟨rfl, rfl, rfl, by simp [grow, putRow, mapBlock, Sort.ahead], fun q' hq' hne => ?_⟩
      have hqg : g ≠ q' := fun e => hne (by rw [← e])
      simp only [grow, putRow, mapBlock, Sort.ahead]
      rw [Array.getElem?_append_left (by simpa using hq'), Array.getElem?_modify, if_neg hqg]
    refine ⟨⟨by rw [List.length_map, hd, List.length_take]; omega, .inr ⟨g, c, putCells (Value.int .i64) 0 ys.toArray cur, rfl, hbg, ?_, by omega, hc, ?_, ?_⟩⟩, fun p ob hp ho => qgrown hG hp (fun e => by
      cases e
      rw [hg] at hp
      exact ho cur (Option.some.inj hp).symm), fun W hb2 => hb2.grown hG hb (fun k e => by cases e; exact hbg)⟩
    · simp only [grow, putRow, mapBlock, Sort.ahead]
      rw [Array.getElem?_append_left (by simpa using hgl), Array.getElem?_modify, if_pos rfl, hg]
      rfl
    · rw [← hs]; simp [putCells]
    · apply List.ext_getElem?
      intro t
      rw [List.getElem?_take]
      by_cases ht2 : t < m * 1
      · rw [if_pos ht2]
        have htc : t < cur.size := by rw [hs]; omega
        simp only [putCells, Array.getElem?_toList, Array.getElem?_mapIdx, Array.getElem?_eq_getElem htc, Option.map_some]
        rw [if_pos ⟨Nat.zero_le _, by simp; omega⟩, List.getElem?_map, hd, List.getElem?_take, if_pos (by omega), List.getElem?_eq_getElem (by omega)]
        rw [Nat.sub_zero, getElem!_pos ys.toArray t (by simp; omega)]
        simp [intV]
      · rw [if_neg ht2, List.getElem?_eq_none]
        rw [List.length_map, hd, List.length_take]
        omega
theorem own_holds {w : World} {base g n c : Nat} {xs : List Int} (h : w.ownsRow base 3 1 (.slice (some ⟨g, 0, none⟩) n c) n (xs.map intV)) : Holds (Value.int .i64) w g 0 xs.toArray ∧ g < w.heap.size ∧ n ≤ c := by
  have hl : xs.length = n := by simpa using h.1
  rcases h.2 with ⟨h2, _⟩ | ⟨g', cap, cur, hv, hbg, hg, hn, hc, hs, ht⟩
  · cases h2
  · simp only [Value.slice.injEq, Option.some.injEq, Addr.mk.injEq] at hv
    obtain ⟨⟨rfl, _⟩, _, rfl⟩ := hv
    refine ⟨fun j hj => ⟨?_, qfroz hg (0 + j)⟩, qlt hg, hn⟩
    have hj2 : j < xs.length := by simpa using hj
    have e : (cur.toList.take (n * 1))[j]? = (xs.map intV)[j]? := by rw [ht]
    rw [List.getElem?_take, if_pos (by omega), List.getElem?_map, List.getElem?_eq_getElem hj2] at e
    refine qcell hg (0 + j) _ ?_
    rw [Nat.zero_add, getElem!_pos xs.toArray j hj]
    simpa [intV] using e
theorem sortZ_any (base : Nat) (a : Option Addr) (n c : Nat) (xs : List Int) (w : World) (h : w.ownsRow base 3 1 (.slice a n c) n (xs.map intV)) (h0 : 0 < n) (hn : n ≤ 1000000) (hb : base ≤ w.heap.size) :
    Calls Tryz.prog 130 #[.slice a n c] w fun e w' => e = .returned (.tuple #[]) ∧ w'.ownsRow base 3 1 (.slice a n c) n ((xs.mergeSort fun x y => decide (x ≤ y)).map intV) ∧ KeptBut base w w' := by
  obtain ⟨g, rfl⟩ : ∃ g, a = some ⟨g, 0, none⟩ := by
    rcases h.2 with ⟨h1, h2⟩ | ⟨g', cap, cur, h1, _⟩
    · omega
    · simp only [Value.slice.injEq] at h1; exact ⟨g', h1.1⟩
  have hl : xs.length = n := by simpa using h.1
  obtain ⟨k1, k2, k3⟩ := own_holds h
  have := sh_slices_Sort_int g 0 c xs w k1 k2 (by omega)
  rw [hl] at this
  refine this.mono ?_
  rintro e w' ⟨rfl, q, os, rfl⟩
  have hp := (List.mergeSort_perm xs (fun x y => decide (x ≤ y))).length_eq
  exact ⟨rfl, own_turn (m := n) h (hp.trans hl) (Nat.le_refl _) hb _ (List.take_of_length_le (by omega)).symm ⟨q, os, rfl⟩⟩
theorem compactZ_any (base : Nat) (a : Option Addr) (n c : Nat) (xs : List Int) (w : World) (h : w.ownsRow base 3 1 (.slice a n c) n (xs.map intV)) (h0 : 0 < n) (hn : n ≤ 1000000) (hb : base ≤ w.heap.size) :
    Calls Tryz.prog 131 #[.slice a n c] w fun e w' => e = .returned (.slice a (Lib.compact xs).length c) ∧ w'.ownsRow base 3 1 (.slice a (Lib.compact xs).length c) (Lib.compact xs).length ((Lib.compact xs).map intV) ∧ KeptBut base w w' := by
  obtain ⟨g, rfl⟩ : ∃ g, a = some ⟨g, 0, none⟩ := by
    rcases h.2 with ⟨h1, h2⟩ | ⟨g', cap, cur, h1, _⟩
    · omega
    · simp only [Value.slice.injEq] at h1; exact ⟨g', h1.1⟩
  have hl : xs.length = n := by simpa using h.1
  obtain ⟨k1, k2, k3⟩ := own_holds h
  have := sh_slices_Compact_int g 0 c xs w k1 (by omega) (by omega)
  rw [hl] at this
  refine this.mono ?_
  rintro e w' ⟨rfl, q, rfl⟩
  have hle : (Lib.compact xs).length ≤ n := by rw [← hl]; exact compact_le xs
  refine ⟨rfl, own_turn (m := (Lib.compact xs).length) (ys := Lib.compact xs ++ List.replicate (n - (Lib.compact xs).length) 0) h (by rw [List.length_append, List.length_replicate]; omega) hle hb _ (by rw [List.take_left]) ⟨q, #[], ?_⟩⟩
  simp [grow]
  rfl
end Go.Proofs.YtimmadkbkimonaaGreatDoor
namespace Go.Proofs.YtimmadkbkimonaaGreatDoor
set_option linter.unusedSimpArgs false
set_option linter.unusedVariables false
open Go.RowKit

theorem floor_eq (a b : Int) (hb : 0 < b) : Int.tdiv (a - around a b) b = a / b := by
  unfold around
  have h := Int.mul_ediv_add_emod a b
  rw [show a - a % b = b * (a / b) by omega]
  exact Int.mul_tdiv_cancel_left _ (by omega)
def cutK (f : FaceV) (x : FurV) (ring first : Int) (l : List Int) (k : Nat) : List Int := ((List.range k).map fun (n : Nat) => (indexF f ring (first + x.at_ + leanF f.rings x ring + n), if (n : Int) < x.steep then (1 : Int) else 2)).foldl putE l
theorem cutK_succ (f : FaceV) (x : FurV) (ring first : Int) (l : List Int) (k : Nat) : cutK f x ring first l (k + 1) = putE (cutK f x ring first l k) (indexF f ring (first + x.at_ + leanF f.rings x ring + k), if (k : Int) < x.steep then (1 : Int) else 2) := by
  unfold cutK
  rw [List.range_succ, List.map_append, List.foldl_append]
  rfl
theorem putE_ok {f : FaceV} {l : List Int} {e : Int × Int} (h : ({ f with kinds := l } : FaceV).valid = true) (he : e.2 = 1 ∨ e.2 = 2) : ({ f with kinds := putE l e } : FaceV).valid = true := by
  obtain ⟨h1, h2, h3, h4, h5⟩ := FaceV.valid_iff.1 h
  refine FaceV.valid_iff.2 ⟨h1, h2, h3, ?_, fun k hk => ?_⟩
  · show ((putE l e).length : Int) = _
    rw [putE_len]
    exact h4
  · have hk2 : k ∈ putE l e := hk
    unfold putE at hk2
    split at hk2
    · rcases List.mem_or_eq_of_mem_set hk2 with h | h
      · exact h5 k h
      · omega
    · exact h5 k hk2
theorem cutK_ok {f : FaceV} {x : FurV} {ring first : Int} {l : List Int} (h : ({ f with kinds := l } : FaceV).valid = true) : ∀ k, ({ f with kinds := cutK f x ring first l k } : FaceV).valid = true
  | 0 => h
  | k + 1 => by
    rw [cutK_succ]
    refine putE_ok (cutK_ok h k) ?_
    dsimp only
    split
    · exact .inl rfl
    · exact .inr rfl
def ringK (f : FaceV) (p : PatV) (x : FurV) (ring : Int) (l : List Int) (h : Nat) : List Int := ((List.range h).flatMap fun (h : Nat) => cutE f x ring (h * p.wide)).foldl putE l
theorem ringK_succ (f : FaceV) (p : PatV) (x : FurV) (ring : Int) (l : List Int) (h : Nat) : ringK f p x ring l (h + 1) = cutK f x ring (h * p.wide) (ringK f p x ring l h) (wideF x) := by
  unfold ringK
  rw [List.range_succ, List.flatMap_append, List.foldl_append, List.flatMap_singleton]
  rfl
theorem ringK_ok {f : FaceV} {p : PatV} {x : FurV} {ring : Int} {l : List Int} (h : ({ f with kinds := l } : FaceV).valid = true) : ∀ k, ({ f with kinds := ringK f p x ring l k } : FaceV).valid = true
  | 0 => h
  | k + 1 => by rw [ringK_succ]; exact cutK_ok (ringK_ok h k) _
theorem ringK_len (f : FaceV) (p : PatV) (x : FurV) (ring : Int) (l : List Int) (k : Nat) : (ringK f p x ring l k).length = l.length := putE_lens _ _
def furK (f : FaceV) (p : PatV) (x : FurV) (l : List Int) (k : Nat) : List Int := ((List.range k).flatMap fun (k : Nat) => ringE f p x (x.from_ + k)).foldl putE l
theorem furK_succ (f : FaceV) (p : PatV) (x : FurV) (l : List Int) (k : Nat) : furK f p x l (k + 1) = ringK f p x (x.from_ + k) (furK f p x l k) p.harps.toNat := by
  unfold furK
  rw [List.range_succ, List.flatMap_append, List.foldl_append, List.flatMap_singleton]
  rfl
theorem furK_ok {f : FaceV} {p : PatV} {x : FurV} {l : List Int} (h : ({ f with kinds := l } : FaceV).valid = true) : ∀ k, ({ f with kinds := furK f p x l k } : FaceV).valid = true
  | 0 => h
  | k + 1 => by rw [furK_succ]; exact ringK_ok (furK_ok h k) _
theorem furK_len (f : FaceV) (p : PatV) (x : FurV) (l : List Int) (k : Nat) : (furK f p x l k).length = l.length := putE_lens _ _
def patK (p : PatV) (k : Nat) : List Int := (p.furs.take k).foldl (fun l x => (furE (patF p) p x).foldl putE l) (patF p).kinds
theorem patK_succ (p : PatV) {k : Nat} {x : FurV} (h : p.furs[k]? = some x) : patK p (k + 1) = furK (patF p) p x (patK p k) (p.rings - x.from_).toNat := by
  unfold patK
  rw [List.take_add_one, h, List.foldl_append]
  rfl
theorem patK_all (p : PatV) : ({ patF p with kinds := patK p p.furs.length } : FaceV) = dressF p := by
  unfold patK dressF
  rw [List.take_length]
theorem patK_ok {p : PatV} (hp : p.valid = true) : ∀ k, ({ patF p with kinds := patK p k } : FaceV).valid = true
  | 0 => patF_valid hp
  | k + 1 => by
    rcases Nat.lt_or_ge k p.furs.length with h | h
    · rw [patK_succ p (List.getElem?_eq_getElem h)]
      exact furK_ok (patK_ok hp k) _
    · have : patK p (k + 1) = patK p k := by unfold patK; rw [List.take_of_length_le (by omega), List.take_of_length_le h]
      rw [this]
      exact patK_ok hp k
theorem patK_len (p : PatV) : ∀ k, (patK p k).length = (patF p).kinds.length
  | 0 => rfl
  | k + 1 => by
    rcases Nat.lt_or_ge k p.furs.length with h | h
    · rw [patK_succ p (List.getElem?_eq_getElem h), furK_len, patK_len p k]
    · have : patK p (k + 1) = patK p k := by unfold patK; rw [List.take_of_length_le (by omega), List.take_of_length_le h]
      rw [this, patK_len p k]
theorem lean_bound {p : PatV} (hp : p.valid = true) {x : FurV} (hx : x ∈ p.furs) {ring : Int} (hr : 0 ≤ ring ∧ ring ≤ p.rings - 1) : -2304 ≤ (p.rings - 1 - ring) * x.lean ∧ (p.rings - 1 - ring) * x.lean ≤ 2304 := by
  obtain ⟨⟨_, h2, _⟩, hf⟩ := PatV.valid_iff.1 hp
  obtain ⟨_, _, h3, _⟩ := hf x hx
  have a1 : (p.rings - 1 - ring) * x.lean ≤ 24 * 96 := by
    rcases Int.le_total 0 x.lean with h | h
    · exact Int.mul_le_mul (by omega) h3.2 h (by omega)
    · have := Int.mul_nonpos_of_nonneg_of_nonpos (show 0 ≤ p.rings - 1 - ring by omega) h; omega
  have a2 : (p.rings - 1 - ring) * (-x.lean) ≤ 24 * 96 := by
    rcases Int.le_total 0 (-x.lean) with h | h
    · exact Int.mul_le_mul (by omega) (by omega) h (by omega)
    · have := Int.mul_nonpos_of_nonneg_of_nonpos (show 0 ≤ p.rings - 1 - ring by omega) h; omega
  rw [Int.mul_neg] at a2
  omega
end Go.Proofs.YtimmadkbkimonaaGreatDoor
namespace Go.Proofs.YtimmadkbkimonaaGreatDoor
set_option linter.unusedSimpArgs false
set_option linter.unusedVariables false
open Go.RowKit

theorem kept_below {base : Nat} {w w' : World} (hb : Below w.heap.size w w') (h : base ≤ w.heap.size) : KeptBut base w w' := ⟨fun p ob hp _ => qblk hb hp, fun W hW => hW.trans (hb.mono h)⟩
theorem KeptBut.trans {base : Nat} {w w' w'' : World} (h : KeptBut base w w') (h' : KeptBut base w' w'') : KeptBut base w w'' := ⟨fun p ob hp hn => h'.1 p ob (h.1 p ob hp hn) hn, fun W hW => h'.2 W (h.2 W hW)⟩
theorem KeptBut.refl (base : Nat) (w : World) : KeptBut base w w := ⟨fun _ _ h _ => h, fun _ h => h⟩
theorem kept_put {base g i : Nat} {w : World} {v : Value} {cur : Array Value} (hg : w.heap[g]? = some (.cells cur 3 (0, 0))) (hb : base ≤ g) (h : base ≤ w.heap.size) : KeptBut base w (w.setCell ⟨g, i, none⟩ v) :=
  ⟨fun p ob hp hn => qgrown (qput_grown w g i v) hp (fun e => by
    cases (Option.some.inj e)
    rw [hg] at hp
    cases hp
    exact hn _ rfl), fun W hW => hW.grown (qput_grown w g i v) h (fun k e => by cases e; exact hb)⟩
theorem own_block {w : World} {base g n c : Nat} {xs : List Value} (h : w.ownsRow base 3 1 (.slice (some ⟨g, 0, none⟩) n c) n xs) : ∃ cur, w.heap[g]? = some (.cells cur 3 (0, 0)) := by
  obtain ⟨h1, h2⟩ := h
  rcases h2 with ⟨h2, _⟩ | ⟨g', cap, cur, hv, hb, hg, _⟩
  · cases h2
  · simp only [Value.slice.injEq, Option.some.injEq, Addr.mk.injEq] at hv
    obtain ⟨⟨rfl, _, _⟩, _, rfl⟩ := hv
    exact ⟨cur, hg⟩
structure CuAt (base : Nat) (w : World) (p q : Nat) (f : FaceV) (a : Option Addr) (n : Nat) (x : FurV) (l : List Int) (W : World) : Prop where
  kept : KeptBut base w W
  le : base ≤ W.heap.size
  xf : W.heap[p]? = some (.cells (f.cells a n) 28 (0, 0))
  xu : W.heap[q]? = some (.cells (furA x) 76 (0, 0))
  own : W.ownsRow base 3 1 (.slice a f.kinds.length n) f.kinds.length (l.map intV)
theorem CuAt.below {base : Nat} {w : World} {p q : Nat} {f : FaceV} {a : Option Addr} {n : Nat} {x : FurV} {l : List Int} {W W' : World} (h : CuAt base w p q f a n x l W) (hb : Below W.heap.size W W') : CuAt base w p q f a n x l W' :=
  ⟨h.kept.trans (kept_below hb h.le), Nat.le_trans h.le hb.size, qblk hb h.xf, qblk hb h.xu, own_below h.own hb⟩
theorem CuAt.put {base : Nat} {w : World} {p q : Nat} {f : FaceV} {g n : Nat} {x : FurV} {l : List Int} {W : World} (h : CuAt base w p q f (some ⟨g, 0, none⟩) n x l W) {i : Nat} (hi : i < f.kinds.length) (v : Int) :
    CuAt base w p q f (some ⟨g, 0, none⟩) n x (l.set i v) (W.setCell ⟨g, i, none⟩ (.int .i64 v)) ∧ W.cell? ⟨g, i, none⟩ = some (.int .i64 (l[i]?.getD 0)) ∧ W.frozen? ⟨g, i, none⟩ = false := by
  obtain ⟨cur, hc⟩ := own_block h.own
  obtain ⟨o1, o2, o3, o4⟩ := own_put h.own hi v
  have K := kept_put (i := i) (v := .int .i64 v) hc o4 h.le
  exact ⟨⟨h.kept.trans K, (by have := (K.2 W (Below.refl _ _)).size; have := h.le; omega), K.1 _ _ h.xf (by simp), K.1 _ _ h.xu (by simp), o1⟩, o2, o3⟩
set_option maxHeartbeats 4000000 in
set_option maxRecDepth 100000 in
theorem floor_any (a b : Int) (w : World) (ha : -1000000 ≤ a ∧ a ≤ 1000000) (hb : 1 ≤ b ∧ b ≤ 1000000) : Calls Tryz.prog 111 #[.int .i64 a, .int .i64 b] w fun e w' => e = .returned (.int .i64 (a / b)) ∧ w' = w := by
  have HA := Lib.hid (floor_eq a b (by omega))
  have HR : Hid (0 ≤ around a b ∧ around a b < b) := Lib.hid (by unfold around; exact ⟨Int.emod_nonneg _ (by omega), Int.emod_lt_of_pos _ (by omega)⟩)
  have ws : wrap64 (a - around a b) = a - around a b := by have := HR.out; unfold wrap64; omega
  have HQ : Hid (-2000000 ≤ a / b ∧ a / b ≤ 2000000) := Lib.hid (by
    constructor
    · exact (Int.le_ediv_iff_mul_le (by omega)).2 (by omega)
    · have := Int.ediv_le_ediv (show 0 < b by omega) (show a ≤ 2000000 by omega)
      have h2 := Int.ediv_le_self (b := b) (show (0 : Int) ≤ 2000000 by omega) 
      omega)
  have wd : wrap64 (Int.tdiv (a - around a b) b) = a / b := by rw [HA.out]; have := HQ.out; unfold wrap64; omega
  have h0 : (b == 0) = false := by simp; omega
  have h0' : b ≠ 0 := by omega
  have AR := Lib.hid (around_any a b w ⟨hb.1, by omega⟩)
  clear ha hb
  go_enter Tryz.func111, Tryz.ntmps111
  go_wp2_with fail
  refine AR.out.mono ?_
  rintro e V1 ⟨rfl, rfl⟩
  go_wp2_with fail
  go_ret
  exact ⟨by first | rfl | (rw [← wd]; rfl) | (rw [wd]), rfl⟩
set_option maxHeartbeats 4000000 in
set_option maxRecDepth 100000 in
theorem cut_any (f : FaceV) (a : Option Addr) (n : Nat) (x : FurV) (ring first : Int) (base : Nat) (w : World) (hv : f.valid = true) (hx : (0 ≤ x.at_ ∧ x.at_ ≤ 96) ∧ (1 ≤ x.leans ∧ x.leans ≤ 96) ∧ (1 ≤ x.steep ∧ x.steep ≤ 96) ∧ 0 ≤ x.feather ∧ x.feather ≤ 96) (hr : 0 ≤ ring ∧ ring ≤ f.rings - 1) (hf : 0 ≤ first ∧ first ≤ 10000) (hl : -2304 ≤ (f.rings - 1 - ring) * x.lean ∧ (f.rings - 1 - ring) * x.lean ≤ 2304) (hown : w.ownsRow base 3 1 (.slice a f.kinds.length n) f.kinds.length (f.kinds.map intV)) (hbase : base ≤ w.heap.size) :
    Calls Tryz.prog 65 #[.agg (f.cells a n), .agg (furA x), .int .i64 ring, .int .i64 first] w fun e w' => e = .returned (.tuple #[]) ∧ w'.ownsRow base 3 1 (.slice a f.kinds.length n) f.kinds.length ((cutK f x ring first f.kinds (wideF x)).map intV) ∧ KeptBut base w w' := by
  have HV := Lib.hid hv
  have IV := Lib.hid (FaceV.int hv)
  have LL := Lib.hid (FaceV.len_le hv)
  have HX := Lib.hid hx
  have HRG := Lib.hid hr
  have HF := Lib.hid hf
  have HLN := Lib.hid hl
  have OWN := Lib.hid hown
  have HBS := Lib.hid hbase
  clear hv hx hr hf hl hown hbase
  have AL := Lib.hid (al2 w (.cells (f.cells a n) 28) (.cells (furA x) 76))
  go_enter Tryz.func65, Tryz.ntmps65
  go_upto_region 1 with fail
  obtain ⟨p, hp⟩ : ∃ p, Hid (w.heap.size = p) := ⟨_, Lib.hid rfl⟩
  obtain ⟨q, hq⟩ : ∃ q, Hid (w.heap.size + 1 = q) := ⟨_, Lib.hid rfl⟩
  rw [hq.out] at AL ⊢
  rw [hp.out] at AL ⊢
  generalize ((w.alloc (.cells (f.cells a n) 28)).alloc (.cells (furA x) 76)) = W0 at *
  have BF : Hid (Below w.heap.size w W0) := Lib.hid (by rw [hp.out]; exact AL.out.1)
  have XF : Hid (W0.heap[p]? = some (.cells (f.cells a n) 28 (0, 0))) := Lib.hid AL.out.2.1
  have XU : Hid (W0.heap[q]? = some (.cells (furA x) 76 (0, 0))) := Lib.hid AL.out.2.2
  clear AL
  have c0 := qcell XF.out 0 (.int .i64 f.eye) rfl
  have c1 := qcell XF.out 1 (.int .i64 f.rings) rfl
  have c2 := qcell XF.out 2 (.int .i64 f.sectors) rfl
  have c3 := qcell XF.out 3 (.slice a f.kinds.length n) rfl
  have u0 := qcell XU.out 0 (.int .i64 x.at_) rfl
  have u1 := qcell XU.out 1 (.int .i64 x.from_) rfl
  have u2 := qcell XU.out 2 (.int .i64 x.lean) rfl
  have u3 := qcell XU.out 3 (.int .i64 x.leans) rfl
  have u4 := qcell XU.out 4 (.int .i64 x.steep) rfl
  have u5 := qcell XU.out 5 (.int .i64 x.feather) rfl
  have W1 := Lib.hid (show wrap64 (first + x.at_) = first + x.at_ by have := HF.out; have := HX.out; unfold wrap64; omega)
  have W2 := Lib.hid (show wrap64 (f.rings - 1) = f.rings - 1 by have := IV.out; unfold wrap64; omega)
  have W3 := Lib.hid (show wrap64 (f.rings - 1 - ring) = f.rings - 1 - ring by have := IV.out; have := HRG.out; unfold wrap64; omega)
  have W4 := Lib.hid (show wrap64 ((f.rings - 1 - ring) * x.lean) = (f.rings - 1 - ring) * x.lean by have := HLN.out; unfold wrap64; omega)
  have LQ : Hid (-2304 ≤ leanF f.rings x ring ∧ leanF f.rings x ring ≤ 2304) := Lib.hid (by
    have h1 := HLN.out
    have h2 := HX.out.2.1
    unfold leanF
    constructor
    · exact (Int.le_ediv_iff_mul_le (by omega)).2 (by omega)
    · have := Int.ediv_le_ediv (show 0 < x.leans by omega) h1.2
      have h2 := Int.ediv_le_self (b := x.leans) (show (0 : Int) ≤ 2304 by omega)
      omega)
  have W5 := Lib.hid (show wrap64 (first + x.at_ + leanF f.rings x ring) = first + x.at_ + leanF f.rings x ring by have := HF.out; have := HX.out; have := LQ.out; unfold wrap64; omega)
  have C0 := Lib.hid (show CuAt base w p q f a n x (cutK f x ring first f.kinds 0) W0 from ⟨kept_below BF.out HBS.out, Nat.le_trans HBS.out BF.out.size, XF.out, XU.out, own_below OWN.out BF.out⟩)
  clear c0 c1 c2 c3 u0 u1 u2 u3 u4 u5
  have hd : Below W0.heap.size W0 W0.drew := (Below.refl _ _).drew
  replace C0 := Lib.hid (C0.out.below hd)
  clear hd BF XF XU
  refine zD (fun W => CuAt base w p q f a n x (cutK f x ring first f.kinds 0) W) C0.out (fun hHeld => ?_)
  generalize W0.drew = V0 at *
  refine zW 0 rfl (.int .i64 first) ?_
  refine zW 1 rfl (.pointer (some ⟨q, 0, none⟩)) ?_
  refine zS 2 rfl (.int .i64 x.at_) (fun W hW => by have c := qcell hW.xu 0 (.int .i64 x.at_) rfl; go_simp) ?_
  refine zW 3 rfl (.int .i64 (first + x.at_)) (hy := .inl ⟨by kernel_rfl, by intro W _; go_simp; exact (IntWalk.i64_left _).trans W1.out⟩) ?_
  refine zW 4 rfl (.pointer (some ⟨p, 1, none⟩)) ?_
  refine zS 5 rfl (.int .i64 f.rings) (fun W hW => by have c := qcell hW.xf 1 (.int .i64 f.rings) rfl; go_simp) ?_
  refine zW 6 rfl (.int .i64 (f.rings - 1)) (hy := .inl ⟨by kernel_rfl, by intro W _; go_simp; exact (IntWalk.i64_left _).trans W2.out⟩) ?_
  refine zW 7 rfl (.int .i64 ring) ?_
  refine zW 8 rfl (.int .i64 (f.rings - 1 - ring)) (hy := .inl ⟨by kernel_rfl, by intro W _; go_simp; exact (IntWalk.i64_left _).trans W3.out⟩) ?_
  refine zW 9 rfl (.pointer (some ⟨q, 2, none⟩)) ?_
  refine zS 10 rfl (.int .i64 x.lean) (fun W hW => by have c := qcell hW.xu 2 (.int .i64 x.lean) rfl; go_simp) ?_
  refine zW 11 rfl (.int .i64 ((f.rings - 1 - ring) * x.lean)) (hy := .inl ⟨by kernel_rfl, by intro W _; go_simp; exact (IntWalk.i64_left _).trans W4.out⟩) ?_
  refine zW 12 rfl (.pointer (some ⟨q, 3, none⟩)) ?_
  refine zS 13 rfl (.int .i64 x.leans) (fun W hW => by have c := qcell hW.xu 3 (.int .i64 x.leans) rfl; go_simp) ?_
  refine zR 14 rfl (fun K hK => ?_)
  go_simp
  refine (floor_any ((f.rings - 1 - ring) * x.lean) x.leans V0 (by have := HLN.out; omega) (by have := HX.out.2.1; omega)).mono ?_
  rintro e V1 ⟨rfl, rfl⟩
  dsimp only
  refine zK hK C0.out (fun hHeld => ?_)
  clear hK K
  have eL : ((f.rings - 1 - ring) * x.lean) / x.leans = leanF f.rings x ring := rfl
  rw [eL]
  clear eL
  refine zW 15 rfl (.int .i64 (first + x.at_ + leanF f.rings x ring)) (hy := .inl ⟨by kernel_rfl, by intro W _; go_simp; exact (IntWalk.i64_left _).trans W5.out⟩) ?_
  refine zW 16 rfl (.int .i64 (first + x.at_ + leanF f.rings x ring)) ?_
  refine zE ?_
  clear hHeld
  obtain ⟨fr, hfr⟩ : ∃ fr, Hid (first + x.at_ + leanF f.rings x ring = fr) := ⟨_, Lib.hid rfl⟩
  have FR : Hid (-3000 ≤ fr ∧ fr ≤ 14000) := Lib.hid (by have := HF.out; have := HX.out; have := LQ.out; have := hfr.out; omega)
  rw [hfr.out]
  clear W1 W2 W3 W4 W5 LQ
  obtain ⟨N, hN⟩ : ∃ N, Hid (wideF x = N) := ⟨_, Lib.hid rfl⟩
  have HN : Hid (x.steep + x.feather = (N : Int) ∧ N ≤ 200) := Lib.hid (by have h1 := HX.out; have h2 := hN.out; unfold wideF at h2; omega)
  have ws : wrap64 (x.steep + x.feather) = (N : Int) := by have := HN.out; unfold wrap64; omega
  have u4 := qcell C0.out.xu 4 (.int .i64 x.steep) rfl
  have u5 := qcell C0.out.xu 5 (.int .i64 x.feather) rfl
  go_wp2_with fail
  (try rw [ws])
  clear u4 u5 ws
  go_loopw [32] (fun v wr => ∃ k : Nat, v = .int .i64 k ∧ k ≤ N ∧ Hid (CuAt base w p q f a n x (cutK f x ring first f.kinds k) wr)) (fun v _ => N - (intOf v).toNat)
  case atStart => exact ⟨0, rfl, Nat.zero_le _, C0⟩
  case round =>
    clear C0
    obtain ⟨k, rfl, hk, C0⟩ := hrel
    by_cases hkn : k < N
    · have t0 : decide ((k : Int) < (N : Int)) = true := by simp; omega
      have hk64 : (k : Int) + 1 ≤ 9223372036854775807 := by have := HN.out; omega
      have wf : wrap64 (fr + (k : Int)) = fr + (k : Int) := by have := FR.out; have := HN.out; unfold wrap64; omega
      have HK64 := Lib.hid hk64
      clear hk64
      have XF := Lib.hid C0.out.xf
      have IL := Lib.hid (index_lt HV.out HRG.out (fr + (k : Int)))
      go_upto_region 5 with fail
      clear t0
      go_wp2_with (first | (refine wpList_load_row rfl 28 _ rfl p rfl 28 (f.cells a n) (0, 0) _ XF.out Tryz.underlying28 rfl (by exact qJF f a n) ?_) | fail)
      refine (index_any f a n ring (fr + (k : Int)) _ (by have := IV.out; omega) (by have := HRG.out; have := IV.out; omega)).mono ?_
      rintro e V4 ⟨rfl, b⟩
      replace C0 := Lib.hid (C0.out.below b)
      clear b XF wf
      obtain ⟨i, hi⟩ : ∃ i, Hid ((indexF f ring (fr + (k : Int))).toNat = i) := ⟨_, Lib.hid rfl⟩
      have HI : Hid (indexF f ring (fr + (k : Int)) = (i : Int)) := Lib.hid (by have := IL.out; have := hi.out; omega)
      have HL : Hid (i < f.kinds.length) := Lib.hid (by have := IL.out; have := hi.out; omega)
      rw [HI.out]
      obtain ⟨g, hg⟩ : ∃ g, a = some ⟨g, 0, none⟩ := by
        rcases C0.out.own.2 with ⟨h1, h2⟩ | ⟨g', cap, cur, h1, _⟩
        · have := HL.out; omega
        · simp only [Value.slice.injEq] at h1; exact ⟨g', h1.1⟩
      subst hg
      obtain ⟨l, hl⟩ : ∃ l, Hid (cutK f x ring first f.kinds k = l) := ⟨_, Lib.hid rfl⟩
      have LP := Lib.hid (cutK_succ f x ring first f.kinds k)
      rw [hfr.out, HI.out] at LP
      rw [hl.out] at C0 LP
      unfold putE at LP
      dsimp only at LP
      rw [Int.toNat_natCast] at LP
      have hlt : i < f.kinds.length := HL.out
      have C1 := Lib.hid (C0.out.put HL.out 1)
      obtain ⟨y, hy⟩ : ∃ y, Hid (l[i]?.getD 0 = y) := ⟨_, Lib.hid rfl⟩
      rw [hy.out] at LP C1
      have cc := C1.out.2.1
      have cf := C1.out.2.2
      have c3 := qcell C0.out.xf 3 (.slice (some ⟨g, 0, none⟩) f.kinds.length n) rfl
      cases he : (y == 0)
      · have HE : Hid (y ≠ 0) := Lib.hid (by simpa using he)
        go_upto_region 10 with fail
        have hk64 := HK64.out
        go_wp2_with fail
        go_roundw
        case rel => exact ⟨k + 1, by simp, by omega, Lib.hid (by rw [LP.out, if_neg HE.out]; exact C0.out)⟩
        case measure => simp [intOf]; omega
      · have HE : Hid (y = 0) := Lib.hid (by simpa using he)
        go_upto_region 8 with fail
        clear cc cf c3
        replace C0 := Lib.hid C1.out.1
        clear C1
        generalize wSet : V4.setCell ⟨g, i, none⟩ (.int .i64 1) = V5 at *
        clear wSet
        have C2 := Lib.hid (C0.out.put HL.out 2)
        have cc := C2.out.2.1
        have cf := C2.out.2.2
        have c3 := qcell C0.out.xf 3 (.slice (some ⟨g, 0, none⟩) f.kinds.length n) rfl
        have u4 := qcell C0.out.xu 4 (.int .i64 x.steep) rfl
        cases hs : decide (x.steep ≤ (k : Int))
        · have HS : Hid ((k : Int) < x.steep) := Lib.hid (by have := of_decide_eq_false hs; omega)
          go_upto_region 10 with fail
          have hk64 := HK64.out
          go_wp2_with fail
          go_roundw
          case rel => exact ⟨k + 1, by simp, by omega, Lib.hid (by rw [LP.out, if_pos HE.out, if_pos HS.out]; exact C0.out)⟩
          case measure => simp [intOf]; omega
        · have HS : Hid (¬ (k : Int) < x.steep) := Lib.hid (by have := of_decide_eq_true hs; omega)
          go_upto_region 10 with fail
          clear cc cf c3 u4
          replace C0 := Lib.hid C2.out.1
          rw [List.set_set] at C0
          clear C2
          generalize wSet : V5.setCell ⟨g, i, none⟩ (.int .i64 2) = V6 at *
          clear wSet
          have hk64 := HK64.out
          go_wp2_with fail
          go_roundw
          case rel => exact ⟨k + 1, by simp, by omega, Lib.hid (by rw [LP.out, if_pos HE.out, if_neg HS.out]; exact C0.out)⟩
          case measure => simp [intOf]; omega
    · have t0 : decide ((k : Int) < (N : Int)) = false := by simp; omega
      have e : k = N := by omega
      subst e
      go_wp2_with fail
      go_end0
      exact ⟨rfl, by rw [hN.out]; exact C0.out.own, C0.out.kept⟩
end Go.Proofs.YtimmadkbkimonaaGreatDoor
namespace Go.Proofs.YtimmadkbkimonaaGreatDoor
set_option linter.unusedSimpArgs false
set_option linter.unusedVariables false
open Go.RowKit

def OwnI (w W : World) (a : Option Addr) (N n : Nat) (l : List Int) : Prop := W.ownsRow w.heap.size 3 1 (.slice a N n) N (l.map intV)
theorem OwnI.below {w W W' : World} {a : Option Addr} {N n : Nat} {l : List Int} (h : OwnI w W a N n l) (hb : Below W.heap.size W W') : OwnI w W' a N n l := own_below h hb
theorem OwnI.mono {w V W : World} {a : Option Addr} {N n : Nat} {l : List Int} (h : OwnI V W a N n l) (hb : w.heap.size ≤ V.heap.size) : OwnI w W a N n l := own_mono h hb
theorem OwnI.kept {w W W' : World} {a : Option Addr} {N n p : Nat} {l : List Int} {A : Array Value} {t : TypeId} (h : OwnI w W a N n l) (hg : W.grownBy W' (some p)) (hp : W.heap[p]? = some (.cells A t (0, 0))) (ht : t ≠ 3) : OwnI w W' a N n l :=
  World.ownsRow.kept h hg (.inr (qown_no h hp (fun cur e => ht (by cases e; rfl))).symm)
theorem OwnI.len {w W : World} {a : Option Addr} {N n : Nat} {l : List Int} (h : OwnI w W a N n l) : l.length = N := by have := h.1; simpa using this
theorem OwnI.rd {w W : World} {a : Option Addr} {N n : Nat} {l : List Int} (h : OwnI w W a N n l) : RdI W a N n l := RdA.of_own h
theorem OwnI.at {w W : World} {a : Option Addr} {N n i : Nat} {l : List Int} (h : OwnI w W a N n l) (hi : i < N) : ∃ g, a = some ⟨g, 0, none⟩ := by
  rcases h.2 with ⟨h1, h2⟩ | ⟨g', cap, cur, h1, _⟩
  · omega
  · simp only [Value.slice.injEq] at h1; exact ⟨g', h1.1⟩
theorem OwnI.put {w W : World} {g N n i : Nat} {l : List Int} (h : OwnI w W (some ⟨g, 0, none⟩) N n l) (hi : i < N) (v : Int) (hw : w.heap.size ≤ W.heap.size) :
    OwnI w (W.setCell ⟨g, i, none⟩ (.int .i64 v)) (some ⟨g, 0, none⟩) N n (l.set i v) ∧ W.cell? ⟨g, i, none⟩ = some (.int .i64 (l[i]?.getD 0)) ∧ W.frozen? ⟨g, i, none⟩ = false ∧ KeptBut w.heap.size W (W.setCell ⟨g, i, none⟩ (.int .i64 v)) := by
  obtain ⟨cur, hc⟩ := own_block h
  obtain ⟨o1, o2, o3, o4⟩ := own_put h hi v
  exact ⟨o1, o2, o3, kept_put hc o4 hw⟩
end Go.Proofs.YtimmadkbkimonaaGreatDoor
namespace Go.Proofs.YtimmadkbkimonaaGreatDoor
set_option linter.unusedSimpArgs false
set_option linter.unusedVariables false
open Go.RowKit

def faceA (p : PatV) (a : Option Addr) (N : Nat) : Array Value := #[.int .i64 p.eye, .int .i64 p.rings, .int .i64 (p.harps * p.wide), .slice a N N]
def fk (p : PatV) (l : List Int) : FaceV := { patF p with kinds := l }
theorem fk_cells (p : PatV) (l : List Int) (a : Option Addr) (N : Nat) (h : l.length = N) : (fk p l).cells a N = faceA p a N := by subst h; rfl
theorem qJA (p : PatV) (a : Option Addr) (N : Nat) : (Tryz.prog.info? 28).map (·.size) = some (faceA p a N).size := by kernel_rfl
theorem qoneA (p : PatV) (a : Option Addr) (N : Nat) : (faceA p a N).all (·.oneCell') = true := by simp [faceA, Value.oneCell']
theorem made_ints (n : Nat) : madeCells (Value.int .i64 0).cells n = ((List.replicate n (0 : Int)).map intV).toArray := by
  unfold madeCells
  apply Array.ext
  · simp
  · intro i h1 h2
    simp [Value.cells, Nat.mod_one, intV]
theorem run_make_ints (n : Nat) (hn : n ≤ 1000000) (w : World) : (Instr.makeSlice 26 (.int .i64 (n : Int)) (.int .i64 (n : Int))).run Tryz.prog w = .ok (.slice (some ⟨w.heap.size, 0, none⟩) n n) (w.alloc (.cells ((List.replicate n (0 : Int)).map intV).toArray 3)) := by
  obtain ⟨i, hi, hz0, hz1, hz2⟩ := info_parts qinfoI
  have h := run_make (P := Tryz.prog) w 26 3 i (.int .i64 0) Tryz.underlying26 hi hz0 .i64 .i64 n n (by omega) (Int.le_refl _) (by rw [hz2]; omega) (by omega)
  simp only [Int.toNat_natCast, hz1, Nat.mul_one] at h
  rw [made_ints] at h
  exact h
theorem own_ints (n : Nat) (hn : n ≤ 1000000) (w : World) (base : Nat) (hb : base ≤ w.heap.size) : (w.alloc (.cells ((List.replicate n (0 : Int)).map intV).toArray 3)).ownsRow base 3 1 (.slice (some ⟨w.heap.size, 0, none⟩) n n) n ((List.replicate n (0 : Int)).map intV) :=
  ⟨by simp, .inr ⟨w.heap.size, n, _, rfl, hb, heap_alloc_new w _, Nat.le_refl _, by unfold maxLen; omega, by simp, by simp⟩⟩
theorem cut_w3 {A1 A2 A3 : Type} {P T : A1 → A2 → A3 → Prop} {G : Prop} (h1 : (∀ x1 x2 x3, P x1 x2 x3 → T x1 x2 x3) → G) (h2 : ∀ x1 x2 x3, P x1 x2 x3 → T x1 x2 x3) : G := h1 h2
structure DrAt (w : World) (q z o g N : Nat) (p : PatV) (fa : Option Addr) (fn : Nat) (l : List Int) (W : World) : Prop where
  bel : Below w.heap.size w W
  xp : W.heap[q]? = some (.cells (patA p fa fn) 24 (0, 0))
  xz : W.heap[z]? = some (.cells (zeroF.cells none 0) 28 (0, 0))
  xo : W.heap[o]? = some (.cells (faceA p (some ⟨g, 0, none⟩) N) 28 (0, 0))
  own : W.ownsRow w.heap.size 3 1 (.slice (some ⟨g, 0, none⟩) N N) N (l.map intV)
theorem DrAt.below {w : World} {q z o g N : Nat} {p : PatV} {fa : Option Addr} {fn : Nat} {l : List Int} {W W' : World} (h : DrAt w q z o g N p fa fn l W) (hb : Below W.heap.size W W') : DrAt w q z o g N p fa fn l W' :=
  ⟨h.bel.trans (hb.mono h.bel.size), qblk hb h.xp, qblk hb h.xz, qblk hb h.xo, own_below h.own hb⟩
theorem DrAt.cut {w : World} {q z o g N : Nat} {p : PatV} {fa : Option Addr} {fn : Nat} {l l' : List Int} {W W' : World} (h : DrAt w q z o g N p fa fn l W) (ho : W'.ownsRow w.heap.size 3 1 (.slice (some ⟨g, 0, none⟩) N N) N (l'.map intV)) (hk : KeptBut w.heap.size W W') : DrAt w q z o g N p fa fn l' W' :=
  ⟨hk.2 w h.bel, hk.1 _ _ h.xp (by simp), hk.1 _ _ h.xz (by simp), hk.1 _ _ h.xo (by simp), ho⟩
theorem cutD_any (p : PatV) (hp : p.valid = true) (x : FurV) (hx : x ∈ p.furs) (ring : Int) (hr : 0 ≤ ring ∧ ring ≤ p.rings - 1) (h : Nat) (hh : h < p.harps.toNat) (l : List Int) (N g base : Nat) (w : World) (hlv : (fk p l).valid = true) (hl : l.length = N)
    (hown : w.ownsRow base 3 1 (.slice (some ⟨g, 0, none⟩) N N) N (l.map intV)) (hbase : base ≤ w.heap.size) :
    Calls Tryz.prog 65 #[.agg (faceA p (some ⟨g, 0, none⟩) N), .agg (furA x), .int .i64 ring, .int .i64 (h * p.wide)] w fun e w' => e = .returned (.tuple #[]) ∧ w'.ownsRow base 3 1 (.slice (some ⟨g, 0, none⟩) N N) N ((cutK (patF p) x ring (h * p.wide) l (wideF x)).map intV) ∧ KeptBut base w w' := by
  obtain ⟨⟨h1, h2, h3, h4, h5, _⟩, hf⟩ := PatV.valid_iff.1 hp
  obtain ⟨x1, x2, x3, x4, x5, x6, x7⟩ := hf x hx
  subst hl
  have c := cut_any (fk p l) (some ⟨g, 0, none⟩) l.length x ring (h * p.wide) base w hlv ⟨by omega, by omega, by omega, by omega⟩ hr
    ⟨Int.mul_nonneg (by omega) (by omega), by have := Int.mul_le_mul (show (h : Int) ≤ 96 by omega) h4.2 (by omega) (by omega); omega⟩ (lean_bound hp hx hr) hown hbase
  exact c
set_option maxHeartbeats 4000000 in
set_option maxRecDepth 100000 in
theorem dressP_any (p : PatV) (fa : Option Addr) (fn : Nat) (w : World) (hr : RdFu w fa p.furs.length fn p.furs) :
    Calls Tryz.prog 12 #[.agg (patA p fa fn)] w fun e w' => (∃ a' n', e = .returned (.tuple #[.agg ((dressP p).1.cells a' n'), .int .i64 (dressP p).2]) ∧ FOwn w w' (dressP p).1 a' n') ∧ Below w.heap.size w w' := by
  have HR := Lib.hid (fun W (hb : Below w.heap.size w W) => hr.below hb)
  have VA := Lib.hid (fun W (hb : Below w.heap.size w W) => validP_any p fa fn W (hr.below hb))
  clear hr
  have AL := Lib.hid (al2 w (.cells (patA p fa fn) 24) (.cells #[.int .i64 0, .int .i64 0, .int .i64 0, .slice none 0 0] 28))
  go_enter Tryz.func12, Tryz.ntmps12
  go_upto_region 1 with fail
  obtain ⟨q, hq⟩ : ∃ q, Hid (w.heap.size = q) := ⟨_, Lib.hid rfl⟩
  obtain ⟨z, hz⟩ : ∃ z, Hid (w.heap.size + 1 = z) := ⟨_, Lib.hid rfl⟩
  rw [hz.out] at AL ⊢
  rw [hq.out] at AL ⊢
  generalize ((w.alloc (.cells (patA p fa fn) 24)).alloc (.cells #[.int .i64 0, .int .i64 0, .int .i64 0, .slice none 0 0] 28)) = W0 at *
  have BF : Hid (Below w.heap.size w W0) := Lib.hid (by rw [hq.out]; exact AL.out.1)
  have XP : Hid (W0.heap[q]? = some (.cells (patA p fa fn) 24 (0, 0))) := Lib.hid AL.out.2.1
  have XZ : Hid (W0.heap[z]? = some (.cells (zeroF.cells none 0) 28 (0, 0))) := Lib.hid AL.out.2.2
  clear AL
  have c0 := qcell XP.out 0 (.int .i64 p.eye) rfl
  have c1 := qcell XP.out 1 (.int .i64 p.rings) rfl
  have c2 := qcell XP.out 2 (.int .i64 p.harps) rfl
  have c3 := qcell XP.out 3 (.int .i64 p.wide) rfl
  have c4 := qcell XP.out 4 (.slice fa p.furs.length fn) rfl
  go_wp2_with (first
    | (refine wpList_load_row rfl 24 _ rfl q rfl 24 (patA p fa fn) (0, 0) _ XP.out Tryz.underlying24 rfl (by exact (qJP p fa fn)) ?_)
    | (refine wpList_load_row rfl 28 _ rfl z rfl 28 (zeroF.cells none 0) (0, 0) _ XZ.out Tryz.underlying28 rfl (by exact (qJF zeroF none 0)) ?_)
    | fail)
  refine (VA.out W0 BF.out).mono ?_
  rintro e V1 ⟨rfl, b⟩
  clear c0 c1 c2 c3 c4
  replace BF := Lib.hid (BF.out.trans (b.mono BF.out.size))
  replace XP := Lib.hid (qblk b XP.out)
  replace XZ := Lib.hid (qblk b XZ.out)
  clear b
  have c0 := qcell XP.out 0 (.int .i64 p.eye) rfl
  have c1 := qcell XP.out 1 (.int .i64 p.rings) rfl
  have c2 := qcell XP.out 2 (.int .i64 p.harps) rfl
  have c3 := qcell XP.out 3 (.int .i64 p.wide) rfl
  have c4 := qcell XP.out 4 (.slice fa p.furs.length fn) rfl
  cases hv : p.valid
  · go_wp2_with (first
      | (refine wpList_load_row rfl 24 _ rfl q rfl 24 (patA p fa fn) (0, 0) _ XP.out Tryz.underlying24 rfl (by exact (qJP p fa fn)) ?_)
      | (refine wpList_load_row rfl 28 _ rfl z rfl 28 (zeroF.cells none 0) (0, 0) _ XZ.out Tryz.underlying28 rfl (by exact (qJF zeroF none 0)) ?_)
      | (refine wpList_qstore rfl 28 _ _ rfl z (zeroF.cells none 0) (zeroF.cells none 0) 28 rfl rfl XZ.out (by exact (qJF zeroF none 0)) rfl (qone zeroF none 0) ?_; intro VZ hzz hgz; clear c0 c1 c2 c3 c4; replace BF := Lib.hid (qstep BF.out hgz (by have h1 := hz.out; omega)); replace XP := Lib.hid (qgrown hgz XP.out (fun e => by have h1 := hq.out; have h2 := hz.out; have := Option.some.inj e; omega)); replace XZ := Lib.hid hzz; clear hzz hgz; have c0 := qcell XP.out 0 (.int .i64 p.eye) rfl; have c1 := qcell XP.out 1 (.int .i64 p.rings) rfl; have c2 := qcell XP.out 2 (.int .i64 p.harps) rfl; have c3 := qcell XP.out 3 (.int .i64 p.wide) rfl; have c4 := qcell XP.out 4 (.slice fa p.furs.length fn) rfl)
      | fail)
    (try simp only [Exit.inBlock, Exit.then])
    refine bodyPost_ret (results_ct rfl _ VZ z 28 (zeroF.cells none 0) (0, 0) _ rfl XZ.out Tryz.underlying28 rfl (by exact (qJF zeroF none 0))) rfl ?_
    unfold dressP
    rw [if_neg (by rw [hv]; decide)]
    exact ⟨⟨none, 0, rfl, FOwn.nil _ _⟩, BF.out⟩
  · have HV := Lib.hid hv
    have PV := Lib.hid (PatV.valid_iff.1 hv)
    have FV := Lib.hid (patF_valid hv)
    clear hv
    obtain ⟨N, hN⟩ : ∃ N, Hid ((patF p).kinds.length = N) := ⟨_, Lib.hid rfl⟩
    have HN : Hid (p.rings * p.harps * p.wide = (N : Int)) := Lib.hid (by
      have h0 := hN.out
      have h1 : (patF p).kinds.length = (p.rings * p.harps * p.wide).toNat := List.length_replicate
      have h2 := PV.out.1
      have h3 : 0 ≤ p.rings * p.harps * p.wide := Int.mul_nonneg (Int.mul_nonneg (by omega) (by omega)) (by omega)
      omega)
    have NL : Hid (N ≤ 2304) := Lib.hid (by have := FaceV.len_le FV.out; have := hN.out; omega)
    have HE : Hid ((patF p).kinds = List.replicate N 0) := Lib.hid (by have h1 := HN.out; show List.replicate (p.rings * p.harps * p.wide).toNat 0 = _; rw [h1, Int.toNat_natCast])
    have W1 := Lib.hid (show wrap64 (p.harps * p.wide) = p.harps * p.wide by have := PV.out.1; unfold wrap64; omega)
    have HB2 : Hid (0 ≤ p.rings * p.harps ∧ p.rings * p.harps ≤ 24 * 96) := Lib.hid (by have := PV.out.1; exact ⟨Int.mul_nonneg (by omega) (by omega), Int.mul_le_mul (by omega) (by omega) (by omega) (by omega)⟩)
    have W2 := Lib.hid (show wrap64 (p.rings * p.harps) = p.rings * p.harps by have := HB2.out; unfold wrap64; omega)
    have W3 := Lib.hid (show wrap64 (p.rings * p.harps * p.wide) = (N : Int) by have := HN.out; have := NL.out; unfold wrap64; omega)
    go_upto_region 3 with fail
    clear c0 c1 c2 c3 c4
    apply cut_w3 (P := (fun (W : World) (o g : Nat) => Hid (DrAt w q z o g N p fa fn (patK p 0) W ∧ w.heap.size ≤ o ∧ o ≠ q ∧ o ≠ z)))
    · intro REST
      have hd : Below V1.heap.size V1 V1.drew := (Below.refl _ _).drew
      replace BF := Lib.hid (BF.out.drew)
      replace XP := Lib.hid (qblk hd XP.out)
      replace XZ := Lib.hid (qblk hd XZ.out)
      refine zD (fun W => Below w.heap.size w W ∧ W.heap[q]? = some (.cells (patA p fa fn) 24 (0, 0)) ∧ W.heap[z]? = some (.cells (zeroF.cells none 0) 28 (0, 0))) ⟨BF.out, XP.out, XZ.out⟩ (fun hHeld => ?_)
      clear hd
      generalize V1.drew = V2 at *
      refine zW 0 rfl (.pointer (some ⟨q, 0, none⟩)) ?_
      refine zS 1 rfl (.int .i64 p.eye) (fun W hW => by have c := qcell hW.2.1 0 (.int .i64 p.eye) rfl; go_simp) ?_
      refine zW 2 rfl (.pointer (some ⟨q, 1, none⟩)) ?_
      refine zS 3 rfl (.int .i64 p.rings) (fun W hW => by have c := qcell hW.2.1 1 (.int .i64 p.rings) rfl; go_simp) ?_
      refine zW 4 rfl (.pointer (some ⟨q, 2, none⟩)) ?_
      refine zS 5 rfl (.int .i64 p.harps) (fun W hW => by have c := qcell hW.2.1 2 (.int .i64 p.harps) rfl; go_simp) ?_
      refine zW 6 rfl (.pointer (some ⟨q, 3, none⟩)) ?_
      refine zS 7 rfl (.int .i64 p.wide) (fun W hW => by have c := qcell hW.2.1 3 (.int .i64 p.wide) rfl; go_simp) ?_
      refine zW 8 rfl (.int .i64 (p.harps * p.wide)) (hy := .inl ⟨by kernel_rfl, by intro W _; go_simp; exact (IntWalk.i64_left _).trans W1.out⟩) ?_
      refine zW 9 rfl (.pointer (some ⟨q, 1, none⟩)) ?_
      refine zS 10 rfl (.int .i64 p.rings) (fun W hW => by have c := qcell hW.2.1 1 (.int .i64 p.rings) rfl; go_simp) ?_
      refine zW 11 rfl (.pointer (some ⟨q, 2, none⟩)) ?_
      refine zS 12 rfl (.int .i64 p.harps) (fun W hW => by have c := qcell hW.2.1 2 (.int .i64 p.harps) rfl; go_simp) ?_
      refine zW 13 rfl (.int .i64 (p.rings * p.harps)) (hy := .inl ⟨by kernel_rfl, by intro W _; go_simp; exact (IntWalk.i64_left _).trans W2.out⟩) ?_
      refine zW 14 rfl (.pointer (some ⟨q, 3, none⟩)) ?_
      refine zS 15 rfl (.int .i64 p.wide) (fun W hW => by have c := qcell hW.2.1 3 (.int .i64 p.wide) rfl; go_simp) ?_
      refine zW 16 rfl (.int .i64 ((N : Int))) (hy := .inl ⟨by kernel_rfl, by intro W _; go_simp; exact (IntWalk.i64_left _).trans W3.out⟩) ?_
      have B0 : Hid (w.heap.size ≤ V2.heap.size) := Lib.hid BF.out.size
      have GE := Lib.hid (show q < V2.heap.size ∧ z < V2.heap.size from ⟨qlt XP.out, qlt XZ.out⟩)
      have KE : Hid (patK p 0 = List.replicate N 0) := Lib.hid HE.out
      refine zM [17, 19] rfl (fun K hK => ?_) (zn (i := 19) (fun K hK => ?_))
      · rw [if_pos (by kernel_rfl)]
        have hmk := run_make_ints N (by have := NL.out; omega) V2
        refine qbuild (w' := V2.alloc (.cells ((List.replicate N (0 : Int)).map intV).toArray 3)) (.slice (some ⟨V2.heap.size, 0, none⟩) N N) (by go_simp) ?_
        clear hmk
        have OW := Lib.hid (own_ints N (by have := NL.out; omega) V2 w.heap.size BF.out.size)
        have b := zB V2 (.cells ((List.replicate N (0 : Int)).map intV).toArray 3)
        obtain ⟨g, hg⟩ : ∃ x, Hid (V2.heap.size = x) := ⟨_, Lib.hid rfl⟩
        replace BF := Lib.hid (BF.out.trans (b.mono BF.out.size))
        replace XP := Lib.hid (qblk b XP.out)
        replace XZ := Lib.hid (qblk b XZ.out)
        (try replace XO := Lib.hid (qblk b XO.out))
        rw [hg.out] at OW ⊢
        have SZg : Hid (V2.heap.size < V2.heap.size + 1) := Lib.hid (Nat.lt_succ_self _)
        clear b
        have LSg : Hid ((V2.alloc (.cells ((List.replicate N (0 : Int)).map intV).toArray 3)).heap.size = V2.heap.size + 1) := Lib.hid (by simp)
        generalize hV9 : V2.alloc (.cells ((List.replicate N (0 : Int)).map intV).toArray 3) = V3 at *
        clear hV9
        refine zK hK ⟨BF.out, XP.out, XZ.out⟩ (fun hHeld => ?_)
        clear hK K
        refine zW 18 rfl (.agg (faceA p (some ⟨g, 0, none⟩) N)) (hy := .inl ⟨by kernel_rfl, by intro W _; go_simp; rfl⟩) ?_
        refine zR 19 rfl (fun K hK => ?_)
        rw [if_pos (by kernel_rfl)]
        refine qbuild (w' := V3.alloc (.cells #[.int .i64 0, .int .i64 0, .int .i64 0, .slice none 0 0] 28)) (.pointer (some ⟨V3.heap.size, 0, none⟩)) (by kernel_rfl) ?_
        have XO := Lib.hid (al1 V3 (.cells #[.int .i64 0, .int .i64 0, .int .i64 0, .slice none 0 0] 28)).2
        have b := zB V3 (.cells #[.int .i64 0, .int .i64 0, .int .i64 0, .slice none 0 0] 28)
        obtain ⟨o, ho⟩ : ∃ x, Hid (V3.heap.size = x) := ⟨_, Lib.hid rfl⟩
        replace BF := Lib.hid (BF.out.trans (b.mono BF.out.size))
        replace XP := Lib.hid (qblk b XP.out)
        replace XZ := Lib.hid (qblk b XZ.out)
        (try replace OW := Lib.hid (own_below OW.out b))
        rw [ho.out] at XO ⊢
        have SZo : Hid (V3.heap.size < V3.heap.size + 1) := Lib.hid (Nat.lt_succ_self _)
        clear b
        have LSo : Hid ((V3.alloc (.cells #[.int .i64 0, .int .i64 0, .int .i64 0, .slice none 0 0] 28)).heap.size = V3.heap.size + 1) := Lib.hid (by simp)
        generalize hV9 : V3.alloc (.cells #[.int .i64 0, .int .i64 0, .int .i64 0, .slice none 0 0] 28) = V4 at *
        clear hV9
        refine zK hK ⟨BF.out, XP.out, XZ.out⟩ (fun hHeld => ?_)
        clear hK K
        refine zR 20 rfl (fun K hK => ?_)
        rw [if_pos (by kernel_rfl)]
        refine qstore 28 _ _ rfl o #[.int .i64 0, .int .i64 0, .int .i64 0, .slice none 0 0] (faceA p (some ⟨g, 0, none⟩) N) 28 rfl rfl XO.out (by exact qJA p (some ⟨g, 0, none⟩) N) rfl (qoneA p (some ⟨g, 0, none⟩) N) ?_
        intro X h8 hg8 hs8
        have NE : Hid (w.heap.size ≤ o ∧ o ≠ q ∧ o ≠ z) := Lib.hid (by have h1 := GE.out; have h2 := ho.out; have h3 := B0.out; have h4 := hq.out; first | omega | (have h5 := LSg.out; omega))
        replace BF := Lib.hid (qstep BF.out hg8 NE.out.1)
        replace XP := Lib.hid (qgrown hg8 XP.out (fun e => NE.out.2.1 (Option.some.inj e).symm))
        replace XZ := Lib.hid (qgrown hg8 XZ.out (fun e => NE.out.2.2 (Option.some.inj e).symm))
        replace OW := Lib.hid (OW.out.kept hg8 (.inr (qown_no OW.out XO.out (by simp)).symm))
        refine zK hK ⟨BF.out, XP.out, XZ.out⟩ (fun hHeld => ?_)
        clear hK K
        refine zE ?_
        exact REST X o g (Lib.hid ⟨⟨BF.out, XP.out, XZ.out, h8, by rw [KE.out]; exact OW.out⟩, NE.out⟩)
      · rw [if_pos (by kernel_rfl)]
        refine qbuild (w' := V2.alloc (.cells #[.int .i64 0, .int .i64 0, .int .i64 0, .slice none 0 0] 28)) (.pointer (some ⟨V2.heap.size, 0, none⟩)) (by kernel_rfl) ?_
        have XO := Lib.hid (al1 V2 (.cells #[.int .i64 0, .int .i64 0, .int .i64 0, .slice none 0 0] 28)).2
        have b := zB V2 (.cells #[.int .i64 0, .int .i64 0, .int .i64 0, .slice none 0 0] 28)
        obtain ⟨o, ho⟩ : ∃ x, Hid (V2.heap.size = x) := ⟨_, Lib.hid rfl⟩
        replace BF := Lib.hid (BF.out.trans (b.mono BF.out.size))
        replace XP := Lib.hid (qblk b XP.out)
        replace XZ := Lib.hid (qblk b XZ.out)
        (try replace OW := Lib.hid (own_below OW.out b))
        rw [ho.out] at XO ⊢
        have SZo : Hid (V2.heap.size < V2.heap.size + 1) := Lib.hid (Nat.lt_succ_self _)
        clear b
        have LSo : Hid ((V2.alloc (.cells #[.int .i64 0, .int .i64 0, .int .i64 0, .slice none 0 0] 28)).heap.size = V2.heap.size + 1) := Lib.hid (by simp)
        generalize hV9 : V2.alloc (.cells #[.int .i64 0, .int .i64 0, .int .i64 0, .slice none 0 0] 28) = V3 at *
        clear hV9
        refine zK hK ⟨BF.out, XP.out, XZ.out⟩ (fun hHeld => ?_)
        clear hK K
        refine zR 17 rfl (fun K hK => ?_)
        rw [if_pos (by kernel_rfl)]
        have hmk := run_make_ints N (by have := NL.out; omega) V3
        refine qbuild (w' := V3.alloc (.cells ((List.replicate N (0 : Int)).map intV).toArray 3)) (.slice (some ⟨V3.heap.size, 0, none⟩) N N) (by go_simp) ?_
        clear hmk
        have OW := Lib.hid (own_ints N (by have := NL.out; omega) V3 w.heap.size BF.out.size)
        have b := zB V3 (.cells ((List.replicate N (0 : Int)).map intV).toArray 3)
        obtain ⟨g, hg⟩ : ∃ x, Hid (V3.heap.size = x) := ⟨_, Lib.hid rfl⟩
        replace BF := Lib.hid (BF.out.trans (b.mono BF.out.size))
        replace XP := Lib.hid (qblk b XP.out)
        replace XZ := Lib.hid (qblk b XZ.out)
        (try replace XO := Lib.hid (qblk b XO.out))
        rw [hg.out] at OW ⊢
        have SZg : Hid (V3.heap.size < V3.heap.size + 1) := Lib.hid (Nat.lt_succ_self _)
        clear b
        have LSg : Hid ((V3.alloc (.cells ((List.replicate N (0 : Int)).map intV).toArray 3)).heap.size = V3.heap.size + 1) := Lib.hid (by simp)
        generalize hV9 : V3.alloc (.cells ((List.replicate N (0 : Int)).map intV).toArray 3) = V4 at *
        clear hV9
        refine zK hK ⟨BF.out, XP.out, XZ.out⟩ (fun hHeld => ?_)
        clear hK K
        refine zW 18 rfl (.agg (faceA p (some ⟨g, 0, none⟩) N)) (hy := .inl ⟨by kernel_rfl, by intro W _; go_simp; rfl⟩) ?_
        refine zR 20 rfl (fun K hK => ?_)
        rw [if_pos (by kernel_rfl)]
        refine qstore 28 _ _ rfl o #[.int .i64 0, .int .i64 0, .int .i64 0, .slice none 0 0] (faceA p (some ⟨g, 0, none⟩) N) 28 rfl rfl XO.out (by exact qJA p (some ⟨g, 0, none⟩) N) rfl (qoneA p (some ⟨g, 0, none⟩) N) ?_
        intro X h8 hg8 hs8
        have NE : Hid (w.heap.size ≤ o ∧ o ≠ q ∧ o ≠ z) := Lib.hid (by have h1 := GE.out; have h2 := ho.out; have h3 := B0.out; have h4 := hq.out; first | omega | (have h5 := LSg.out; omega))
        replace BF := Lib.hid (qstep BF.out hg8 NE.out.1)
        replace XP := Lib.hid (qgrown hg8 XP.out (fun e => NE.out.2.1 (Option.some.inj e).symm))
        replace XZ := Lib.hid (qgrown hg8 XZ.out (fun e => NE.out.2.2 (Option.some.inj e).symm))
        replace OW := Lib.hid (OW.out.kept hg8 (.inr (qown_no OW.out XO.out (by simp)).symm))
        refine zK hK ⟨BF.out, XP.out, XZ.out⟩ (fun hHeld => ?_)
        clear hK K
        refine zE ?_
        exact REST X o g (Lib.hid ⟨⟨BF.out, XP.out, XZ.out, h8, by rw [KE.out]; exact OW.out⟩, NE.out⟩)
    · intro X o g HD
      have DA := Lib.hid HD.out.1
      have OE := Lib.hid HD.out.2
      clear HD BF XP XZ W1 W2 W3 HB2
      have c4 := qcell DA.out.xp 4 (.slice fa p.furs.length fn) rfl
      go_wp2_with fail
      clear c4
      have FL := Lib.hid (show p.furs.length ≤ 16 from PV.out.1.2.2.2.2.2)
      go_loopw [35] (fun v wr => ∃ k : Nat, v = .int .i64 k ∧ k ≤ p.furs.length ∧ Hid (DrAt w q z o g N p fa fn (patK p k) wr)) (fun v _ => p.furs.length - (intOf v).toNat)
      case atStart => exact ⟨0, rfl, Nat.zero_le _, DA⟩
      case round =>
        clear DA
        obtain ⟨k, rfl, hk, DA⟩ := hrel
        by_cases hkn : k < p.furs.length
        · have t0 : decide ((k : Int) < (p.furs.length : Int)) = true := by simp; omega
          have HK64 : Hid ((k : Int) + 1 ≤ 9223372036854775807) := Lib.hid (by have := FL.out; omega)
          obtain ⟨x, hx⟩ : ∃ x, p.furs[k]? = some x := ⟨_, List.getElem?_eq_getElem hkn⟩
          have HX := Lib.hid hx
          have HM := Lib.hid (List.mem_of_getElem? hx)
          obtain ⟨b, off, hfa, x0, x1, x2, x3, x4, x5⟩ := (HR.out wr DA.out.bel).get hx
          subst hfa
          obtain ⟨o1, ho1⟩ : ∃ o1, Hid (off + k * 6 = o1) := ⟨_, Lib.hid rfl⟩
          rw [ho1.out] at x0 x1 x2 x3 x4 x5
          have I6 : (Tryz.prog.info? 76).map (·.size) = some 6 := by kernel_rfl
          have hi := fun W => qidx (W := W) (c := fn) (b := b) Tryz.underlying22 I6 hkn ho1.out
          clear hx
          go_upto_region 7 with fail
          clear x0 x1 x2 x3 x4 x5 hi t0 I6
          have AL := al1 wr (.cells (furA x) 76)
          replace DA := Lib.hid (DA.out.below AL.1)
          have XU : Hid ((wr.alloc (.cells (furA x) 76)).heap[wr.heap.size]? = some (.cells (furA x) 76 (0, 0))) := Lib.hid AL.2
          clear AL
          unfold furA at XU DA
          generalize wr.alloc (.cells #[.int .i64 x.at_, .int .i64 x.from_, .int .i64 x.lean, .int .i64 x.leans, .int .i64 x.steep, .int .i64 x.feather] 76) = X1 at *
          generalize wr.heap.size = u at *
          have XU2 : Hid (X1.heap[u]? = some (.cells (furA x) 76 (0, 0))) := Lib.hid XU.out
          clear XU
          have x1 := qcell XU2.out 1 (.int .i64 x.from_) rfl
          go_wp2_with fail
          clear x1
          have FB := Lib.hid (PV.out.2 x HM.out)
          obtain ⟨R, hR⟩ : ∃ R : Nat, Hid ((p.rings - x.from_).toNat = R) := ⟨_, Lib.hid rfl⟩
          have HRR : Hid (x.from_ + (R : Int) = p.rings ∧ R ≤ 24) := Lib.hid (by have h1 := FB.out; have h2 := PV.out.1; have h3 := hR.out; omega)
          have PK := Lib.hid (patK_ok HV.out k)
          have PL := Lib.hid (show (patK p k).length = N from (patK_len p k).trans hN.out)
          generalize wr = Y1 at *
          go_loopw [7] (fun v wr => ∃ j : Nat, v = .int .i64 (x.from_ + (j : Int)) ∧ j ≤ R ∧ Hid (DrAt w q z o g N p (some ⟨b, off, none⟩) fn (furK (patF p) p x (patK p k) j) wr) ∧ Hid (wr.heap[u]? = some (.cells (furA x) 76 (0, 0)))) (fun v _ => (p.rings - intOf v).toNat)
          case atStart => exact ⟨0, by simp, Nat.zero_le _, DA, XU2⟩
          case round =>
            clear DA XU2
            obtain ⟨j, rfl, hj, DA, XU⟩ := hrel
            have c1 := qcell DA.out.xp 1 (.int .i64 p.rings) rfl
            have c2 := qcell DA.out.xp 2 (.int .i64 p.harps) rfl
            by_cases hjr : j < R
            · have t0 : decide (x.from_ + (j : Int) < p.rings) = true := by have := HRR.out; simp; omega
              go_wp2_with fail
              clear t0 c1 c2
              obtain ⟨ring, hring⟩ : ∃ ring, Hid (x.from_ + (j : Int) = ring) := ⟨_, Lib.hid rfl⟩
              have RG : Hid (0 ≤ ring ∧ ring ≤ p.rings - 1) := Lib.hid (by have h1 := hring.out; have h2 := HRR.out; have h3 := FB.out; omega)
              have KS := Lib.hid (furK_succ (patF p) p x (patK p k) j)
              obtain ⟨l, hl⟩ : ∃ l, Hid (furK (patF p) p x (patK p k) j = l) := ⟨_, Lib.hid rfl⟩
              have LV : Hid (fk p l).valid := Lib.hid (by rw [← hl.out]; exact furK_ok PK.out j)
              have LN : Hid (l.length = N) := Lib.hid (by rw [← hl.out, furK_len]; exact PL.out)
              rw [hl.out] at DA KS
              rw [hring.out] at KS
              obtain ⟨H, hH⟩ : ∃ H : Nat, Hid (p.harps.toNat = H) := ⟨_, Lib.hid rfl⟩
              have HH : Hid (p.harps = (H : Int) ∧ H ≤ 96) := Lib.hid (by have h2 := PV.out.1; have h3 := hH.out; omega)
              rw [hH.out] at KS
              try rw [hring.out]
              generalize wr = Y2 at *
              go_loopw [49] (fun v wr => ∃ h : Nat, v = .int .i64 (h : Int) ∧ h ≤ H ∧ Hid (DrAt w q z o g N p (some ⟨b, off, none⟩) fn (ringK (patF p) p x ring l h) wr) ∧ Hid (wr.heap[u]? = some (.cells (furA x) 76 (0, 0)))) (fun v _ => H - (intOf v).toNat)
              case atStart => exact ⟨0, rfl, Nat.zero_le _, DA, XU⟩
              case round =>
                clear DA XU
                obtain ⟨h, rfl, hh, DA, XU⟩ := hrel
                by_cases hhn : h < H
                · have t0 : decide ((h : Int) < p.harps) = true := by have := HH.out; simp; omega
                  have HH64 : Hid ((h : Int) + 1 ≤ 9223372036854775807) := Lib.hid (by have := HH.out; omega)
                  have HHN := Lib.hid hhn
                  go_upto_region 13 with fail
                  clear t0
                  have c3 := qcell DA.out.xp 3 (.int .i64 p.wide) rfl
                  have ww : wrap64 ((h : Int) * p.wide) = (h : Int) * p.wide := by
                    have h1 := PV.out.1
                    have h2 := HH.out
                    have h3 := HHN.out
                    have h4 := Int.mul_nonneg (show (0 : Int) ≤ (h : Int) by omega) (show 0 ≤ p.wide by omega)
                    have h5 := Int.mul_le_mul (show (h : Int) ≤ 96 by omega) (show p.wide ≤ 96 by omega) (by omega) (by omega)
                    unfold wrap64
                    omega
                  go_wp2_with (first
                    | (refine wpList_load_row rfl 28 _ rfl o rfl 28 (faceA p (some ⟨g, 0, none⟩) N) (0, 0) _ DA.out.xo Tryz.underlying28 rfl (by exact qJA p (some ⟨g, 0, none⟩) N) ?_)
                    | (refine wpList_load_row rfl 76 _ rfl u rfl 76 (furA x) (0, 0) _ XU.out Tryz.underlying76 rfl (by exact qJU x) ?_)
                    | fail)
                  have LS := Lib.hid (ringK_succ (patF p) p x ring l h)
                  have RV := Lib.hid (show (fk p (ringK (patF p) p x ring l h)).valid = true from ringK_ok LV.out h)
                  have RL := Lib.hid (show (ringK (patF p) p x ring l h).length = N by rw [ringK_len]; exact LN.out)
                  refine (cutD_any p HV.out x HM.out ring RG.out h (by rw [hH.out]; exact HHN.out) (ringK (patF p) p x ring l h) N g w.heap.size _ RV.out RL.out DA.out.own DA.out.bel.size).mono ?_
                  rintro e X5 ⟨rfl, own, kb⟩
                  replace XU := Lib.hid (kb.1 _ _ XU.out (by simp))
                  replace DA := Lib.hid (DA.out.cut own kb)
                  clear own kb c3 ww
                  rw [← LS.out] at DA
                  go_upto_region 14 with fail
                  have hh64 := HH64.out
                  go_wp2_with fail
                  go_roundw
                  case rel => exact ⟨h + 1, by simp, by omega, DA, XU⟩
                  case measure => simp [intOf]; omega
                · have t0 : decide ((h : Int) < p.harps) = false := by have := HH.out; simp; omega
                  have e : h = H := by omega
                  subst e
                  rw [← KS.out] at DA
                  have wj : wrap64 (ring + 1) = x.from_ + ((j + 1 : Nat) : Int) := by have h1 := hring.out; have h2 := HRR.out; have h3 := FB.out; have h4 := RG.out; have h5 := PV.out.1; unfold wrap64; omega
                  go_wp2_with fail
                  go_roundw
                  case rel => exact ⟨j + 1, by first | rfl | (rw [wj]), by omega, DA, XU⟩
                  case measure => have h1 := hring.out; have h2 := HRR.out; have h3 := RG.out; (try rw [wj]); simp [intOf]; omega
            · have t0 : decide (x.from_ + (j : Int) < p.rings) = false := by have := HRR.out; simp; omega
              have e : j = R := by omega
              subst e
              have KS := Lib.hid (patK_succ p HX.out)
              rw [hR.out] at KS
              rw [← KS.out] at DA
              go_upto_region 15 with fail
              have hk64 := HK64.out
              go_wp2_with fail
              go_roundw
              case rel => exact ⟨k + 1, by simp, by omega, DA⟩
              case measure => simp [intOf]; omega
        · have t0 : decide ((k : Int) < (p.furs.length : Int)) = false := by simp; omega
          have e : k = p.furs.length := by omega
          have DE := Lib.hid (show fk p (patK p k) = dressF p by rw [e]; exact patK_all p)
          have DL := Lib.hid (show (patK p k).length = N from (patK_len p k).trans hN.out)
          clear hk hkn
          subst e
          go_upto_region 16 with fail
          go_wp2_with (first
            | (refine wpList_load_row rfl 28 _ rfl o rfl 28 (faceA p (some ⟨g, 0, none⟩) N) (0, 0) _ DA.out.xo Tryz.underlying28 rfl (by exact qJA p (some ⟨g, 0, none⟩) N) ?_)
            | (refine wpList_qstore rfl 28 _ _ rfl z (zeroF.cells none 0) (faceA p (some ⟨g, 0, none⟩) N) 28 rfl rfl DA.out.xz (by exact qJA p (some ⟨g, 0, none⟩) N) rfl (qoneA p (some ⟨g, 0, none⟩) N) ?_; intro VZ hzz hgz; have OW := Lib.hid (DA.out.own.kept hgz (.inr (qown_no DA.out.own DA.out.xz (by simp)).symm)); have BF := Lib.hid (qstep DA.out.bel hgz (by have h1 := hz.out; omega)); clear DA; have XZ := Lib.hid hzz; clear hzz hgz)
            | fail)
          (try simp only [Exit.inBlock, Exit.then])
          refine bodyPost_ret (results_ct rfl _ VZ z 28 (faceA p (some ⟨g, 0, none⟩) N) (0, 0) _ rfl XZ.out Tryz.underlying28 rfl (by exact qJA p (some ⟨g, 0, none⟩) N)) rfl ?_
          unfold dressP
          rw [if_pos HV.out, ← DE.out]
          refine ⟨⟨some ⟨g, 0, none⟩, N, ?_, ?_⟩, BF.out⟩
          · rw [fk_cells p _ _ _ DL.out]
            rfl
          · have := OW.out
            unfold FOwn
            show VZ.ownsRow _ _ _ (.slice _ (patK p p.furs.length).length N) (patK p p.furs.length).length ((patK p p.furs.length).map intV)
            rw [DL.out]
            exact this
end Go.Proofs.YtimmadkbkimonaaGreatDoor
namespace Go.Proofs.YtimmadkbkimonaaGreatDoor
set_option linter.unusedSimpArgs false
set_option linter.unusedVariables false
open Go.RowKit

def boolV (b : Bool) : Value := .bool b
theorem own_putV {e : TypeId} {w : World} {base g n c : Nat} {xs : List Value} (h : w.ownsRow base e 1 (.slice (some ⟨g, 0, none⟩) n c) n xs) {k : Nat} (hk : k < n) (v : Value) :
    (w.setCell ⟨g, k, none⟩ v).ownsRow base e 1 (.slice (some ⟨g, 0, none⟩) n c) n (xs.set k v) ∧ w.cell? ⟨g, k, none⟩ = xs[k]? ∧ w.frozen? ⟨g, k, none⟩ = false ∧ base ≤ g ∧ ∃ cur, w.heap[g]? = some (.cells cur e (0, 0)) := by
  obtain ⟨h1, h2⟩ := h
  rcases h2 with ⟨h2, _⟩ | ⟨g', cap, cur, hv, hb, hg, hn, hc, hs, ht⟩
  · cases h2
  · simp only [Value.slice.injEq, Option.some.injEq, Addr.mk.injEq] at hv
    obtain ⟨⟨rfl, _, _⟩, _, rfl⟩ := hv
    have hl : xs.length = n := by simpa using h1
    refine ⟨⟨by simpa using h1, .inr ⟨g, c, cur.setIfInBounds k v, rfl, hb, qput_at hg k _, hn, hc, by simpa using hs, ?_⟩⟩, ?_, qfroz hg k, hb, cur, hg⟩
    · rw [Array.toList_setIfInBounds, List.take_set, ht]
    · have e1 : (cur.toList.take (n * 1))[k]? = xs[k]? := by rw [ht]
      rw [List.getElem?_take, if_pos (by omega)] at e1
      cases hx : xs[k]? with
      | none => rw [List.getElem?_eq_none_iff] at hx; omega
      | some v =>
        rw [hx] at e1
        have e2 : cur[k]? = some v := by simpa using e1
        exact qcell hg k _ e2
theorem own_keep {W W' : World} {base : Nat} {e : TypeId} {size : Nat} {v : Value} {n : Nat} {xs : List Value} (h : W.ownsRow base e size v n xs) (hk : ∀ (p : Nat) (ob : Obj), W.heap[p]? = some ob → (∀ cur, ob ≠ .cells cur 3 (0, 0)) → W'.heap[p]? = some ob) (he : e ≠ 3) : W'.ownsRow base e size v n xs := by
  obtain ⟨h1, h2⟩ := h
  refine ⟨h1, ?_⟩
  rcases h2 with h2 | ⟨g, cap, cur, hv, hb, hg, rest⟩
  · exact .inl h2
  · exact .inr ⟨g, cap, cur, hv, hb, hk g _ hg (fun cur' e2 => he (by cases e2; rfl)), rest⟩
def OwnB (w W : World) (g N : Nat) (l : List Bool) : Prop := W.ownsRow w.heap.size 4 1 (.slice (some ⟨g, 0, none⟩) N N) N (l.map boolV)
theorem OwnB.below {w W W' : World} {g N : Nat} {l : List Bool} (h : OwnB w W g N l) (hb : Below W.heap.size W W') : OwnB w W' g N l := own_below h hb
theorem OwnB.put {w W : World} {g N i : Nat} {l : List Bool} (h : OwnB w W g N l) (hi : i < N) (b : Bool) :
    OwnB w (W.setCell ⟨g, i, none⟩ (.bool b)) g N (l.set i b) ∧ W.cell? ⟨g, i, none⟩ = some (.bool (l[i]?.getD false)) ∧ W.frozen? ⟨g, i, none⟩ = false ∧ W.grownBy (W.setCell ⟨g, i, none⟩ (.bool b)) (some g) ∧ w.heap.size ≤ g ∧ ∃ cur, W.heap[g]? = some (.cells cur 4 (0, 0)) := by
  obtain ⟨o1, o2, o3, o4, o5⟩ := own_putV h hi (.bool b)
  have hl : l.length = N := by have := h.1; simpa using this
  refine ⟨?_, ?_, o3, qput_grown W g i _, o4, o5⟩
  · have e : (l.map boolV).set i (.bool b) = (l.set i b).map boolV := by rw [List.map_set]; rfl
    rw [e] at o1
    exact o1
  · rw [o2, List.getElem?_map, List.getElem?_eq_getElem (by omega)]
    rfl
theorem OwnC.putB {W W' : World} {base : Nat} {e : TypeId} {size : Nat} {v : Value} {n : Nat} {xs : List Value} {g : Nat} {cur : Array Value} (h : W.ownsRow base e size v n xs) (hg : W.grownBy W' (some g)) (hc : W.heap[g]? = some (.cells cur 4 (0, 0))) (he : e ≠ 4) : W'.ownsRow base e size v n xs :=
  World.ownsRow.kept h hg (.inr (qown_no h hc (fun cur' e2 => he (by cases e2; rfl))).symm)
theorem blk_putB {W W' : World} {p g : Nat} {cur : Array Value} {A : Array Value} {t : TypeId} (hp : W.heap[p]? = some (.cells A t (0, 0))) (hg : W.grownBy W' (some g)) (hc : W.heap[g]? = some (.cells cur 4 (0, 0))) (ht : t ≠ 4) : W'.heap[p]? = some (.cells A t (0, 0)) :=
  qgrown hg hp (fun e => by
    rw [Option.some.inj e, hc] at hp
    simp only [Option.some.injEq, Obj.cells.injEq] at hp
    exact ht hp.2.1.symm)
theorem qinfoB : (Tryz.prog.info? 4).map (fun i => (i.zero, i.size, i.bytes)) = some (some (.bool false), 1, 1) := by kernel_rfl
theorem made_bools (n : Nat) : madeCells (Value.bool false).cells n = ((List.replicate n false).map boolV).toArray := by
  unfold madeCells
  apply Array.ext
  · simp
  · intro i h1 h2
    simp [Value.cells, Nat.mod_one, boolV]
theorem run_make_bools (n : Nat) (hn : n ≤ 1000000) (w : World) : (Instr.makeSlice 120 (.int .i64 (n : Int)) (.int .i64 (n : Int))).run Tryz.prog w = .ok (.slice (some ⟨w.heap.size, 0, none⟩) n n) (w.alloc (.cells ((List.replicate n false).map boolV).toArray 4)) := by
  obtain ⟨i, hi, hz0, hz1, hz2⟩ := info_parts qinfoB
  have h := run_make (P := Tryz.prog) w 120 4 i (.bool false) Tryz.underlying120 hi hz0 .i64 .i64 n n (by omega) (Int.le_refl _) (by rw [hz2]; omega) (by omega)
  simp only [Int.toNat_natCast, hz1, Nat.mul_one] at h
  rw [made_bools] at h
  exact h
theorem own_bools (n : Nat) (hn : n ≤ 1000000) (w w0 : World) (hb : w0.heap.size ≤ w.heap.size) : OwnB w0 (w.alloc (.cells ((List.replicate n false).map boolV).toArray 4)) w.heap.size n (List.replicate n false) :=
  ⟨by simp, .inr ⟨w.heap.size, n, _, rfl, hb, heap_alloc_new w _, Nat.le_refl _, by unfold maxLen; omega, by simp, by simp⟩⟩
end Go.Proofs.YtimmadkbkimonaaGreatDoor
namespace Go.Proofs.YtimmadkbkimonaaGreatDoor
set_option linter.unusedSimpArgs false
set_option linter.unusedVariables false
open Go.RowKit

def partK (l : List Int) (g : Nat → Int) (k : Nat) : List Int := (List.range l.length).map fun (j : Nat) => if j < k then g j else l[j]?.getD 0
theorem partK_zero (l : List Int) (g : Nat → Int) : partK l g 0 = l := by
  refine List.ext_getElem? fun i => ?_
  unfold partK
  rw [List.getElem?_map]
  by_cases hi : i < l.length
  · rw [List.getElem?_range hi, List.getElem?_eq_getElem hi]; simp [List.getElem?_eq_getElem hi]
  · rw [List.getElem?_eq_none (by simp; omega), List.getElem?_eq_none (by omega)]; rfl
theorem partK_set (l : List Int) (g : Nat → Int) {k : Nat} (hk : k < l.length) {v : Int} (hv : v = g k) : (partK l g k).set k v = partK l g (k + 1) := by
  subst hv
  refine List.ext_getElem? fun i => ?_
  rw [List.getElem?_set]
  unfold partK
  rw [List.getElem?_map, List.getElem?_map, List.length_map, List.length_range]
  by_cases hi : i < l.length
  · rw [List.getElem?_range hi]
    by_cases e : k = i
    · subst e
      rw [if_pos rfl, if_pos hk]
      simp
    · rw [if_neg e]
      simp only [Option.map_some]
      congr 1
      by_cases h2 : i < k
      · rw [if_pos h2, if_pos (by omega)]
      · rw [if_neg h2, if_neg (by omega)]
  · rw [if_neg (by omega)]
    rw [List.getElem?_eq_none (by simp; omega)]
    rfl
theorem partK_all (l : List Int) (g : Nat → Int) : partK l g l.length = (List.range l.length).map g := by
  unfold partK
  refine List.map_congr_left fun j hj => ?_
  rw [if_pos (List.mem_range.1 hj)]
end Go.Proofs.YtimmadkbkimonaaGreatDoor
namespace Go.Proofs.YtimmadkbkimonaaGreatDoor
open Go.RowKit

def LoopAt (rec : LoopState → Option Code → Loop) (D : Nat) (st : LoopState) (pe : Option Code) (W : World) : Prop :=
  W.heap[D + 1]? = some (.loop (rec st pe)) ∧ W.heap[D]? = some (.deferred (some []))

theorem LoopAt.kept {rec : LoopState → Option Code → Loop} {D : Nat} {st : LoopState} {pe : Option Code} {W W' : World} (h : LoopAt rec D st pe W) (hk : KeepsFrom D W W') : LoopAt rec D st pe W' :=
  ⟨hk.same _ _ (by omega) h.1 rfl, hk.same _ _ (Nat.le_refl _) h.2 rfl⟩

def roundEnd (D : Nat) (B : World → Prop) (X : Code → World → Prop) (W : World) : Exit → Act → World → Prop
  | .normal, _, W' => KeepsFrom D W W' ∧ B W'
  | .ret, _, W' => KeepsFrom D W W' ∧ X .ret W'
  | .exit id, _, W' => KeepsFrom D W W' ∧ X (.exit id) W'
  | .goto t, _, W' => KeepsFrom D W W' ∧ X (.goto t) W'
  | .panic _, _, _ => False
  | .outgrown, _, _ => False

end Go.Proofs.YtimmadkbkimonaaGreatDoor
namespace Go.Proofs.YtimmadkbkimonaaGreatDoor
open Go.RowKit

def Wide (F : Fence) : Prop := F = Fence.wide ∨ ∃ l, F = Fence.wide.inRound l
theorem Wide.fn {F : Fence} (h : Wide F) (f : FuncId) : F.fn f := by
  rcases h with rfl | ⟨l, rfl⟩ <;> trivial
theorem Wide.depth {F : Fence} (h : Wide F) : F.depth.isSome = true → ∀ {p : Prop}, p := by
  rcases h with rfl | ⟨l, rfl⟩ <;> intro h' <;> simp [Fence.wide] at h'
theorem Wide.calls {F : Fence} (h : Wide F) {n : Nat} {P : Program} {f : FuncId} {args : Array Value} {w : World} {R : Ending → World → Prop} (hc : Calls P f args w R) : CallsIn F n P f args w R := by
  rcases h with rfl | ⟨l, rfl⟩
  · exact callsIn_wide.2 hc
  · exact CallsIn.inRound l (callsIn_wide.2 hc)
theorem Wide.rows {F : Fence} (h : Wide F) {n : Nat} {P : Program} {row : String} {args : Array Value} {w : World} {R : Value → World → Prop} (hc : Rows P row args w R) : RowsIn F n P row args w R := by
  rcases h with rfl | ⟨l, rfl⟩ <;> exact fun c cs _ => let ⟨v, w', r, s⟩ := hc c cs; ⟨v, w', r, stepsIn_wide.2 s⟩
theorem wpIn_of_wp {F : Fence} (hF : Wide F) {n : Nat} {P : Program} {o : Oper} {a : Act} {w : World} {K : Act → World → Prop} {Q : Exit → Act → World → Prop} (hnd : ∀ c, o.op ≠ .defer c) (h : o.wp P a w K Q) : o.wpIn F n P a w K Q := by
  refine ⟨fun f _ => hF.fn f, ?_⟩
  rw [Oper.semAt_plain F _ _ hnd]
  unfold Oper.wp at h
  generalize (execOp a.eval o).run P w = r at h
  unfold Oper.upon at h
  unfold Oper.uponIn
  cases r with
  | ok v w' =>
    cases v with
    | enter f args => exact ⟨fun h' => hF.depth h', hF.calls h⟩
    | row r args => exact ⟨fun h' => hF.depth h', hF.rows h⟩
    | round _ _ _ _ _ => exact (show False from h).elim
    | _ => exact h
  | halt s w' => cases s <;> exact h
def noDefer (l : List Oper) : Bool := l.all fun o => match o.op with | .defer _ => false | _ => true
theorem noDefer_at {l : List Oper} (h : noDefer l = true) {o : Oper} (ho : o ∈ l) : ∀ c, o.op ≠ .defer c := fun c e => by
  have := List.all_eq_true.1 h o ho
  rw [e] at this
  cases this
theorem wpListIn_of_wpList {F : Fence} (hF : Wide F) {n : Nat} {P : Program} {ops : Array Oper} {Q : Exit → Act → World → Prop} (hQ : ¬ LetsOut Q) : ∀ (l : List Oper) (a : Act) (w : World), noDefer l = true → wpList P ops Q l a w → wpListIn F n P ops Q l a w
  | [], a, w, _, h => h
  | o :: l, a, w, hnd, h => by
    have h1 : ∀ c, o.op ≠ .defer c := noDefer_at hnd (List.mem_cons_self ..)
    have h2 : noDefer l = true := (Bool.and_eq_true_iff.1 hnd).2
    unfold wpList at h
    unfold wpListIn
    split at h
    · rename_i hw
      rw [if_pos hw]
      rcases h with h | h
      · exact wpIn_of_wp hF h1 (Oper.wp_mono (fun a w hk => wpListIn_of_wpList hF hQ l a w h2 hk) h)
      · exact (hQ h.2).elim
    · rename_i hw
      rw [if_neg hw]
      exact ⟨fun f _ => hF.fn f, wpListIn_of_wpList hF hQ l _ w h2 h⟩
theorem wpIn_region_plain {F : Fence} (hF : Wide F) {n : Nat} {P : Program} {id : Nat} {l : List Oper} {a : Act} {w : World} {Q : Exit → Act → World → Prop} (hQ : ¬ LetsOut Q) (hnd : noDefer l = true) (h : wpList P l.toArray Q l a w) : (Code.region id l.toArray false).wpIn F n P Q a w :=
  wpIn_region_lit (wpListIn_of_wpList hF hQ l a w hnd h)
theorem wpOpIn_of_wpOp {F : Fence} (hF : Wide F) {n : Nat} {P : Program} {ops : Array Oper} {Q : Exit → Act → World → Prop} (hQ : ¬ LetsOut Q) (hnd : noDefer ops.toList = true) (i : Nat) {K : Act → World → Prop} {a : Act} {w : World} (h : wpOp P ops Q i K a w) : wpOpIn F n P ops Q i K a w := by
  unfold wpOp at h
  unfold wpOpIn
  cases ho : ops[i]? with
  | none => rw [ho] at h; exact h
  | some o =>
    rw [ho] at h
    dsimp only at h ⊢
    split at h
    · rename_i hw
      rw [if_pos hw]
      rcases h with h | h
      · exact wpIn_of_wp hF (noDefer_at hnd (by rw [Array.mem_toList_iff]; exact Array.mem_of_getElem? ho)) h
      · exact (hQ h.2).elim
    · rename_i hw
      rw [if_neg hw]
      exact ⟨fun f _ => hF.fn f, h⟩
theorem wpAnyIn_of_wpAny {F : Fence} (hF : Wide F) {n : Nat} {P : Program} {md : Region.Mode} {ops : Array Oper} {Q : Exit → Act → World → Prop} (hQ : ¬ LetsOut Q) (hnd : noDefer ops.toList = true) : ∀ (fuel : Nat) (listed : Array Bool) (a : Act) (w : World), wpAny P md ops Q fuel listed a w → wpAnyIn F n P md ops Q fuel listed a w
  | 0, _, _, _, h => h
  | fuel + 1, _, _, _, h => ⟨h.1, fun i hi => wpOpIn_of_wpOp hF hQ hnd i (wpOp_mono (fun a w hk => wpAnyIn_of_wpAny hF hQ hnd fuel _ a w hk) (h.2 i hi))⟩

section
variable {P : Program} {σ : Type} {n : Nat} {g : Operand} {ps : Array Tmp} {assign body : Code} {Q : Exit → Act → World → Prop} {a : Act} {w : World}
theorem wp_range_own2
    {gf : Nat} {lb : Array Value} (hg : a.eval g = .func (.func gf) #[] lb) (eg : ∀ args w, (callFunc gf args).run P w = .ok (.enter gf args) w)
    (encs : σ → Array Value) (hps : ∀ x, (encs x).size = ps.size)
    (A B : σ → World → Prop) (A' : σ → Act → World → Prop) (Done : World → Prop)
    (hA' : ∀ s a W o, A' s a W → (∃ r, W.heap[w.heap.size + 1]? = some (.loop r)) → A' s a (W.putObj (w.heap.size + 1) (.loop o)))
    (hB : ∀ s W o, B s W → (∃ r, W.heap[w.heap.size + 1]? = some (.loop r)) → B s (W.putObj (w.heap.size + 1) (.loop o)))
    (hDone : ∀ W o, Done W → (∃ r, W.heap[w.heap.size + 1]? = some (.loop r)) → Done (W.putObj (w.heap.size + 1) (.loop o)))
    (hassign : ∀ (s : σ) (W : World), A s W →
      assign.wpIn (Fence.wide.inRound (w.heap.size + 1)) (n - 1) P (Exit.then (fun a₁ W₁ => KeepsFrom w.heap.size W W₁ ∧ A' s a₁ W₁) (fun _ _ _ => False)) { tmps := (ps.zip (encs s)).foldl (fun t (p, v) => t.setIfInBounds p v) a.tmps, defers := [] } W)
    (hbody : ∀ (s : σ) (a₁ : Act) (W : World), A' s a₁ W → body.wpIn (Fence.wide.inRound (w.heap.size + 1)) (n - 1) P (roundEnd w.heap.size (B s) (fun _ _ => False) W) a₁ W)
    (hiter : ∀ (rec : LoopState → Option Code → Loop),
      LoopAt rec w.heap.size .ready none ((w.alloc (.deferred (some []))).alloc (.loop (rec .ready none))) →
      (∀ s W, A s W → LoopAt rec w.heap.size .ready none W → YieldAt Fence.wide (n - 1) P (w.heap.size + 1) (encs s) W fun e W' =>
        e = .returned (.bool true) ∧ B s W' ∧ LoopAt rec w.heap.size .ready none W') →
      CallsIn Fence.wide n P gf (#[.func (.yield (w.heap.size + 1)) #[] #[]] ++ lb) ((w.alloc (.deferred (some []))).alloc (.loop (rec .ready none))) fun e W' =>
        (∃ v, e = .returned v) ∧ Done W' ∧ LoopAt rec w.heap.size .ready none W')
    (hdone : ∀ (W : World), Done W → W.heap[w.heap.size]? = some (.deferred (some [])) → Q .normal { a with defers := { target := .collected w.heap.size, args := #[] } :: a.defers } W) :
    (Code.rangeFunc g ps assign body).wpIn Fence.wide (n + 1) P Q a w := by
  refine wpIn_rangeFunc ?_
  intro fn hfn
  obtain ⟨rec, hrec⟩ : ∃ rec : LoopState → Option Code → Loop, rec = fun st pe => { state := st, pending := pe, fn, tmps := a.tmps, params := ps, assign, body, defers := w.heap.size } := ⟨_, rfl⟩
  have hnew : LoopAt rec w.heap.size .ready none ((w.alloc (.deferred (some []))).alloc (.loop (rec .ready none))) := by
    refine ⟨?_, (Below.heap_alloc _ _ _ (by simp)).trans (World.alloc_heap_new w _)⟩
    have := World.alloc_heap_new (w.alloc (.deferred (some []))) (.loop (rec .ready none))
    rwa [World.size_alloc] at this
  have hput : ∀ (W : World) (st st' : LoopState) (pe pe' : Option Code), LoopAt rec w.heap.size st pe W → LoopAt rec w.heap.size st' pe' (W.putObj (w.heap.size + 1) (.loop (rec st' pe'))) :=
    fun W st st' pe pe' h => ⟨World.putObj_heap_same (Array.getElem?_eq_some_iff.1 h.1).1, (World.putObj_heap_other (by omega)).trans h.2⟩
  refine ⟨w.heap.size + 1, [{ target := .collected w.heap.size, args := #[] }], (w.alloc (.deferred (some []))).alloc (.loop (rec .ready none)), { target := .fn (.func gf) lb, args := #[.func (.yield (w.heap.size + 1)) #[] #[]] }, (w.alloc (.deferred (some []))).alloc (.loop (rec .ready none)), gf,
    #[.func (.yield (w.heap.size + 1)) #[] #[]] ++ lb, (w.alloc (.deferred (some []))).alloc (.loop (rec .ready none)), ?_, ?_, ?_, ?_, ?_, ?_⟩
  · rw [hrec]; exact run_enterLoop_outer _ _ _ _ _
  · simp only [resolve, hg]
    simp [go_sem]
  · intro f' _
    trivial
  · simp [invoke, go_sem, eg]
  · intro h
    simp [Fence.wide] at h
  · rw [Nat.add_sub_cancel]
    refine (hiter rec hnew ?_).mono ?_
    · intro s W hs hl
      have hy := run_yield (P := P) (args := encs s) hl.1 (by rw [hrec]; exact hps s)
      rw [hrec] at hy
      refine ⟨fn, _, assign, body, hy, roundIn_of_wpIn hfn (wpIn_mono (hassign s W hs) ?_)⟩
      rintro e a₁ W₁ hp
      cases e with
      | normal =>
        obtain ⟨hk1, hs1⟩ : KeepsFrom w.heap.size W W₁ ∧ A' s a₁ W₁ := hp
        have hl1 := hl.kept hk1
        refine ⟨_, run_beginRound hl1.1 (by rw [hrec]), ?_⟩
        have hbusy : ({ rec .ready none with state := .busy } : Loop) = rec .busy none := by rw [hrec]
        rw [hbusy]
        have hl2 := hput W₁ .ready .busy none none hl1
        refine wpIn_mono (hbody s a₁ _ (hA' s a₁ W₁ _ hs1 ⟨_, hl1.1⟩)) ?_
        have fin : ∀ (jump : Option Code) (W3 : World), KeepsFrom w.heap.size (W₁.putObj (w.heap.size + 1) (.loop (rec .busy none))) W3 →
            (Instr.endRound (w.heap.size + 1) jump).run P W3 = .ok (.bool jump.isNone) (W3.putObj (w.heap.size + 1) (.loop (rec (if jump.isNone then .ready else .done) jump))) ∧
            LoopAt rec w.heap.size .busy none W3 ∧ LoopAt rec w.heap.size (if jump.isNone then .ready else .done) jump (W3.putObj (w.heap.size + 1) (.loop (rec (if jump.isNone then .ready else .done) jump))) := fun jump W3 hk => by
          have h3 := hl2.kept hk
          have hr := run_endRound (P := P) jump h3.1
          rw [hrec] at hr ⊢
          exact ⟨hr, by rw [hrec] at h3; exact h3, by have := hput W3 .busy (if jump.isNone then .ready else .done) none jump h3; rw [hrec] at this; exact this⟩
        rintro e a3 W3 hp
        cases e with
        | normal =>
          obtain ⟨hk, hb⟩ := hp
          obtain ⟨hr, h3, h4⟩ := fin none W3 hk
          exact ⟨_, _, hr, rfl, hB s W3 _ hb ⟨_, h3.1⟩, h4⟩
        | ret => exact hp.2.elim
        | exit id => exact hp.2.elim
        | goto t => exact hp.2.elim
        | panic ch => exact hp.elim
        | outgrown => exact hp.elim
      | _ => exact hp.elim
    · rintro e W2 ⟨⟨v, rfl⟩, hd, hl⟩
      refine ⟨none, _, by have := run_endLoop (P := P) hl.1 (by rw [hrec]; simp); rw [hrec] at this; exact this, ?_⟩
      exact hdone _ (hDone W2 _ hd ⟨_, hl.1⟩) ((World.putObj_heap_other (by omega)).trans hl.2)
end
end Go.Proofs.YtimmadkbkimonaaGreatDoor
namespace Go.Proofs.YtimmadkbkimonaaGreatDoor
set_option linter.unusedSimpArgs false
set_option linter.unusedVariables false
open Go.RowKit
open Go.Maps (Keyed)

def I64q (z : Int) : Prop := -9223372036854775808 ≤ z ∧ z ≤ 9223372036854775807
theorem q_keyed : Keyed Tryz.prog 3 := Maps.int_keyed Tryz.underlying3
theorem q_wf {z : Int} (h : I64q z) : (Lit.int .i64 z).wf = true := by
  have h1 := h.1
  have h2 := h.2
  simp [Lit.wf, IntKind.min, IntKind.max, IntKind.signed, IntKind.bits]
  omega
theorem q_key {z : Int} (h : I64q z) : keyOf Tryz.prog 3 (.int .i64 z) = some (.int .i64 z) := Maps.keyOf_int_mk Tryz.underlying3 (q_wf h)
theorem q_zero (w : World) : (zeroValue 3).run Tryz.prog w = .ok (.int .i64 0) w := by kernel_rfl
def heldQ : Value → Option (DataW Value × List MemPlace) := fun v => some (.held v, [])
structure ReadsQ (D : DataW Value) (o : OfM) : Prop where
  ok : ∀ a, (o a).isSome = true → I64q a
  has : ∀ a, I64q a → Maps.has D (.int .i64 a) = (o a).isSome
  val : ∀ a x, o a = some x → ∀ z, D.atKey (.int .i64 a) z = .held (.int .i64 x)
def MapI (w : World) (b n : Nat) (o : OfM) : Prop := ∃ D, w.ownsMap Tryz.prog 3 heldQ b n D ∧ ReadsQ D o
theorem qlit_inj {a b : Int} (h : Lit.int .i64 a = Lit.int .i64 b) : a = b := by cases h; rfl
section
variable {D : DataW Value} {o : OfM} {w : World} {b n : Nat}
theorem ReadsQ.put (h : ReadsQ D o) (hm : Maps.IsMap D) {k : Int} (hk : I64q k) (x : Int) : ReadsQ (D.put (.int .i64 k) (.held (.int .i64 x))) (updM o k x) := by
  refine ⟨fun a ha => ?_, fun a ha => ?_, fun a y hy z => ?_⟩
  · unfold updM at ha
    split at ha
    · rename_i e; rw [e]; exact hk
    · exact h.ok a ha
  · unfold updM
    split
    · rename_i e; rw [e, Maps.has_put_same hm (show WideAt.IsKeyLit (.int .i64 k) from trivial)]; rfl
    · rename_i e; rw [Maps.has_put_other (fun he => e (qlit_inj he))]; exact h.has a ha
  · unfold updM at hy
    split at hy
    · rename_i e; cases hy; rw [e, Maps.atKey_put_same hm (show WideAt.IsKeyLit (.int .i64 k) from trivial)]
    · rename_i e; rw [Maps.atKey_put_other (fun he => e (qlit_inj he))]; exact h.val a y hy z
theorem MapI.made (w : World) : MapI (w.alloc (.map #[] 0)) w.heap.size 0 (fun _ => none) := ⟨_, World.ownsMap_made w _ _ _, ⟨by simp, fun a _ => rfl, by simp⟩⟩
theorem MapI.lt (h : MapI w b n o) : b < w.heap.size := by obtain ⟨D, h1, _⟩ := h; exact h1.lt
theorem MapI.of_block {w' : World} (h : MapI w b n o) (hb : w'.heap[b]? = w.heap[b]?) : MapI w' b n o := by
  obtain ⟨D, ⟨es, clock, h1, h2⟩, h3⟩ := h
  exact ⟨D, ⟨es, clock, hb.trans h1, h2⟩, h3⟩
theorem MapI.below {w' : World} (h : MapI w b n o) (hb : Below w.heap.size w w') : MapI w' b n o := h.of_block (hb.block b h.lt)
theorem MapI.blk (h : MapI w b n o) : ∃ es clock, w.heap[b]? = some (.map es clock) := by
  obtain ⟨D, ⟨es, clock, h1, _⟩, _⟩ := h
  exact ⟨es, clock, h1⟩
theorem MapI.step {w' : World} {r : Nat} (h : MapI w b n o) (hg : w.grownBy w' (some r)) (hne : b ≠ r) : MapI w' b n o := h.of_block (hg.block b h.lt (fun e => hne (Option.some.inj e)))
theorem run_getok_q (h : MapI w b n o) {t : TypeId} (ht : Tryz.prog.underlying t = some (.map 3 3)) {k : Int} (hk : I64q k) :
    (Instr.lookup t (.map (some b)) (.int .i64 k) true).run Tryz.prog w = .ok (.tuple #[.int .i64 ((o k).getD 0), .bool (o k).isSome]) w := by
  obtain ⟨D, h1, h2⟩ := h
  obtain ⟨v, ps, h3, h4⟩ := h1.look_ok q_keyed ht (q_zero w) (zd := .held (.int .i64 0)) (zp := []) rfl (q_key hk)
  rw [h2.has k hk] at h3
  simp only [heldQ, Option.some.injEq, Prod.mk.injEq] at h4
  refine h3.trans ?_
  cases hf : o k with
  | none =>
    rw [Maps.atKey_of_not_has (by rw [h2.has k hk, hf]; rfl)] at h4
    have := h4.1
    simp only [DataW.held.injEq] at this
    rw [this]; rfl
  | some y =>
    rw [h2.val k y hf] at h4
    have := h4.1
    simp only [DataW.held.injEq] at this
    rw [this]; rfl
theorem run_get_q (h : MapI w b n o) {t : TypeId} (ht : Tryz.prog.underlying t = some (.map 3 3)) {k : Int} (hk : I64q k) :
    (Instr.lookup t (.map (some b)) (.int .i64 k) false).run Tryz.prog w = .ok (.int .i64 ((o k).getD 0)) w := by
  obtain ⟨D, h1, h2⟩ := h
  obtain ⟨v, ps, h3, h4⟩ := h1.lookup q_keyed ht (q_zero w) (zd := .held (.int .i64 0)) (zp := []) rfl (q_key hk)
  simp only [heldQ, Option.some.injEq, Prod.mk.injEq] at h4
  refine h3.trans ?_
  cases hf : o k with
  | none =>
    rw [Maps.atKey_of_not_has (by rw [h2.has k hk, hf]; rfl)] at h4
    have := h4.1
    simp only [DataW.held.injEq] at this
    rw [this]; rfl
  | some y =>
    rw [h2.val k y hf] at h4
    have := h4.1
    simp only [DataW.held.injEq] at this
    rw [this]; rfl
end
theorem wpList_put_q {o : OfM} (w : World) {ops : Array Oper} {rest : List Oper} {op : Oper} {a : Act} {Q : Exit → Act → World → Prop} (hg : op.guard = none) (m x v : Operand) (t : TypeId) (hop : op.op = Op.mapUpdate t m x v) (ht : Tryz.prog.underlying t = some (.map 3 3)) (b n : Nat) (k y : Int)
    (hm : a.eval m = .map (some b)) (hmap : MapI w b n o) (hn : n < maxLen) (hx : a.eval x = .int .i64 k) (hk : I64q k) (hv : a.eval v = .int .i64 y)
    (hK : ∀ w', MapI w' b (n + 1) (updM o k y) → w.grownBy w' (some b) → wpList Tryz.prog ops Q rest (a.put op.dst undef) w') : wpList Tryz.prog ops Q (op :: rest) a w := by
  obtain ⟨D, h1, h2⟩ := hmap
  exact wpList_mapUpdate_own w hg m x v t hop 3 3 q_keyed ht heldQ b n D hm h1 hn (.int .i64 k) (.int .i64 y) (.int .i64 k) hx hv (q_key hk) (.held (.int .i64 y)) [] rfl
    (fun w' h3 h4 => hK w' ⟨_, h3, h2.put h1.isMap hk y⟩ h4)
def Marks (base : Nat) (ds : List Deferred) (W : World) : Prop := ds.Pairwise (fun d e => d.target ≠ e.target) ∧ ∀ d ∈ ds, ∃ r, d = { target := .collected r, args := #[] } ∧ W.heap[r]? = some (.deferred (some [])) ∧ base ≤ r
theorem Marks.kept {base : Nat} {ds : List Deferred} {W W' : World} (h : Marks base ds W) (hk : ∀ r : Nat, W.heap[r]? = some (.deferred (some [])) → W'.heap[r]? = some (.deferred (some []))) : Marks base ds W' :=
  ⟨h.1, fun d hd => by
    obtain ⟨r, e, hr, hb⟩ := h.2 d hd
    exact ⟨r, e, hk r hr, hb⟩⟩
theorem Marks.below {base : Nat} {ds : List Deferred} {W W' : World} (h : Marks base ds W) (hb : Below W.heap.size W W') : Marks base ds W' := h.kept fun r hr => qblk hb hr
theorem Marks.step {base : Nat} {ds : List Deferred} {W W' : World} {row : Option Nat} (h : Marks base ds W) (hg : W.grownBy W' row) (hr : ∀ r : Nat, row = some r → W.heap[r]? ≠ some (.deferred (some []))) : Marks base ds W' := h.kept fun r h1 => qgrown hg h1 (fun e => hr r e.symm h1)
theorem Marks.add {base : Nat} {ds : List Deferred} {W W' : World} {r : Nat} (h : Marks base ds W) (hs : W.heap.size ≤ r) (hbr : base ≤ r) (h' : Marks base ds W') (hr : W'.heap[r]? = some (.deferred (some []))) : Marks base ({ target := .collected r, args := #[] } :: ds) W' := by
  refine ⟨List.pairwise_cons.2 ⟨fun d hd e => ?_, h.1⟩, fun d hd => ?_⟩
  · obtain ⟨r2, rfl, h2, _⟩ := h.2 d hd
    have := qlt h2
    simp only [Target.collected.injEq] at e
    omega
  · rcases List.mem_cons.1 hd with rfl | hd
    · exact ⟨r, rfl, hr, hbr⟩
    · exact h'.2 d hd
theorem leaves_marks {F : Fence} {n : Nat} {P : Program} {fn : Func} {tmps : Array Value} {R : Ending → World → Prop} (base : Nat) (I : World → Prop) (hI : ∀ (W : World) (r : Nat), base ≤ r → I W → W.heap[r]? = some (.deferred (some [])) → I (W.putObj r (.deferred none)))
    (hR : ∀ W, I W → ∃ v, (results fn tmps).run P W = .ok v W ∧ R (.returned v) W) : ∀ (ds : List Deferred) (W : World), Marks base ds W → I W → LeavesInM F n P fn tmps R ds .returning W
  | [], W, _, h => hR W h
  | d :: ds, W, hm, h => by
    obtain ⟨r, rfl, hr, hbr⟩ := hm.2 d (List.mem_cons_self ..)
    refine ⟨by simp, .inl ⟨_, _, rfl, run_takeDeferred hr, ?_⟩⟩
    refine leaves_marks base I hI hR ds _ ⟨(List.pairwise_cons.1 hm.1).2, fun e he => ?_⟩ (hI W r hbr h hr)
    obtain ⟨r2, rfl, h2, hb2⟩ := hm.2 e (List.mem_cons_of_mem _ he)
    refine ⟨r2, rfl, (World.putObj_heap_other (fun e2 => ?_)).trans h2, hb2⟩
    exact (List.pairwise_cons.1 hm.1).1 _ he (by rw [e2])
end Go.Proofs.YtimmadkbkimonaaGreatDoor
namespace Go.Proofs.YtimmadkbkimonaaGreatDoor
set_option linter.unusedSimpArgs false
set_option linter.unusedVariables false
open Go.RowKit

structure AppK (v : Value) (v' : Value) (w w' : World) : Prop where
  rd : ∀ {s k n c : Nat} {xs : List Int}, RdI w (some ⟨s, k, none⟩) n c xs → some s ≠ v.ownBlock → RdI w' (some ⟨s, k, none⟩) n c xs
  no : ∀ s, v.ownBlock ≠ some s → s < w.heap.size → v'.ownBlock ≠ some s ∧ s < w'.heap.size
theorem run_app_at (w : World) (base : Nat) (sa : Option Addr) (sn sc : Nat) (xs : List Int) (hown : w.ownsRow base 3 1 (.slice sa sn sc) sn (xs.map intV)) (xa : Option Addr) (m xc : Nat) (ys : List Int) (hm : 0 < m) (hrd : RdI w xa m xc ys)
    (hbytes : (sn + m) * 8 ≤ 140737488355328) (hbase : base ≤ w.heap.size) :
    ∃ a' c' w', (Builtin.append_ #[26, 26] 26 #[.slice sa sn sc, .slice xa m xc]).run Tryz.prog w = .ok (.slice a' (sn + m) c') w' ∧ w'.ownsRow base 3 1 (.slice a' (sn + m) c') (sn + m) ((xs ++ ys).map intV) ∧
      (∀ (p : Nat) (ob : Obj), w.heap[p]? = some ob → (∀ cur, ob ≠ .cells cur 3 (0, 0)) → w'.heap[p]? = some ob) ∧ (∀ W, Below base W w → Below base W w') ∧ AppK (.slice sa sn sc) (.slice a' (sn + m) c') w w' ∧ w.grownBy w' (Value.ownBlock (.slice sa sn sc)) := by
  obtain ⟨i, hi, hz0, hz1, hz2⟩ := info_parts qinfoI
  obtain ⟨b, off, rfl, h4⟩ := RdA.at hrd hm
  obtain ⟨v', w', h1, h2, h3, _, h5⟩ := run_append_own_at (P := Tryz.prog) w base 26 26 3 i _ 1 8 Tryz.underlying26 hi hz0 hz1 hz2 rfl (by decide) (.slice sa sn sc) sn _ hown ⟨b, off, none⟩ m xc (ys.map intV) hrd.1 (fun j u hu => by have := h4 j u hu; unfold Addr.add; split <;> first | exact this | (rename_i e; rw [e] at this; exact this)) (intV_one _) (by unfold maxLen; omega) (by omega) hbase
  obtain ⟨a', c', rfl⟩ : ∃ a' c', v' = .slice a' (sn + m) c' := by
    rcases h2.2 with ⟨rfl, h⟩ | ⟨g, cap, cur, rfl, _⟩
    · exact ⟨none, 0, by rw [h]⟩
    · exact ⟨_, _, rfl⟩
  refine ⟨a', c', w', h1, by rw [List.map_append]; exact h2, fun p o hp ho => qgrown h3 hp (qown_no hown hp ho), fun W hb => hb.grown h3 hbase (fun k e => (hown.lt k e).1), ⟨fun {s k n c xs} hr hne => ?_, fun s hne hs => ?_⟩, h3⟩
  · refine RdA.of_cells hr fun b' hb hlt => ?_
    obtain ⟨o', e⟩ := hb
    cases e
    exact h3.block _ hlt hne
  · refine ⟨fun e => ?_, Nat.lt_of_lt_of_le hs h3.size⟩
    rcases h5 with h5 | h5
    · rw [h5] at e; exact hne e
    · rw [h5] at e
      have := Option.some.inj e
      omega
theorem appr_ints (w : World) {ops : Array Oper} {rest : List Oper} {o : Oper} {a : Act} {Q : Exit → Act → World → Prop} (hgd : o.guard = none) (s x : Operand)
    (ho : o.op = .call { callee := .builtin .append, args := #[s, x], argTypes := #[26, 26] }) (hty : o.type = 26) (base : Nat)
    (sa : Option Addr) (sn sc : Nat) (xs : List Int) (hs : a.eval s = .slice sa sn sc) (hown : w.ownsRow base 3 1 (.slice sa sn sc) sn (xs.map intV))
    (xa : Option Addr) (m xc : Nat) (ys : List Int) (hx : a.eval x = .slice xa m xc) (hm : 0 < m) (hrd : RdI w xa m xc ys) (hbytes : (sn + m) * 8 ≤ 140737488355328) (hbase : base ≤ w.heap.size)
    (h : ∀ a' c' w', w'.ownsRow base 3 1 (.slice a' (sn + m) c') (sn + m) ((xs ++ ys).map intV) → (∀ (p : Nat) (ob : Obj), w.heap[p]? = some ob → (∀ cur, ob ≠ .cells cur 3 (0, 0)) → w'.heap[p]? = some ob) → (∀ W, Below base W w → Below base W w') → AppK (.slice sa sn sc) (.slice a' (sn + m) c') w w' → wpList Tryz.prog ops Q rest (a.put o.dst (.slice a' (sn + m) c')) w') :
    wpList Tryz.prog ops Q (o :: rest) a w := by
  obtain ⟨a', c', w', h1, h2, h3, h4, h5, _⟩ := run_app_at w base sa sn sc xs hown xa m xc ys hm hrd hbytes hbase
  exact wpList_plain hgd fun _ hK => qappend s x 26 ho _ _ _ hs hx (by rw [hty]; exact h1) (hK _ _ (h a' c' w' h2 h3 h4 h5))
end Go.Proofs.YtimmadkbkimonaaGreatDoor
