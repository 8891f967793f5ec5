/- Parts of the proof, in this order: neighbours of stones, as an iterator; neighbours, Neighbours of stones; The flood in memory; regions of stones; The reference's marks in memory: a row of numbers, a work list; Regions of stones; Dead of stones; marks of the reference. -/
import Derived.OrdersIn
import Derived.WalkMore
import Derived.Deep.LoopGhost
import Derived.Deep.Cut
import Derived.Laws.MakeOwn
import Derived.Test.YtimmadkbkimonaaGreatDoorKPsv3
set_option linter.unusedSimpArgs false
set_option linter.unusedVariables false
open List renaming getElem_toArray → lq0, getElem_cons_succ → lq1, getElem_cons_zero → lq2, setIfInBounds_toArray → lq3, set_cons_zero → lq4, set_cons_succ → lq5
namespace Go.Proofs.YtimmadkbkimonaaGreatDoor
set_option linter.unusedSimpArgs false
set_option linter.unusedVariables false
open Go.RowKit

def ringAt (c : CellV) (j : Nat) : Int := if j = 0 then c.1 - 1 else c.1 + 1
def nbK (f : FaceV) (c : CellV) (k : Nat) : List Int := [indexF f c.1 (c.2 - 1), indexF f c.1 (c.2 + 1)] ++ (List.range k).flatMap fun j => if inB (ringAt c j) 0 (f.rings - 1) = true then [indexF f (ringAt c j) c.2] else []
theorem nbK_succ (f : FaceV) (c : CellV) (k : Nat) : nbK f c (k + 1) = nbK f c k ++ (if inB (ringAt c k) 0 (f.rings - 1) = true then [indexF f (ringAt c k) c.2] else []) := by
  unfold nbK
  rw [List.range_succ, List.flatMap_append, List.append_assoc]
  simp
theorem nbK_two (f : FaceV) (i : Int) : nbK f (cellF f i) 2 = neighL f i := by
  unfold nbK neighL ringAt
  simp [List.range_succ]
theorem nbK_len (f : FaceV) (c : CellV) (k : Nat) : 2 ≤ (nbK f c k).length ∧ (nbK f c k).length ≤ 2 + k := by
  induction k with
  | zero => simp [nbK]
  | succ k ih =>
    rw [nbK_succ, List.length_append]
    split <;> simp <;> omega
theorem LoopAt.kept2 {rec : LoopState → Option Code → Loop} {D : Nat} {st : LoopState} {pe : Option Code} {W W' : World} (h : LoopAt rec D st pe W) (hk : ∀ (p : Nat) (ob : Obj), W.heap[p]? = some ob → (∀ cur, ob ≠ .cells cur 3 (0, 0)) → W'.heap[p]? = some ob) : LoopAt rec D st pe W' :=
  ⟨hk _ _ h.1 (by simp), hk _ _ h.2 (by simp)⟩
theorem LoopAt.below2 {rec : LoopState → Option Code → Loop} {D : Nat} {st : LoopState} {pe : Option Code} {W W' : World} (h : LoopAt rec D st pe W) (hb : Below W.heap.size W W') : LoopAt rec D st pe W' := ⟨qblk hb h.1, qblk hb h.2⟩
def ItAt (L : List Int) (g lc : Nat) (W : World) : Prop := (∃ cur, W.heap[g]? = some (.cells cur 3 (0, 0))) ∧ RdI W (some ⟨g, 0, none⟩) L.length lc L
theorem ItAt.kept {L : List Int} {g lc : Nat} {W W' : World} (h : ItAt L g lc W) (hk : ∀ ob, W.heap[g]? = some ob → W'.heap[g]? = some ob) : ItAt L g lc W' := by
  obtain ⟨⟨cur, hc⟩, hr⟩ := h
  refine ⟨⟨cur, hk _ hc⟩, RdA.of_cells hr fun b hb _ => ?_⟩
  obtain ⟨off, e⟩ := hb
  cases e
  rw [hc]
  exact hk _ hc
theorem ItAt.below {L : List Int} {g lc : Nat} {W W' : World} (h : ItAt L g lc W) (hb : Below W.heap.size W W') : ItAt L g lc W' := h.kept fun _ h => qblk hb h
theorem ItAt.put {L : List Int} {g lc r : Nat} {W : World} {o : Obj} (h : ItAt L g lc W) (hl : ∃ l, W.heap[r]? = some (.loop l)) : ItAt L g lc (W.putObj r o) := by
  obtain ⟨l, hl⟩ := hl
  obtain ⟨⟨cur, hc⟩, hr⟩ := h
  exact ItAt.kept ⟨⟨cur, hc⟩, hr⟩ fun ob ho => (World.putObj_heap_other (fun e => by rw [e, hl] at hc; cases hc)).trans ho
set_option maxHeartbeats 4000000 in
set_option maxRecDepth 100000 in
theorem nbIter (m D p q : Nat) (f : FaceV) (a : Option Addr) (n : Nat) (i : Int) (w : World) (hp : w.heap[p]? = some (.cells (f.cells a n) 28 (0, 0))) (hq : w.heap[q]? = some (.cells #[.int .i64 i] 3 (0, 0))) (hv : f.valid = true) (hi : InF f i)
    (Con : Nat → List Int → World → Prop) (h0 : ∀ g W, w.heap.size ≤ g → g < W.heap.size → Below w.heap.size w W → Con g [] W)
    (rec : LoopState → Option Code → Loop) (hl : LoopAt rec D .ready none w)
    (hY : ∀ (g lc : Nat) (ks : List Int) (x : Int) (rest : List Int) (W : World), neighF f i = ks ++ x :: rest → Con g ks W → ItAt (neighF f i) g lc W → LoopAt rec D .ready none W → YieldAt Fence.wide (m - 1) Tryz.prog (D + 1) #[.int .i64 x] W fun e W' =>
        e = .returned (.bool true) ∧ Con g (ks ++ [x]) W' ∧ ItAt (neighF f i) g lc W' ∧ LoopAt rec D .ready none W') :
    CallsIn Fence.wide m Tryz.prog 129 #[.func (.yield (D + 1)) #[] #[], .pointer (some ⟨p, 0, none⟩), .pointer (some ⟨q, 0, none⟩)] w fun e W' =>
        (∃ v, e = .returned v) ∧ (∃ g, Con g (neighF f i) W') ∧ LoopAt rec D .ready none W' := by
  have HP := Lib.hid hp
  have HV := Lib.hid hv
  have IV := Lib.hid (FaceV.int hv)
  have HI := Lib.hid hi
  have H0 := Lib.hid h0
  have HYI := Lib.hid hY
  have L0 := Lib.hid hl
  have XF := Lib.hid hp
  have XI := Lib.hid hq
  have LL := Lib.hid (FaceV.len_le hv)
  have CH := Lib.hid (cellF_has hv hi)
  have CI := Lib.hid (hasF_iff.1 CH.out.1)
  have BF := Lib.hid (Below.refl w.heap.size w)
  clear hv hi h0 hY hl hp hq HP
  refine callsIn_of_wp Tryz.func129 rfl trivial ?_
  simp only [Tryz.ntmps129, List.size_toArray, List.length_cons, List.length_nil, Nat.reduceAdd, Nat.reduceSub, Array.replicate_succ, Array.replicate_zero, List.push_toArray, List.append_toArray, List.nil_append, List.cons_append]
  refine (wpIn_wide (n := m)).2 ?_
  have c0 := qcell XF.out 0 (.int .i64 f.eye) rfl
  have c1 := qcell XF.out 1 (.int .i64 f.rings) rfl
  have c2 := qcell XF.out 2 (.int .i64 f.sectors) rfl
  have c3 := qcell XF.out 3 (.slice a f.kinds.length n) rfl
  have d0 := qcell XI.out 0 (.int .i64 i) rfl
  go_wp2_with (first
    | (refine wpList_load_row rfl 28 _ rfl p rfl 28 (f.cells a n) (0, 0) _ XF.out Tryz.underlying28 rfl (by exact (qJF f a n)) ?_)
    | fail)
  refine (cellOf_any f a n i w (by have := IV.out; omega) (by have h1 := HI.out; have := LL.out; unfold InF at h1; omega)).mono ?_
  rintro e V1 ⟨rfl, b⟩
  replace L0 := Lib.hid (L0.out.below2 b)
  clear c0 c1 c2 c3 d0
  replace BF := Lib.hid (BF.out.trans (b.mono BF.out.size))
  replace XF := Lib.hid (qblk b XF.out)
  replace XI := Lib.hid (qblk b XI.out)
  clear b
  have c0 := qcell XF.out 0 (.int .i64 f.eye) rfl
  have c1 := qcell XF.out 1 (.int .i64 f.rings) rfl
  have c2 := qcell XF.out 2 (.int .i64 f.sectors) rfl
  have c3 := qcell XF.out 3 (.slice a f.kinds.length n) rfl
  have d0 := qcell XI.out 0 (.int .i64 i) rfl
  obtain ⟨c, hc⟩ : ∃ c, Hid (cellF f i = c) := ⟨_, Lib.hid rfl⟩
  rw [hc.out] at CH CI ⊢
  have SA := Lib.hid (show wrap64 (c.2 - 1) = c.2 - 1 by have := CI.out; have := IV.out; unfold wrap64; omega)
  have SB := Lib.hid (show wrap64 (c.2 + 1) = c.2 + 1 by have := CI.out; have := IV.out; unfold wrap64; omega)
  have SC := Lib.hid (show wrap64 (c.1 - 1) = c.1 - 1 by have := CI.out; have := IV.out; unfold wrap64; omega)
  have SD := Lib.hid (show wrap64 (c.1 + 1) = c.1 + 1 by have := CI.out; have := IV.out; unfold wrap64; omega)
  have SE := Lib.hid (show wrap64 (f.rings - 1) = f.rings - 1 by have := IV.out; unfold wrap64; omega)
  go_upto_region 1 with (first
    | (refine wpList_load_row rfl 28 _ rfl p rfl 28 (f.cells a n) (0, 0) _ XF.out Tryz.underlying28 rfl (by exact (qJF f a n)) ?_)
    | (refine wpList_store_new V1 rfl 41 _ _ rfl (cellA (0, 0)) (cellA c) rfl rfl (by exact qJC c) rfl (qoneC c) ?_)
    | fail)
  clear c0 c1 c2 c3 d0
  have AL := al1 V1 (.cells (cellA c) 41)
  replace BF := Lib.hid (BF.out.trans (AL.1.mono BF.out.size))
  replace XF := Lib.hid (qblk AL.1 XF.out)
  replace L0 := Lib.hid (L0.out.below2 AL.1)
  have XR := Lib.hid AL.2
  obtain ⟨r, hr0⟩ : ∃ r, Hid (V1.heap.size = r) := ⟨_, Lib.hid rfl⟩
  rw [hr0.out] at XR ⊢
  clear AL XI
  generalize V1.alloc (.cells (cellA c) 41) = V2 at *
  have hl0 : Below V2.heap.size V2 V2.drew := (Below.refl _ _).drew
  replace L0 := Lib.hid (L0.out.below2 hl0)
  clear hl0
  have c0 := qcell XF.out 0 (.int .i64 f.eye) rfl
  have c1 := qcell XF.out 1 (.int .i64 f.rings) rfl
  have c2 := qcell XF.out 2 (.int .i64 f.sectors) rfl
  have c3 := qcell XF.out 3 (.slice a f.kinds.length n) rfl
  have d0 := qcell XR.out 0 (.int .i64 c.1) rfl
  have d1 := qcell XR.out 1 (.int .i64 c.2) rfl
  clear c0 c1 c2 c3 d0 d1
  have hd : Below V2.heap.size V2 V2.drew := (Below.refl _ _).drew
  replace BF := Lib.hid (BF.out.drew)
  replace XF := Lib.hid (qblk hd XF.out)
  replace XR := Lib.hid (qblk hd XR.out)
  refine zD (fun W => Below w.heap.size w W ∧ W.heap[p]? = some (.cells (f.cells a n) 28 (0, 0)) ∧ W.heap[r]? = some (.cells (cellA c) 41 (0, 0))) ⟨BF.out, XF.out, XR.out⟩ (fun hHeld => ?_)
  clear hd
  generalize V2.drew = V3 at *
  refine zT 0 rfl (.agg (f.cells a n)) (qyrow (by kernel_rfl) 28 _ rfl p rfl _ 28 (0, 0) _ (fun W hW => hW.2.1) Tryz.underlying28 rfl (by exact (qJF f a n))) ?_
  refine zW 1 rfl (.pointer (some ⟨r, 0, none⟩)) ?_
  refine zS 2 rfl (.int .i64 c.1) (fun W hW => by have c := qcell hW.2.2 0 (.int .i64 c.1) rfl; go_simp) ?_
  refine zW 3 rfl (.pointer (some ⟨r, 1, none⟩)) ?_
  refine zS 4 rfl (.int .i64 c.2) (fun W hW => by have c := qcell hW.2.2 1 (.int .i64 c.2) rfl; go_simp) ?_
  refine zW 5 rfl (.int .i64 (c.2 - 1)) (hy := .inl ⟨by kernel_rfl, by intro W _; go_simp; exact (IntWalk.i64_left _).trans SA.out⟩) ?_
  refine zT 7 rfl (.agg (f.cells a n)) (qyrow (by kernel_rfl) 28 _ rfl p rfl _ 28 (0, 0) _ (fun W hW => hW.2.1) Tryz.underlying28 rfl (by exact (qJF f a n))) ?_
  refine zW 8 rfl (.pointer (some ⟨r, 0, none⟩)) ?_
  refine zS 9 rfl (.int .i64 c.1) (fun W hW => by have c := qcell hW.2.2 0 (.int .i64 c.1) rfl; go_simp) ?_
  refine zW 10 rfl (.pointer (some ⟨r, 1, none⟩)) ?_
  refine zS 11 rfl (.int .i64 c.2) (fun W hW => by have c := qcell hW.2.2 1 (.int .i64 c.2) rfl; go_simp) ?_
  refine zW 12 rfl (.int .i64 (c.2 + 1)) (hy := .inl ⟨by kernel_rfl, by intro W _; go_simp; exact (IntWalk.i64_left _).trans SB.out⟩) ?_
  refine zR 6 rfl (fun K hK => ?_)
  go_simp
  refine (index_any f a n c.1 (c.2 - 1) V3 (by have := IV.out; omega) (by have := CI.out; have := IV.out; omega)).mono ?_
  rintro e V4 ⟨rfl, b⟩
  replace L0 := Lib.hid (L0.out.below2 b)
  replace BF := Lib.hid (BF.out.trans (b.mono BF.out.size))
  replace XF := Lib.hid (qblk b XF.out)
  replace XR := Lib.hid (qblk b XR.out)
  clear b
  dsimp only
  refine zK hK ⟨BF.out, XF.out, XR.out⟩ (fun hHeld => ?_)
  clear hK K
  refine zR 13 rfl (fun K hK => ?_)
  go_simp
  refine (index_any f a n c.1 (c.2 + 1) V4 (by have := IV.out; omega) (by have := CI.out; have := IV.out; omega)).mono ?_
  rintro e V5 ⟨rfl, b⟩
  replace L0 := Lib.hid (L0.out.below2 b)
  replace BF := Lib.hid (BF.out.trans (b.mono BF.out.size))
  replace XF := Lib.hid (qblk b XF.out)
  replace XR := Lib.hid (qblk b XR.out)
  clear b
  dsimp only
  refine zK hK ⟨BF.out, XF.out, XR.out⟩ (fun hHeld => ?_)
  clear hK K
  refine zR 14 rfl (fun K hK => ?_)
  rw [if_pos (by kernel_rfl)]
  refine qbuild (w' := V5.alloc (.cells #[.int .i64 (indexF f c.1 (c.2 - 1)), .int .i64 (indexF f c.1 (c.2 + 1))] 3)) (.slice (some ⟨V5.heap.size, 0, none⟩) 2 2) (by kernel_rfl) ?_
  have OW : Hid ((V5.alloc (.cells #[.int .i64 (indexF f c.1 (c.2 - 1)), .int .i64 (indexF f c.1 (c.2 + 1))] 3)).ownsRow w.heap.size 3 1 (.slice (some ⟨V5.heap.size, 0, none⟩) (nbK f c 0).length 2) (nbK f c 0).length ((nbK f c 0).map intV)) := Lib.hid (World.ownsRow_lit (base := w.heap.size) (e := 3) (size := 1) V5 #[.int .i64 (indexF f c.1 (c.2 - 1)), .int .i64 (indexF f c.1 (c.2 + 1))] 2 BF.out.size (by unfold maxLen; omega) rfl)
  have AL := al1 V5 (.cells #[.int .i64 (indexF f c.1 (c.2 - 1)), .int .i64 (indexF f c.1 (c.2 + 1))] 3)
  replace BF := Lib.hid (BF.out.trans (AL.1.mono BF.out.size))
  replace XF := Lib.hid (qblk AL.1 XF.out)
  replace XR := Lib.hid (qblk AL.1 XR.out)
  replace L0 := Lib.hid (L0.out.below2 AL.1)
  clear AL
  obtain ⟨l0, hl0⟩ : ∃ l0, V5.heap.size = l0 := ⟨_, rfl⟩
  rw [hl0] at OW ⊢
  clear hl0
  generalize V5.alloc (.cells #[.int .i64 (indexF f c.1 (c.2 - 1)), .int .i64 (indexF f c.1 (c.2 + 1))] 3) = V6 at *
  refine zK hK ⟨BF.out, XF.out, XR.out⟩ (fun hHeld => ?_)
  clear hK K
  refine zW 15 rfl (.slice (some ⟨l0, 0, none⟩) 2 2) ?_
  refine zE ?_
  clear hHeld
  have sc := SC.out
  have sd := SD.out
  have c0 := qcell XF.out 0 (.int .i64 f.eye) rfl
  have c1 := qcell XF.out 1 (.int .i64 f.rings) rfl
  have c2 := qcell XF.out 2 (.int .i64 f.sectors) rfl
  have c3 := qcell XF.out 3 (.slice a f.kinds.length n) rfl
  have d0 := qcell XR.out 0 (.int .i64 c.1) rfl
  have d1 := qcell XR.out 1 (.int .i64 c.2) rfl
  go_wp2_with fail
  clear sc sd
  clear c0 c1 c2 c3 d0 d1
  have BB := Lib.hid BF.out
  have OL : Hid (l0 < V6.heap.size) := Lib.hid (by
    obtain ⟨_, h2⟩ := OW.out
    rcases h2 with ⟨h2, _⟩ | ⟨g', cap, cur, hv, hb, hg, _⟩
    · cases h2
    · simp only [Value.slice.injEq, Option.some.injEq, Addr.mk.injEq] at hv
      obtain ⟨⟨rfl, _⟩, _⟩ := hv
      exact qlt hg)
  have AL := al1 V6 (.cells #[.int .i64 (c.1 - 1), .int .i64 (c.1 + 1)] 3)
  replace BF := Lib.hid (BF.out.trans (AL.1.mono BF.out.size))
  replace XF := Lib.hid (qblk AL.1 XF.out)
  replace XR := Lib.hid (qblk AL.1 XR.out)
  replace L0 := Lib.hid (L0.out.below2 AL.1)
  replace OW := Lib.hid (own_below OW.out AL.1)
  have S1 := Lib.hid (show RdI (V6.alloc (.cells #[.int .i64 (c.1 - 1), .int .i64 (c.1 + 1)] 3)) (some ⟨V6.heap.size, 0, none⟩) 2 2 [c.1 - 1, c.1 + 1] from RdA.of_own (World.ownsRow_lit (base := w.heap.size) (e := 3) (size := 1) V6 #[.int .i64 (c.1 - 1), .int .i64 (c.1 + 1)] 2 (by first | exact (Nat.le_trans BB.out.size (Nat.le_refl _)) | omega) (by unfold maxLen; omega) rfl))
  clear AL
  obtain ⟨s, hs⟩ : ∃ s, Hid (V6.heap.size = s) := ⟨_, Lib.hid rfl⟩
  have SL : Hid (s < (V6.alloc (.cells #[.int .i64 (c.1 - 1), .int .i64 (c.1 + 1)] 3)).heap.size) := Lib.hid (by rw [World.size_alloc]; have := hs.out; omega)
  have NES : Hid (l0 ≠ s) := Lib.hid (by have h1 := OL.out; have h2 := hs.out; omega)
  rw [hs.out] at S1 ⊢
  generalize V6.alloc (.cells #[.int .i64 (c.1 - 1), .int .i64 (c.1 + 1)] 3) = V7 at *
  go_loopw [5, 36] (fun l v wr => ∃ (k : Nat) (oa : Option Addr) (oc : Nat), v = .int .i64 k ∧ l = .slice oa (nbK f c k).length oc ∧ k ≤ 2 ∧ Hid (wr.ownsRow w.heap.size 3 1 (.slice oa (nbK f c k).length oc) (nbK f c k).length ((nbK f c k).map intV)) ∧ Hid (Value.ownBlock (.slice oa (nbK f c k).length oc) ≠ some s ∧ s < wr.heap.size) ∧ Hid (Below w.heap.size w wr) ∧ Hid (wr.heap[p]? = some (.cells (f.cells a n) 28 (0, 0))) ∧ Hid (wr.heap[r]? = some (.cells (cellA c) 41 (0, 0))) ∧ Hid (RdI wr (some ⟨s, 0, none⟩) 2 2 [c.1 - 1, c.1 + 1]) ∧ Hid (LoopAt rec D .ready none wr)) (fun _ v _ => 2 - (intOf v).toNat)
  case atStart => exact ⟨0, some ⟨l0, 0, none⟩, 2, rfl, rfl, Nat.zero_le _, OW, Lib.hid ⟨fun e => NES.out (Option.some.inj e), SL.out⟩, BF, XF, XR, S1, L0⟩
  case round =>
    clear OW BF XF XR S1 L0
    obtain ⟨k, oa, oc, rfl, rfl, hk, OW, NO, BF, XF, XR, S1, L0⟩ := hrel
    by_cases hkn : k < 2
    · have t0 : decide ((k : Int) < 2) = true := by simp; omega
      have HX := Lib.hid (show [c.1 - 1, c.1 + 1][k]? = some (ringAt c k) by
        have : k = 0 ∨ k = 1 := by omega
        rcases this with e | e <;> subst e <;> rfl)
      obtain ⟨b0, off, e0, hx⟩ := S1.out.get HX.out
      cases e0
      rw [Nat.zero_add] at hx
      have se := SE.out
      have RA : Hid (-1 ≤ ringAt c k ∧ ringAt c k ≤ 30) := Lib.hid (by have := CI.out; have := IV.out; unfold ringAt; split <;> omega)
      obtain ⟨x, hxr⟩ : ∃ x, Hid (ringAt c k = x) := ⟨_, Lib.hid rfl⟩
      rw [hxr.out] at hx RA
      have c0 := qcell XF.out 0 (.int .i64 f.eye) rfl
      have c1 := qcell XF.out 1 (.int .i64 f.rings) rfl
      have c2 := qcell XF.out 2 (.int .i64 f.sectors) rfl
      have c3 := qcell XF.out 3 (.slice a f.kinds.length n) rfl
      have d0 := qcell XR.out 0 (.int .i64 c.1) rfl
      have d1 := qcell XR.out 1 (.int .i64 c.2) rfl
      go_wp2_with fail
      refine (within_any x 0 (f.rings - 1) wr).mono ?_
      rintro e V8 ⟨rfl, rfl⟩
      clear t0 hx se
      have hk2 := hkn
      cases hb : inB x 0 (f.rings - 1)
      · go_wp2_with (first
          | (refine wpList_load_row rfl 28 _ rfl p rfl 28 (f.cells a n) (0, 0) _ XF.out Tryz.underlying28 rfl (by exact (qJF f a n)) ?_)
          | (refine wpList_load_row rfl 41 _ rfl r rfl 41 (cellA c) (0, 0) _ XR.out Tryz.underlying41 rfl (by exact (qJC c)) ?_)
          | fail)
        go_roundw
        case rel =>
          have e : nbK f c (k + 1) = nbK f c k := by rw [nbK_succ, hxr.out, if_neg (by rw [hb]; decide), List.append_nil]
          refine ⟨k + 1, oa, oc, by simp, by rw [e], by omega, ?_, ?_, BF, XF, XR, S1, L0⟩
          · rw [e]; exact OW
          · rw [e]; exact NO
        case measure => simp [intOf]; omega
      · have HB := Lib.hid hb
        clear hb
        have NL := Lib.hid (nbK_len f c k)
        have K2 : Hid (k < 2) := Lib.hid hk2
        go_wp2_with (first
          | (refine wpList_load_row rfl 28 _ rfl p rfl 28 (f.cells a n) (0, 0) _ XF.out Tryz.underlying28 rfl (by exact (qJF f a n)) ?_)
          | (refine wpList_load_row rfl 41 _ rfl r rfl 41 (cellA c) (0, 0) _ XR.out Tryz.underlying41 rfl (by exact (qJC c)) ?_)
          | fail)
        refine (index_any f a n x c.2 V8 (by have := IV.out; omega) (by have := RA.out; omega)).mono ?_
        rintro e V9 ⟨rfl, b⟩
        replace L0 := Lib.hid (L0.out.below2 b)
        replace OW := Lib.hid (own_below OW.out b)
        replace S1 := Lib.hid (RdI.below S1.out b)
        replace NO := Lib.hid (And.intro NO.out.1 (Nat.lt_of_lt_of_le NO.out.2 b.size))
        clear c0 c1 c2 c3 d0 d1
        replace BF := Lib.hid (BF.out.trans (b.mono BF.out.size))
        replace XF := Lib.hid (qblk b XF.out)
        replace XR := Lib.hid (qblk b XR.out)
        clear b
        have c0 := qcell XF.out 0 (.int .i64 f.eye) rfl
        have c1 := qcell XF.out 1 (.int .i64 f.rings) rfl
        have c2 := qcell XF.out 2 (.int .i64 f.sectors) rfl
        have c3 := qcell XF.out 3 (.slice a f.kinds.length n) rfl
        have d0 := qcell XR.out 0 (.int .i64 c.1) rfl
        have d1 := qcell XR.out 1 (.int .i64 c.2) rfl
        go_wp2_with (first
          | (refine wpList_load_row rfl 28 _ rfl p rfl 28 (f.cells a n) (0, 0) _ XF.out Tryz.underlying28 rfl (by exact (qJF f a n)) ?_)
          | (refine wpList_load_row rfl 41 _ rfl r rfl 41 (cellA c) (0, 0) _ XR.out Tryz.underlying41 rfl (by exact (qJC c)) ?_)
          | (at_builtin; refine appr_ints _ rfl _ _ rfl rfl w.heap.size _ _ _ (nbK f c k) rfl (own_below OW.out (zB V9 _)) _ _ _ [indexF f x c.2] rfl (by decide) (lit_int V9 (indexF f x c.2)) (by have := NL.out; have := K2.out; omega) (Nat.le_trans BF.out.size (zB V9 _).size) ?_; intro oa2 oc2 V10 h1 h2 h3 h4; clear c0 c1 c2 c3 d0 d1; replace BF := Lib.hid (h3 _ (BF.out.trans ((zB V9 _).mono BF.out.size))); replace XF := Lib.hid (h2 _ _ (qblk (zB V9 _) XF.out) (by simp)); replace XR := Lib.hid (h2 _ _ (qblk (zB V9 _) XR.out) (by simp)); replace L0 := Lib.hid ((L0.out.below2 (zB V9 _)).kept2 h2); replace S1 := Lib.hid (h4.rd (RdI.below S1.out (zB V9 _)) (Ne.symm NO.out.1)); replace NO := Lib.hid (h4.no s NO.out.1 (Nat.lt_of_lt_of_le NO.out.2 (zB V9 _).size)); replace OW := Lib.hid h1; clear h1 h2 h3 h4; have c0 := qcell XF.out 0 (.int .i64 f.eye) rfl; have c1 := qcell XF.out 1 (.int .i64 f.rings) rfl; have c2 := qcell XF.out 2 (.int .i64 f.sectors) rfl; have c3 := qcell XF.out 3 (.slice a f.kinds.length n) rfl; have d0 := qcell XR.out 0 (.int .i64 c.1) rfl; have d1 := qcell XR.out 1 (.int .i64 c.2) rfl)
          | fail)
        go_roundw
        case rel =>
          have e : nbK f c (k + 1) = nbK f c k ++ [indexF f x c.2] := by rw [nbK_succ, hxr.out, if_pos HB.out]
          refine ⟨k + 1, oa2, oc2, by simp, by rw [e, List.length_append]; rfl, by have := K2.out; omega, ?_, ?_, BF, XF, XR, S1, L0⟩
          · rw [e, List.length_append]; exact OW
          · rw [e, List.length_append]; exact NO
        case measure => have := K2.out; simp [intOf]; omega
    · have t0 : decide ((k : Int) < 2) = false := by simp; omega
      have e : k = 2 := by omega
      subst e
      have EL : Hid (nbK f c 2 = neighL f i) := Lib.hid (by rw [← hc.out]; exact nbK_two f i)
      have NL := Lib.hid (nbK_len f c 2)
      rw [EL.out] at OW NL ⊢
      go_wp2_with fail
      refine (sortZ_any w.heap.size oa _ oc (neighL f i) wr OW.out (by have := NL.out; omega) (by have := NL.out; omega) BF.out.size).mono ?_
      rintro e V8 ⟨rfl, own, kept⟩
      replace OW := Lib.hid own
      replace BF := Lib.hid (kept.2 _ BF.out)
      replace L0 := Lib.hid (L0.out.kept2 kept.1)
      clear own kept t0 XF XR S1 NO
      go_wp2_with fail
      refine (compactZ_any w.heap.size oa _ oc _ V8 OW.out (by have := NL.out; omega) (by have := NL.out; omega) BF.out.size).mono ?_
      rintro e V9 ⟨rfl, own, kept⟩
      rw [sort_uniq] at own ⊢
      replace OW := Lib.hid own
      replace BF := Lib.hid (kept.2 _ BF.out)
      replace L0 := Lib.hid (L0.out.kept2 kept.1)
      clear own kept
      have EN : Hid (uniqS (neighL f i) = neighF f i) := Lib.hid rfl
      rw [EN.out] at OW ⊢
      have NN := Lib.hid (neigh_len HV.out i)
      obtain ⟨g, hg⟩ : ∃ g, oa = some ⟨g, 0, none⟩ := by
        rcases OW.out.2 with ⟨h1, h2⟩ | ⟨g', cap, cur, h1, _⟩
        · have := NN.out; omega
        · simp only [Value.slice.injEq] at h1; exact ⟨g', h1.1⟩
      subst hg
      have GE : Hid (w.heap.size ≤ g ∧ g < V9.heap.size) := Lib.hid (OW.out.lt g rfl)
      have C0 := Lib.hid (H0.out g V9 GE.out.1 GE.out.2 BF.out)
      have I0 : Hid (ItAt (neighF f i) g oc V9) := Lib.hid ⟨by
          obtain ⟨g', cap, cur, h1, _, h2, _⟩ := OW.out.2.resolve_left (fun h => by cases h.1)
          simp only [Value.slice.injEq, Option.some.injEq, Addr.mk.injEq] at h1
          obtain ⟨⟨rfl, _⟩, _⟩ := h1
          exact ⟨cur, h2⟩, RdA.of_own OW.out⟩
      clear OW
      obtain ⟨L, hL⟩ : ∃ L, Hid (neighF f i = L) := ⟨_, Lib.hid rfl⟩
      rw [hL.out] at I0 NN HYI ⊢
      go_wp2_with fail
      refine (wpIn_wide (n := m)).1 ?_
      gi_loopw [59] (fun v wr => ∃ k : Nat, v = .int .i64 k ∧ k ≤ L.length ∧ Hid (Con g (L.take k) wr) ∧ Hid (ItAt L g oc wr) ∧ Hid (LoopAt rec D .ready none wr)) (fun v _ => L.length - (intOf v).toNat)
      case atStart => exact ⟨0, rfl, Nat.zero_le _, C0, I0, L0⟩
      case round =>
        clear C0 I0 L0
        obtain ⟨k, rfl, hk, C0, I0, L0⟩ := hrel
        by_cases hkn : k < L.length
        · have t0 : decide ((k : Int) < (L.length : Int)) = true := by simp; omega
          obtain ⟨x, hx⟩ : ∃ x, L[k]? = some x := ⟨L[k], List.getElem?_eq_getElem hkn⟩
          obtain ⟨b0, off, e0, hc⟩ := I0.out.2.get hx
          cases e0
          rw [Nat.zero_add] at hc
          have hk64 : (k : Int) + 1 ≤ 9223372036854775807 := by have := NN.out; omega
          have ED := Lib.hid (show L = L.take k ++ x :: L.drop (k + 1) by
            have h1 := List.drop_eq_getElem_cons hkn
            rw [List.getElem?_eq_getElem hkn] at hx
            rw [Option.some.inj hx] at h1
            rw [← h1, List.take_append_drop])
          have ET := Lib.hid (show L.take (k + 1) = L.take k ++ [x] by rw [List.take_add_one, hx]; rfl)
          clear hx
          obtain ⟨fn, tmps, assign, body, hy, hRo⟩ := HYI.out g oc (L.take k) x (L.drop (k + 1)) wr ED.out C0.out I0.out L0.out
          gi_wp2
          refine ⟨fun h => by simp [Fence.wide] at h, ?_⟩
          refine hRo.mono ?_
          rintro e W6 ⟨rfl, hC, hI, hL6⟩
          rw [← ET.out] at hC
          replace C0 := Lib.hid hC
          replace I0 := Lib.hid hI
          replace L0 := Lib.hid hL6
          clear hRo hy hC hI hL6 hc t0
          gi_wp2
          go_roundw
          case rel => exact ⟨k + 1, by simp, by omega, C0, I0, L0⟩
          case measure => simp [intOf]; omega
        · have t0 : decide ((k : Int) < (L.length : Int)) = false := by simp; omega
          have e : k = L.length := by omega
          subst e
          rw [List.take_length] at C0
          gi_wp2
          go_end0
          exact ⟨⟨_, rfl⟩, ⟨g, by rw [hL.out]; exact C0.out⟩, L0.out⟩
end Go.Proofs.YtimmadkbkimonaaGreatDoor
namespace Go.Proofs.YtimmadkbkimonaaGreatDoor
set_option linter.unusedSimpArgs false
set_option linter.unusedVariables false
open Go.RowKit

theorem qwide_round (l : Nat) : Wide (Fence.wide.inRound l) := .inr ⟨l, rfl⟩
theorem qnot_lets {Q : Exit → Act → World → Prop} (h : ∀ a w, ¬ Q .outgrown a w) : ¬ LetsOut Q := fun ⟨a, w, hq⟩ => h a w hq
theorem bDin {F : Fence} (hF : Wide F) {n id : Nat} {P : Program} {ops : Array Oper} {a : Act} {w W : World} {Q : Exit → Act → World → Prop} (m : Nat) (S : World → Prop) (hQ : ¬ LetsOut (NoPanic Q)) (hnd : noDefer ops.toList = true) (hS : S W)
    (h : S W → AnyBut P .any ops (NoPanic Q) m S ops.size (Array.replicate ops.size false) a W) (hW : w.drew = W := by assumption) (hm : P.follows .mixedOrders = true := by kernel_rfl) : (Code.region id ops true).wpIn F n P Q a w := by
  subst hW
  exact wpIn_mono (wpIn_region_any hm (wpAnyIn_of_wpAny hF hQ hnd _ _ _ _ (AnyBut.any _ _ _ _ (h hS)))) NoPanic.imp
set_option maxHeartbeats 4000000 in
set_option maxRecDepth 100000 in
theorem neighbours_any (f : FaceV) (a : Option Addr) (n : Nat) (i : Int) (w : World) : Calls Tryz.prog 87 #[.agg (f.cells a n), .int .i64 i] w fun e w' => (∃ p q, e = .returned (.func (.func 129) #[] #[.pointer (some ⟨p, 0, none⟩), .pointer (some ⟨q, 0, none⟩)]) ∧ w'.heap[p]? = some (.cells (f.cells a n) 28 (0, 0)) ∧ w'.heap[q]? = some (.cells #[.int .i64 i] 3 (0, 0))) ∧ Below w.heap.size w w' := by
  have AL := Lib.hid (al2 w (.cells (f.cells a n) 28) (.cells #[.int .i64 i] 3))
  go_enter Tryz.func87, Tryz.ntmps87
  go_upto_region 1 with fail
  obtain ⟨p, hp⟩ : ∃ p, Hid (w.heap.size = p) := ⟨_, Lib.hid rfl⟩
  obtain ⟨q, hq⟩ : ∃ q, Hid (w.heap.size + 1 = q) := ⟨_, Lib.hid rfl⟩
  rw [hq.out] at AL ⊢
  rw [hp.out] at AL ⊢
  generalize ((w.alloc (.cells (f.cells a n) 28)).alloc (.cells #[.int .i64 i] 3)) = W0 at *
  have BF : Hid (Below w.heap.size w W0) := Lib.hid (by rw [hp.out]; exact AL.out.1)
  have XF : Hid (W0.heap[p]? = some (.cells (f.cells a n) 28 (0, 0))) := Lib.hid AL.out.2.1
  have XI : Hid (W0.heap[q]? = some (.cells #[.int .i64 i] 3 (0, 0))) := Lib.hid AL.out.2.2
  clear AL
  have c0 := qcell XF.out 0 (.int .i64 f.eye) rfl
  have c1 := qcell XF.out 1 (.int .i64 f.rings) rfl
  have c2 := qcell XF.out 2 (.int .i64 f.sectors) rfl
  have c3 := qcell XF.out 3 (.slice a f.kinds.length n) rfl
  have d0 := qcell XI.out 0 (.int .i64 i) rfl
  go_wp2_with (first
    | (refine wpList_load_row rfl 28 _ rfl p rfl 28 (f.cells a n) (0, 0) _ XF.out Tryz.underlying28 rfl (by exact (qJF f a n)) ?_)
    | fail)
  go_ret
  exact ⟨⟨p, q, rfl, XF.out, XI.out⟩, BF.out⟩
theorem run_app_cell (w : World) (base : Nat) (sa : Option Addr) (sn sc : Nat) (xs : List CellV) (hown : w.ownsRow base 41 2 (.slice sa sn sc) sn (cellsV xs)) (xa : Option Addr) (m xc : Nat) (ys : List CellV) (hrd : RdC w xa m xc ys)
    (hbytes : (sn + m) * 16 ≤ 140737488355328) (hbase : base ≤ w.heap.size) :
    ∃ a' c' w', (Builtin.append_ #[44, 44] 44 #[.slice sa sn sc, .slice xa m xc]).run Tryz.prog w = .ok (.slice a' (sn + m) c') w' ∧ w'.ownsRow base 41 2 (.slice a' (sn + m) c') (sn + m) (cellsV (xs ++ ys)) ∧
      (∀ (p : Nat) (ob : Obj), w.heap[p]? = some ob → (∀ cur, ob ≠ .cells cur 41 (0, 0)) → w'.heap[p]? = some ob) ∧ (∀ W, Below base W w → Below base W w') ∧ w.heap.size ≤ w'.heap.size := by
  obtain ⟨i, hi, hz0, hz1, hz2⟩ := info_parts qinfoC
  obtain ⟨a', c', w', h1, h2, h3⟩ := run_append_rd w base 44 44 41 i _ 2 16 Tryz.underlying44 hi hz0 hz1 hz2 rfl (by decide) sa sn sc _ hown xa m xc _ hrd (cellsV_one _) (by unfold maxLen; omega) hbytes hbase
  exact ⟨a', c', w', h1, by unfold cellsV at h2 ⊢; rw [List.flatMap_append]; exact h2, fun p o hp ho => qgrown h3 hp (qown_no hown hp ho), fun W hb => hb.grown h3 hbase (fun k e => (hown.lt k e).1), h3.size⟩
structure NbC (w : World) (p o : Nat) (f : FaceV) (a : Option Addr) (n : Nat) (ks : List Int) (W : World) : Prop where
  bel : Below w.heap.size w W
  pf : W.heap[p]? = some (.cells (f.cells a n) 28 (0, 0))
  blk : ∃ oa oc, W.heap[o]? = some (.cells #[.slice oa ks.length oc] 44 (0, 0)) ∧ W.ownsRow w.heap.size 41 2 (.slice oa ks.length oc) ks.length (cellsV (ks.map (cellF f)))
theorem NbC.below {w W W' : World} {p o : Nat} {f : FaceV} {a : Option Addr} {n : Nat} {ks : List Int} (h : NbC w p o f a n ks W) (hb : Below W.heap.size W W') : NbC w p o f a n ks W' := by
  obtain ⟨oa, oc, h1, h2⟩ := h.blk
  exact ⟨h.bel.trans (hb.mono h.bel.size), qblk hb h.pf, oa, oc, qblk hb h1, own_below h2 hb⟩
theorem NbC.put {w W : World} {p o r : Nat} {f : FaceV} {a : Option Addr} {n : Nat} {ks : List Int} {ob : Obj} (h : NbC w p o f a n ks W) (hl : ∃ l, W.heap[r]? = some (.loop l)) (hr : w.heap.size ≤ r) : NbC w p o f a n ks (W.putObj r ob) := by
  obtain ⟨l, hl⟩ := hl
  obtain ⟨oa, oc, h1, h2⟩ := h.blk
  have G := grownBy_putObj' W r ob
  have ne : ∀ {k : Nat} {A : Array Value} {t : TypeId} {fr : Nat × Nat}, W.heap[k]? = some (.cells A t fr) → some k ≠ some r := fun hk e => by rw [Option.some.inj e, hl] at hk; cases hk
  exact ⟨qstep h.bel G hr, qgrown G h.pf (ne h.pf), oa, oc, qgrown G h1 (ne h1), h2.kept G (.inr (qown_no h2 hl (by simp)).symm)⟩
set_option maxHeartbeats 4000000 in
set_option maxRecDepth 100000 in
theorem neighP_any (f : FaceV) (a : Option Addr) (n : Nat) (c : CellV) (w : World) (hr : RdI w a f.kinds.length n f.kinds) :
    Calls Tryz.prog 22 #[.agg (f.cells a n), .agg (cellA c)] w fun e w' => (∃ oa oc, e = .returned (.tuple #[.slice oa (neighP f c).1.length oc, .int .i64 (neighP f c).2]) ∧ w'.ownsRow w.heap.size 41 2 (.slice oa (neighP f c).1.length oc) (neighP f c).1.length (cellsV (neighP f c).1)) ∧ Below w.heap.size w w' := by
  have HR := Lib.hid (fun W (hb : Below w.heap.size w W) => hr.below hb)
  have AK := Lib.hid (fun W (hb : Below w.heap.size w W) => asked_any f a n c W (hr.below hb))
  clear hr
  have AL := Lib.hid (al2 w (.cells (f.cells a n) 28) (.cells (cellA c) 41))
  refine (callsIn_wide (n := 4)).1 ?_
  refine callsIn_of_wp_marks Tryz.func22 rfl trivial ?_
  simp only [Tryz.ntmps22, List.size_toArray, List.length_cons, List.length_nil, Nat.reduceAdd, Nat.reduceSub, Array.replicate_succ, Array.replicate_zero, List.push_toArray, List.append_toArray, List.nil_append, List.cons_append]
  refine wpIn_wide.2 ?_
  go_upto_region 1 with fail
  obtain ⟨p, hp⟩ : ∃ p, Hid (w.heap.size = p) := ⟨_, Lib.hid rfl⟩
  obtain ⟨q, hq⟩ : ∃ q, Hid (w.heap.size + 1 = q) := ⟨_, Lib.hid rfl⟩
  rw [hq.out] at AL ⊢
  rw [hp.out] at AL ⊢
  generalize ((w.alloc (.cells (f.cells a n) 28)).alloc (.cells (cellA c) 41)) = W0 at *
  have BF : Hid (Below w.heap.size w W0) := Lib.hid (by rw [hp.out]; exact AL.out.1)
  have XF : Hid (W0.heap[p]? = some (.cells (f.cells a n) 28 (0, 0))) := Lib.hid AL.out.2.1
  have XC : Hid (W0.heap[q]? = some (.cells (cellA c) 41 (0, 0))) := Lib.hid AL.out.2.2
  clear AL
  have c0 := qcell XF.out 0 (.int .i64 f.eye) rfl
  have c1 := qcell XF.out 1 (.int .i64 f.rings) rfl
  have c2 := qcell XF.out 2 (.int .i64 f.sectors) rfl
  have c3 := qcell XF.out 3 (.slice a f.kinds.length n) rfl
  have d0 := qcell XC.out 0 (.int .i64 c.1) rfl
  have d1 := qcell XC.out 1 (.int .i64 c.2) rfl
  go_wp2_with (first
    | (refine wpList_load_row rfl 28 _ rfl p rfl 28 (f.cells a n) (0, 0) _ XF.out Tryz.underlying28 rfl (by exact (qJF f a n)) ?_)
    | (refine wpList_load_row rfl 41 _ rfl q rfl 41 (cellA c) (0, 0) _ XC.out Tryz.underlying41 rfl (by exact (qJC c)) ?_)
    | fail)
  refine (AK.out W0 BF.out).mono ?_
  rintro e V1 ⟨rfl, b⟩
  clear c0 c1 c2 c3 d0 d1
  replace BF := Lib.hid (BF.out.trans (b.mono BF.out.size))
  replace XF := Lib.hid (qblk b XF.out)
  replace XC := Lib.hid (qblk b XC.out)
  clear b
  have c0 := qcell XF.out 0 (.int .i64 f.eye) rfl
  have c1 := qcell XF.out 1 (.int .i64 f.rings) rfl
  have c2 := qcell XF.out 2 (.int .i64 f.sectors) rfl
  have c3 := qcell XF.out 3 (.slice a f.kinds.length n) rfl
  have d0 := qcell XC.out 0 (.int .i64 c.1) rfl
  have d1 := qcell XC.out 1 (.int .i64 c.2) rfl
  cases hk : decide (askedF f c ≠ 0)
  · have HK : Hid (askedF f c = 0) := Lib.hid (by simpa using hk)
    have ZK := Lib.hid (asked_zero.1 HK.out)
    have IV := Lib.hid (FaceV.int ZK.out.1)
    have HC := Lib.hid (hasF_iff.1 ZK.out.2)
    have IL := Lib.hid (index_lt ZK.out.1 HC.out.1 c.2)
    have hk2 : (askedF f c != 0) = false := by simpa using hk
    clear hk
    rw [HK.out] at hk2 ⊢
    have B1 := Lib.hid BF.out
    have P1 := Lib.hid (qlt XF.out)
    go_upto_region 5 with (first
      | (refine wpList_load_row rfl 28 _ rfl p rfl 28 (f.cells a n) (0, 0) _ XF.out Tryz.underlying28 rfl (by exact (qJF f a n)) ?_)
      | (refine wpList_load_row rfl 41 _ rfl q rfl 41 (cellA c) (0, 0) _ XC.out Tryz.underlying41 rfl (by exact (qJC c)) ?_)
      | fail)
    clear c0 c1 c2 c3 d0 d1
    have AL := al1 V1 (.cells #[.slice none 0 0] 44)
    replace BF := Lib.hid (BF.out.trans (AL.1.mono BF.out.size))
    replace XF := Lib.hid (qblk AL.1 XF.out)
    replace XC := Lib.hid (qblk AL.1 XC.out)
    have XO := Lib.hid AL.2
    obtain ⟨o, ho⟩ : ∃ o, Hid (V1.heap.size = o) := ⟨_, Lib.hid rfl⟩
    have OG : Hid (w.heap.size ≤ o ∧ o ≠ p ∧ p = w.heap.size) := Lib.hid (by have h1 := ho.out; have h2 := B1.out.size; have h3 := P1.out; have h4 := hp.out; omega)
    rw [ho.out] at XO ⊢
    clear AL
    generalize V1.alloc (.cells #[.slice none 0 0] 44) = V2 at *
    have c0 := qcell XF.out 0 (.int .i64 f.eye) rfl
    have c1 := qcell XF.out 1 (.int .i64 f.rings) rfl
    have c2 := qcell XF.out 2 (.int .i64 f.sectors) rfl
    have c3 := qcell XF.out 3 (.slice a f.kinds.length n) rfl
    have d0 := qcell XC.out 0 (.int .i64 c.1) rfl
    have d1 := qcell XC.out 1 (.int .i64 c.2) rfl
    clear c0 c1 c2 c3 d0 d1
    have hd : Below V2.heap.size V2 V2.drew := (Below.refl _ _).drew
    replace BF := Lib.hid (BF.out.drew)
    replace XF := Lib.hid (qblk hd XF.out)
    replace XC := Lib.hid (qblk hd XC.out)
    replace XO := Lib.hid (qblk hd XO.out)
    refine zD (fun W => Below w.heap.size w W ∧ W.heap[p]? = some (.cells (f.cells a n) 28 (0, 0)) ∧ W.heap[q]? = some (.cells (cellA c) 41 (0, 0)) ∧ W.heap[o]? = some (.cells #[.slice none 0 0] 44 (0, 0))) ⟨BF.out, XF.out, XC.out, XO.out⟩ (fun hHeld => ?_)
    clear hd
    generalize V2.drew = V3 at *
    refine zT 0 rfl (.agg (f.cells a n)) (qyrow (by kernel_rfl) 28 _ rfl p rfl _ 28 (0, 0) _ (fun W hW => hW.2.1) Tryz.underlying28 rfl (by exact (qJF f a n))) ?_
    refine zT 1 rfl (.agg (f.cells a n)) (qyrow (by kernel_rfl) 28 _ rfl p rfl _ 28 (0, 0) _ (fun W hW => hW.2.1) Tryz.underlying28 rfl (by exact (qJF f a n))) ?_
    refine zW 2 rfl (.pointer (some ⟨q, 0, none⟩)) ?_
    refine zS 3 rfl (.int .i64 c.1) (fun W hW => by have c := qcell hW.2.2.1 0 (.int .i64 c.1) rfl; go_simp) ?_
    refine zW 4 rfl (.pointer (some ⟨q, 1, none⟩)) ?_
    refine zS 5 rfl (.int .i64 c.2) (fun W hW => by have c := qcell hW.2.2.1 1 (.int .i64 c.2) rfl; go_simp) ?_
    refine zR 6 rfl (fun K hK => ?_)
    go_simp
    refine (index_any f a n c.1 c.2 V3 (by have := IV.out; omega) (by have := IV.out; have := HC.out; omega)).mono ?_
    rintro e V4 ⟨rfl, b⟩
    replace BF := Lib.hid (BF.out.trans (b.mono BF.out.size))
    replace XF := Lib.hid (qblk b XF.out)
    replace XC := Lib.hid (qblk b XC.out)
    replace XO := Lib.hid (qblk b XO.out)
    clear b
    dsimp only
    refine zK hK ⟨BF.out, XF.out, XC.out, XO.out⟩ (fun hHeld => ?_)
    clear hK K
    refine zR 7 rfl (fun K hK => ?_)
    go_simp
    refine (neighbours_any f a n (indexF f c.1 c.2) V4).mono ?_
    rintro e V5 ⟨⟨pp, qq, rfl, hpp, hqq⟩, b⟩
    have XP := Lib.hid hpp
    have XQ := Lib.hid hqq
    clear hpp hqq
    replace BF := Lib.hid (BF.out.trans (b.mono BF.out.size))
    replace XF := Lib.hid (qblk b XF.out)
    replace XC := Lib.hid (qblk b XC.out)
    replace XO := Lib.hid (qblk b XO.out)
    clear b
    dsimp only
    refine zK hK ⟨BF.out, XF.out, XC.out, XO.out⟩ (fun hHeld => ?_)
    clear hK K
    refine zE ?_
    clear hHeld
    go_wp2_with fail
    refine (wpIn_wide (n := 4)).1 ?_
    have VGE : Hid (w.heap.size ≤ V5.heap.size) := Lib.hid BF.out.size
    have NN := Lib.hid (neigh_len ZK.out.1 (indexF f c.1 c.2))
    obtain ⟨L, hL⟩ : ∃ L, Hid (neighF f (indexF f c.1 c.2) = L) := ⟨_, Lib.hid rfl⟩
    have N0 : Hid (∀ W, Below V5.heap.size V5 W → NbC w p o f a n [] W) := Lib.hid (fun W hb => (show NbC w p o f a n [] V5 from ⟨BF.out, XF.out, none, 0, XO.out, World.ownsRow_nil _ _ _ _⟩).below hb)
    have IN : Hid (∀ x ∈ L, 0 ≤ x ∧ x ≤ 9223372036854775807) := Lib.hid (fun x hx => by
      rw [← hL.out] at hx
      have h1 := (neigh_in ZK.out.1 (x := indexF f c.1 c.2) ⟨IL.out.1, IL.out.2⟩ hx).1
      have h2 := FaceV.len_le ZK.out.1
      unfold InF at h1
      omega)
    refine wp_range_own2 (n := 3) (σ := Nat × Nat × List Int × Int) (w := V5) (gf := 129) (lb := #[.pointer (some ⟨pp, 0, none⟩), .pointer (some ⟨qq, 0, none⟩)]) rfl (enters_of Tryz.func129 (by kernel_rfl) rfl)
      (fun s => #[.int .i64 s.2.2.2]) (fun _ => rfl) (fun s W => NbC w p o f a n s.2.2.1 W ∧ ItAt L s.1 s.2.1 W ∧ ∃ rest, L = s.2.2.1 ++ s.2.2.2 :: rest) (fun s W => NbC w p o f a n (s.2.2.1 ++ [s.2.2.2]) W ∧ ItAt L s.1 s.2.1 W)
      (fun s a₁ W => a₁ = { tmps := #[.agg (f.cells a n), .agg (cellA c), .pointer (some ⟨p, 0, none⟩), .pointer (some ⟨q, 0, none⟩), .slice none 0 0, .int .i64 0, .int .i64 0, .pointer (some ⟨o, 0, none⟩), .int .i64 s.2.2.2, .agg (f.cells a n), .agg (cellA c), .int .i64 0, .int .i64 0, .bool false, undef, .agg (f.cells a n), .agg (f.cells a n), .pointer (some ⟨q, 0, none⟩), .int .i64 c.1, .pointer (some ⟨q, 1, none⟩), .int .i64 c.2, .int .i64 (indexF f c.1 c.2), .func (.func 129) #[] #[.pointer (some ⟨pp, 0, none⟩), .pointer (some ⟨qq, 0, none⟩)], .int .i64 s.2.2.2, undef, undef, undef, undef, undef, undef, undef], defers := [] } ∧ NbC w p o f a n s.2.2.1 W ∧ ItAt L s.1 s.2.1 W ∧ ∃ rest, L = s.2.2.1 ++ s.2.2.2 :: rest)
      (fun W => NbC w p o f a n L W) ?hA' ?hB ?hD ?assign ?body ?iter ?done
    case hA' =>
      rintro s a₁ W ob ⟨rfl, h1, h2, h3⟩ hl
      exact ⟨rfl, h1.put hl (by have := VGE.out; omega), h2.put hl, h3⟩
    case hB =>
      rintro s W ob ⟨h1, h2⟩ hl
      exact ⟨h1.put hl (by have := VGE.out; omega), h2.put hl⟩
    case hD =>
      intro W ob h1 hl
      exact h1.put hl (by have := VGE.out; omega)
    case assign =>
      rintro ⟨g, lc, ks, x⟩ W ⟨h1, h2, h3⟩
      have H1 := Lib.hid (And.intro h1 (And.intro h2 h3))
      clear h1 h2 h3
      dsimp only
      have hf : ∀ t : Array Value, (#[23].zip #[Value.int .i64 x]).foldl (fun t (p, v) => t.setIfInBounds p v) t = t.setIfInBounds 23 (.int .i64 x) := fun t => by simp
      rw [hf]
      simp only [List.setIfInBounds_toArray, List.set_cons_succ, List.set_cons_zero]
      clear hf
      refine wpIn_region_plain (qwide_round _) (qnot_lets (fun a w h => h)) ?hnd ?_
      case hnd => rfl
      go_wp2_with fail
      first | exact ⟨KeepsFrom.refl _ _, rfl, H1.out⟩ | exact ⟨KeepsFrom.refl _ _, H1.out⟩
    case body =>
      rintro ⟨g, lc, ks, x⟩ a₁ W ⟨rfl, h1, h2, h3⟩
      have H1 := Lib.hid (show NbC w p o f a n ks W from h1)
      have H2 := Lib.hid (show ItAt L g lc W from h2)
      obtain ⟨rest, h3⟩ := h3
      have h3 : L = ks ++ x :: rest := h3
      have HX := Lib.hid (IN.out x (by rw [h3]; exact List.mem_append_right _ (List.mem_cons_self ..)))
      have KL : Hid (ks.length < 4) := Lib.hid (by have := NN.out; rw [hL.out, h3, List.length_append, List.length_cons] at this; omega)
      clear h1 h2 h3
      dsimp only
      apply wpIn_block
      have hd : Below W.heap.size W W.drew := (Below.refl _ _).drew
      replace H1 := Lib.hid (H1.out.below hd)
      replace H2 := Lib.hid (H2.out.below hd)
      have KO := Lib.hid (show KeepsOthers W W.drew from ⟨hd.size, fun k ob hk _ => qblk hd hk⟩)
      clear hd
      obtain ⟨W1, hW1⟩ : ∃ W1, W.drew = W1 := ⟨_, rfl⟩
      rw [hW1] at H1 H2 KO
      obtain ⟨oa, oc, hb0, ho0⟩ := H1.out.blk
      have XO1 := Lib.hid hb0
      have OW1 := Lib.hid ho0
      have BF1 := Lib.hid H1.out.bel
      have XF1 := Lib.hid H1.out.pf
      clear hb0 ho0 H1
      refine bDin (qwide_round _) 6 (fun W => Below w.heap.size w W ∧ W.heap[p]? = some (.cells (f.cells a n) 28 (0, 0)) ∧ W.heap[o]? = some (.cells #[.slice oa ks.length oc] 44 (0, 0))) (qnot_lets (fun a w h => h)) rfl ⟨BF1.out, XF1.out, XO1.out⟩ (fun hHeld => ?_)
      clear hW1
      refine bS 0 rfl (.slice oa ks.length oc) (fun W hW => by have c := qcell hW.2.2 0 (.slice oa ks.length oc) rfl; go_simp) ?_
      refine bW 1 rfl (.agg (f.cells a n)) (hy := qyrow (by kernel_rfl) 28 _ rfl p rfl _ 28 (0, 0) _ (fun W hW => hW.2.1) Tryz.underlying28 rfl (by exact qJF f a n)) ?_
      refine bW 2 rfl (.int .i64 x) ?_
      refine bR 3 rfl (fun K hK => ?_)
      go_simp
      refine (cellOf_any f a n x W1 (by have := IV.out; omega) HX.out).mono ?_
      rintro e W2 ⟨rfl, b⟩
      replace KO := Lib.hid (KO.out.trans ⟨b.size, fun k ob hk _ => qblk b hk⟩)
      replace H2 := Lib.hid (H2.out.below b)
      replace OW1 := Lib.hid (own_below OW1.out b)
      replace BF1 := Lib.hid (BF1.out.trans (b.mono BF1.out.size))
      replace XF1 := Lib.hid (qblk b XF1.out)
      replace XO1 := Lib.hid (qblk b XO1.out)
      clear b
      dsimp only
      obtain ⟨d, hd⟩ : ∃ d, Hid (cellF f x = d) := ⟨_, Lib.hid rfl⟩
      have HD : Hid ((x / f.sectors, x % f.sectors) = d) := hd
      try rw [hd.out]
      refine bK hK ⟨BF1.out, XF1.out, XO1.out⟩ (fun hHeld => ?_)
      clear hK K
      refine bR 4 rfl (fun K hK => ?_)
      rw [if_pos (by kernel_rfl)]
      refine qbuild (w' := W2.alloc (.cells #[.int .i64 d.1, .int .i64 d.2] 41)) (.slice (some ⟨W2.heap.size, 0, none⟩) 1 1) (by kernel_rfl) ?_
      have L5 := Lib.hid (lit_cell W2 d)
      have b := zB W2 (.cells #[.int .i64 d.1, .int .i64 d.2] 41)
      replace KO := Lib.hid (KO.out.trans ⟨b.size, fun k ob hk _ => qblk b hk⟩)
      replace H2 := Lib.hid (H2.out.below b)
      replace OW1 := Lib.hid (own_below OW1.out b)
      replace BF1 := Lib.hid (BF1.out.trans (b.mono BF1.out.size))
      replace XF1 := Lib.hid (qblk b XF1.out)
      replace XO1 := Lib.hid (qblk b XO1.out)
      clear b
      obtain ⟨p5, hp5⟩ : ∃ z, Hid (W2.heap.size = z) := ⟨_, Lib.hid rfl⟩
      rw [hp5.out] at L5 ⊢
      generalize W2.alloc (.cells #[.int .i64 d.1, .int .i64 d.2] 41) = W3 at *
      refine bK hK ⟨BF1.out, XF1.out, XO1.out⟩ (fun hHeld => ?_)
      clear hK K
      refine bR 5 rfl (fun K hK => ?_)
      rw [if_pos (by kernel_rfl)]
      obtain ⟨a7, c7, W7, hrun, ho7, hk7, hb7, hs7⟩ := run_app_cell W3 w.heap.size oa _ oc _ OW1.out (some ⟨p5, 0, none⟩) 1 1 [d] L5.out (by have := KL.out; omega) BF1.out.size
      refine qappend _ _ _ rfl _ _ _ rfl rfl hrun ?_
      clear hrun
      have F7 := Lib.hid (show Below w.heap.size w W7 ∧ W7.heap[p]? = some (.cells (f.cells a n) 28 (0, 0)) ∧ W7.heap[o]? = some (.cells #[.slice oa ks.length oc] 44 (0, 0)) from ⟨hb7 _ BF1.out, hk7 _ _ XF1.out (by simp), hk7 _ _ XO1.out (by simp)⟩)
      replace KO := Lib.hid (KO.out.trans ⟨hs7, fun k ob hk hno => hk7 k ob hk (fun cur e => by rw [e] at hno; cases hno)⟩)
      replace H2 := Lib.hid (show ItAt L g lc W7 from by
        obtain ⟨⟨cur, hcur⟩, _⟩ := H2.out
        exact H2.out.kept (fun ob hob => hk7 g ob hob (fun cur2 e => by rw [hcur] at hob; rw [← Option.some.inj hob] at e; simp at e)))
      have O7 := Lib.hid ho7
      clear hk7 hb7 ho7 hs7 OW1 BF1 XF1 XO1 L5
      refine bK hK ⟨F7.out.1, F7.out.2.1, F7.out.2.2⟩ (fun hHeld => ?_)
      clear hK K
      refine bL rfl (fun K hK => ?_)
      have hce := qcell F7.out.2.2 0 (.slice oa ks.length oc) rfl
      have hfz := qfroz F7.out.2.2 0
      go_simp
      refine hK.out _ _ ?_
      clear hK K hce hfz hHeld
      refine bE ?_
      have HG := qput_grown W7 o 0 (.slice a7 (ks.length + 1) c7)
      refine ⟨KeepsOthers.from (KO.out.trans ⟨HG.size, fun k ob hk hno => qgrown HG hk (fun e => by rw [Option.some.inj e, F7.out.2.2] at hk; rw [← Option.some.inj hk] at hno; cases hno)⟩) _, ⟨qstep F7.out.1 HG OG.out.1, qgrown HG F7.out.2.1 (fun e => OG.out.2.1 (Option.some.inj e).symm), a7, c7, ?_, ?_⟩, ?_⟩
      · rw [qput_at F7.out.2.2 0 _, List.length_append]
        rfl
      · rw [List.length_append, List.map_append]
        show World.ownsRow _ _ _ _ _ _ (cellsV (ks.map (cellF f) ++ [cellF f x]))
        rw [hd.out]
        exact O7.out.kept HG (.inr (qown_no O7.out F7.out.2.2 (by simp)).symm)
      · obtain ⟨⟨cur, hcur⟩, _⟩ := H2.out
        exact H2.out.kept (fun ob hob => qgrown HG hob (fun e => by rw [Option.some.inj e, F7.out.2.2] at hcur; simp at hcur))
    case iter =>
      intro rec hlr hY
      have hbb := ((Below.refl V5.heap.size V5).alloc (Nat.le_refl _) (.deferred (some []))).alloc (by simp) (.loop (rec .ready none))
      have hsz : V5.heap.size ≤ ((V5.alloc (.deferred (some []))).alloc (.loop (rec .ready none))).heap.size := hbb.size
      have := nbIter 3 V5.heap.size pp qq f a n (indexF f c.1 c.2) _ (qblk hbb XP.out) (qblk hbb XQ.out) ZK.out.1 ⟨IL.out.1, IL.out.2⟩ (fun _ ks W => NbC w p o f a n ks W) (fun g W _ _ hb => N0.out W (hbb.trans (hb.mono hsz))) rec hlr (fun g lc ks x rest W e hc hi hl => by
        rw [hL.out] at e hi
        refine (hY (g, lc, ks, x) W ⟨hc, hi, rest, e⟩ hl).mono ?_
        rintro e2 W' ⟨rfl, ⟨h1, h2⟩, h3⟩
        exact ⟨rfl, h1, by rw [hL.out]; exact h2, h3⟩)
      refine this.mono ?_
      rintro e W' ⟨h1, ⟨g, h2⟩, h3⟩
      rw [hL.out] at h2
      exact ⟨h1, h2, h3⟩
    case done =>
      intro W hW hD0
      dsimp only
      obtain ⟨oa, oc, hblk, how⟩ := hW.blk
      have HD0 := Lib.hid hD0
      have HOW := Lib.hid how
      have HB := Lib.hid hW.bel
      have hcl := qcell hblk 0 (.slice oa L.length oc) rfl
      clear hD0 how hblk hW
      go_wp2_with fail
      have hbz : Below w.heap.size w (W.putObj V5.heap.size (.deferred none)) := qstep HB.out (grownBy_putObj' W _ _) VGE.out
      have hoz := ownsRow_putObj HOW.out (.deferred none) HD0.out rfl
      refine ⟨by simp, .inl ⟨_, _, rfl, run_takeDeferred HD0.out, ?_⟩⟩
      have e9 : neighP f c = (L.map (cellF f), 0) := by
        unfold neighP
        rw [if_pos HK.out, hL.out]
      refine ⟨.tuple #[.slice oa L.length oc, .int .i64 0], by kernel_rfl, ⟨oa, oc, ?_, ?_⟩, hbz⟩
      · rw [e9, List.length_map]
      · rw [e9, List.length_map]
        exact hoz
  · have HK : Hid (askedF f c ≠ 0) := Lib.hid (by simpa using hk)
    have hk2 : (askedF f c != 0) = true := by simpa using hk
    clear hk
    go_wp2_with (first
      | (refine wpList_load_row rfl 28 _ rfl p rfl 28 (f.cells a n) (0, 0) _ XF.out Tryz.underlying28 rfl (by exact (qJF f a n)) ?_)
      | (refine wpList_load_row rfl 41 _ rfl q rfl 41 (cellA c) (0, 0) _ XC.out Tryz.underlying41 rfl (by exact (qJC c)) ?_)
      | fail)
    refine ⟨.tuple #[.slice none 0 0, .int .i64 (askedF f c)], by kernel_rfl, ?_⟩
    unfold neighP
    rw [if_neg HK.out]
    exact ⟨⟨none, 0, rfl, World.ownsRow_nil _ _ _ _⟩, BF.out⟩
end Go.Proofs.YtimmadkbkimonaaGreatDoor
namespace Go.Proofs.YtimmadkbkimonaaGreatDoor
set_option linter.unusedSimpArgs false
set_option linter.unusedVariables false
open Go.RowKit

structure FlAt (w : World) (ds : List Deferred) (p m b y c6 c9 : Nat) (f : FaceV) (a : Option Addr) (n : Nat) (i many : Int) (nm : Nat) (o : OfM) (work : List Int) (wa : Option Addr) (wc : Nat) (W : World) : Prop where
  bel : Below w.heap.size w W
  hp : W.heap[p]? = some (.cells (f.cells a n) 28 (0, 0))
  hm : W.heap[m]? = some (.cells #[.map (some b)] 115 (0, 0))
  hy : W.heap[y]? = some (.cells #[.int .i64 many] 3 (0, 0))
  hi : W.heap[c6]? = some (.cells #[.int .i64 i] 3 (0, 0))
  hk : W.heap[c9]? = some (.cells #[.slice wa work.length wc] 26 (0, 0))
  own : W.ownsRow w.heap.size 3 1 (.slice wa work.length wc) work.length (work.map intV)
  mp : MapI W b nm o
  ny : Value.ownBlock (.slice wa work.length wc) ≠ some y
  ni : Value.ownBlock (.slice wa work.length wc) ≠ some c6
  marks : Marks w.heap.size ds W
  ge : w.heap.size ≤ b ∧ w.heap.size ≤ y ∧ w.heap.size ≤ c9
section
variable {w W W' : World} {ds : List Deferred} {p m b y c6 c9 : Nat} {f : FaceV} {a : Option Addr} {n : Nat} {i many : Int} {nm : Nat} {o : OfM} {work : List Int} {wa : Option Addr} {wc : Nat}
theorem FlAt.below (h : FlAt w ds p m b y c6 c9 f a n i many nm o work wa wc W) (hb : Below W.heap.size W W') : FlAt w ds p m b y c6 c9 f a n i many nm o work wa wc W' :=
  ⟨h.bel.trans (hb.mono h.bel.size), qblk hb h.hp, qblk hb h.hm, qblk hb h.hy, qblk hb h.hi, qblk hb h.hk, own_below h.own hb, h.mp.below hb, h.ny, h.ni, h.marks.below hb, h.ge⟩
theorem FlAt.other {r : Nat} {ob : Obj} (h : FlAt w ds p m b y c6 c9 f a n i many nm o work wa wc W) (hr : W.heap[r]? = some ob) (hno : ∀ A t fr, ob ≠ .cells A t fr) (hd : ob ≠ .deferred (some [])) (hg : W.grownBy W' (some r)) (hge : w.heap.size ≤ r) (hmp : MapI W' b nm o) : FlAt w ds p m b y c6 c9 f a n i many nm o work wa wc W' := by
  have ne : ∀ {k : Nat} {A : Array Value} {t : TypeId} {fr : Nat × Nat}, W.heap[k]? = some (.cells A t fr) → some k ≠ some r := fun hk e => by
    rw [Option.some.inj e, hr] at hk
    exact hno _ _ _ (Option.some.inj hk)
  exact ⟨qstep h.bel hg hge, qgrown hg h.hp (ne h.hp), qgrown hg h.hm (ne h.hm), qgrown hg h.hy (ne h.hy), qgrown hg h.hi (ne h.hi), qgrown hg h.hk (ne h.hk), h.own.kept hg (.inr (qown_no h.own hr (fun cur e => hno _ _ _ e)).symm), hmp, h.ny, h.ni,
    h.marks.step hg (fun k e h1 => by cases e; rw [hr] at h1; exact hd (Option.some.inj h1)), h.ge⟩
theorem FlAt.put {r : Nat} {ob : Obj} (h : FlAt w ds p m b y c6 c9 f a n i many nm o work wa wc W) (hl : ∃ l, W.heap[r]? = some (.loop l)) (hge : w.heap.size ≤ r) : FlAt w ds p m b y c6 c9 f a n i many nm o work wa wc (W.putObj r ob) := by
  obtain ⟨l, hl⟩ := hl
  refine h.other hl (by simp) (by simp) (grownBy_putObj' W r ob) hge (h.mp.step (grownBy_putObj' W r ob) (fun e => ?_))
  obtain ⟨es, ck, hb⟩ := h.mp.blk
  rw [e, hl] at hb
  cases hb
theorem FlAt.upd {k v : Int} {nm' : Nat} (h : FlAt w ds p m b y c6 c9 f a n i many nm o work wa wc W) (hg : W.grownBy W' (some b)) (hm : MapI W' b nm' (updM o k v)) : FlAt w ds p m b y c6 c9 f a n i many nm' (updM o k v) work wa wc W' := by
  obtain ⟨es, ck, hb⟩ := h.mp.blk
  have ne : ∀ {k : Nat} {A : Array Value} {t : TypeId} {fr : Nat × Nat}, W.heap[k]? = some (.cells A t fr) → some k ≠ some b := fun hk e => by
    rw [Option.some.inj e, hb] at hk
    cases hk
  exact ⟨qstep h.bel hg h.ge.1, qgrown hg h.hp (ne h.hp), qgrown hg h.hm (ne h.hm), qgrown hg h.hy (ne h.hy), qgrown hg h.hi (ne h.hi), qgrown hg h.hk (ne h.hk), h.own.kept hg (.inr (qown_no h.own hb (by simp)).symm), hm, h.ny, h.ni,
    h.marks.step hg (fun k e h1 => by cases e; rw [hb] at h1; cases h1), h.ge⟩
theorem FlAt.cell {work' : List Int} {wa' : Option Addr} {wc' : Nat} {V : World} (h : FlAt w ds p m b y c6 c9 f a n i many nm o work wa wc W) (hk : ∀ (p : Nat) (ob : Obj), W.heap[p]? = some ob → (∀ cur, ob ≠ .cells cur 3 (0, 0)) → V.heap[p]? = some ob) (hbel : Below w.heap.size w V)
    (hy : V.heap[y]? = some (.cells #[.int .i64 many] 3 (0, 0))) (hi : V.heap[c6]? = some (.cells #[.int .i64 i] 3 (0, 0))) (hown : V.ownsRow w.heap.size 3 1 (.slice wa' work'.length wc') work'.length (work'.map intV))
    (hny : Value.ownBlock (.slice wa' work'.length wc') ≠ some y) (hni : Value.ownBlock (.slice wa' work'.length wc') ≠ some c6) : FlAt w ds p m b y c6 c9 f a n i many nm o work' wa' wc' (V.setCell ⟨c9, 0, none⟩ (.slice wa' work'.length wc')) := by
  have hk9 := hk _ _ h.hk (by simp)
  have hg := qput_grown V c9 0 (.slice wa' work'.length wc')
  obtain ⟨es, ck, hb⟩ := h.mp.blk
  have hbV := hk _ _ hb (by simp)
  have mpV : MapI V b nm o := h.mp.of_block (by rw [hbV, hb])
  have ne : ∀ {k : Nat} {A : Array Value} {t : TypeId}, V.heap[k]? = some (.cells A t (0, 0)) → t ≠ 26 → some k ≠ some c9 := fun hq ht e => by
    rw [Option.some.inj e, hk9] at hq
    simp only [Option.some.injEq, Obj.cells.injEq] at hq
    exact ht hq.2.1.symm
  refine ⟨qstep hbel hg h.ge.2.2, qgrown hg (hk _ _ h.hp (by simp)) (ne (hk _ _ h.hp (by simp)) (by decide)), qgrown hg (hk _ _ h.hm (by simp)) (ne (hk _ _ h.hm (by simp)) (by decide)), qgrown hg hy (ne hy (by decide)), qgrown hg hi (ne hi (by decide)), ?_, ?_, ?_, hny, hni, ?_, h.ge⟩
  · rw [qput_at hk9 0 _]; rfl
  · exact hown.kept hg (.inr (qown_no hown hk9 (by simp)).symm)
  · exact mpV.step hg (fun e => by rw [e, hk9] at hbV; cases hbV)
  · exact (h.marks.kept fun r hr => hk r _ hr (by simp)).step hg (fun r e h1 => by cases e; rw [hk9] at h1; cases h1)
theorem own_shrink {ws : List Int} {x : Int} (h : W.ownsRow w.heap.size 3 1 (.slice wa (ws ++ [x]).length wc) (ws ++ [x]).length ((ws ++ [x]).map intV)) : W.ownsRow w.heap.size 3 1 (.slice wa ws.length wc) ws.length (ws.map intV) ∧ ∃ g, wa = some ⟨g, 0, none⟩ ∧ W.cell? ⟨g, ws.length, none⟩ = some (.int .i64 x) ∧ ws.length + 1 ≤ wc := by
  obtain ⟨h1, h2⟩ := h
  rcases h2 with ⟨_, h2⟩ | ⟨g, cap, cur, hv, hb, hg, hn, hc, hs, ht⟩
  · simp at h2
  · simp only [Value.slice.injEq] at hv
    obtain ⟨rfl, _, rfl⟩ := hv
    rw [List.length_append, List.length_singleton] at hn ht
    refine ⟨⟨by simp, .inr ⟨g, wc, cur, rfl, hb, hg, by omega, hc, hs, ?_⟩⟩, g, rfl, ?_, hn⟩
    · have e : cur.toList.take (ws.length * 1) = (cur.toList.take ((ws.length + 1) * 1)).take (ws.length * 1) := by rw [List.take_take]; congr 1; omega
      rw [e, ht, List.map_append]
      rw [Nat.mul_one, List.take_left' (by simp)]
    · refine qcell hg ws.length _ ?_
      have e : (cur.toList.take ((ws.length + 1) * 1))[ws.length]? = ((ws ++ [x]).map intV)[ws.length]? := by rw [ht]
      rw [List.getElem?_take, if_pos (by omega), List.getElem?_map] at e
      simp at e
      simpa [intV] using e
theorem FlAt.pop {ws : List Int} {x : Int} (h : FlAt w ds p m b y c6 c9 f a n i many nm o (ws ++ [x]) wa wc W) : FlAt w ds p m b y c6 c9 f a n i many nm o ws wa wc (W.setCell ⟨c9, 0, none⟩ (.slice wa ws.length wc)) := by
  have e : Value.ownBlock (.slice wa (ws ++ [x]).length wc) = Value.ownBlock (.slice wa ws.length wc) := by cases wa <;> rfl
  exact h.cell (fun _ _ hp _ => hp) h.bel h.hy h.hi (own_shrink h.own).1 (e ▸ h.ny) (e ▸ h.ni)
end
end Go.Proofs.YtimmadkbkimonaaGreatDoor
namespace Go.Proofs.YtimmadkbkimonaaGreatDoor
set_option linter.unusedSimpArgs false
set_option linter.unusedVariables false
open Go.RowKit

theorem zDin {F : Fence} (hF : Wide F) {n id : Nat} {P : Program} {ops : Array Oper} {a : Act} {w W : World} {Q : Exit → Act → World → Prop} (S : World → Prop) (hQ : ¬ LetsOut (NoPanic Q)) (hnd : noDefer ops.toList = true) (hS : S W)
    (h : S W → wpAnyH P .any ops (NoPanic Q) S ops.size (Array.replicate ops.size false) a W) (hW : w.drew = W := by assumption) (hm : P.follows .mixedOrders = true := by kernel_rfl) : (Code.region id ops true).wpIn F n P Q a w := by
  subst hW
  exact wpIn_mono (wpIn_region_any hm (wpAnyIn_of_wpAny hF hQ hnd _ _ _ _ (wpAny_of_held _ _ _ _ (h hS)))) NoPanic.imp
theorem wpList_qapp {P : Program} {ops : Array Oper} {rest : List Oper} {op : Oper} {a : Act} {w w' : World} {Q : Exit → Act → World → Prop} (hgd : op.guard = none) (s x : Operand) (t : TypeId) (ho : op.op = .call { callee := .builtin .append, args := #[s, x], argTypes := #[t, t] }) (v1 v2 v : Value)
    (hs : a.eval s = v1) (hx : a.eval x = v2) (hr : (Builtin.append_ #[t, t] op.type #[v1, v2]).run P w = .ok v w') (h : wpList P ops Q rest (a.put op.dst v) w') : wpList P ops Q (op :: rest) a w :=
  wpList_plain hgd fun _ hK => qappend s x t ho v1 v2 v hs hx hr (hK _ _ h)
structure OutAt (w : World) (ds : List Deferred) (p m b y : Nat) (f : FaceV) (a : Option Addr) (n i nm : Nat) (W : World) : Prop where
  bel : Below w.heap.size w W
  hp : W.heap[p]? = some (.cells (f.cells a n) 28 (0, 0))
  hm : W.heap[m]? = some (.cells #[.map (some b)] 115 (0, 0))
  hy : W.heap[y]? = some (.cells #[.int .i64 (regionsN f i).2] 3 (0, 0))
  mp : MapI W b nm (regionsN f i).1
  marks : Marks w.heap.size ds W
  num : nm + freeN f (regionsN f i).1 ≤ f.kinds.length
theorem OutAt.below {w W W' : World} {ds : List Deferred} {p m b y n i nm : Nat} {f : FaceV} {a : Option Addr} (h : OutAt w ds p m b y f a n i nm W) (hb : Below W.heap.size W W') : OutAt w ds p m b y f a n i nm W' :=
  ⟨h.bel.trans (hb.mono h.bel.size), qblk hb h.hp, qblk hb h.hm, qblk hb h.hy, h.mp.below hb, h.marks.below hb, h.num⟩
theorem regionsN_s (f : FaceV) (k : Nat) : regionsN f (k + 1) = regStepG (neighF f) f (regionsN f k) k := regionsN_succ _ _ _
theorem regionsN_le (f : FaceV) : ∀ k : Nat, 0 ≤ (regionsN f k).2 ∧ (regionsN f k).2 ≤ k
  | 0 => ⟨Int.le_refl _, Int.le_refl _⟩
  | k + 1 => by
    have := regionsN_le f k
    rw [regionsN_s]
    unfold regStepG
    split
    · omega
    · dsimp only; omega
def stF (f : FaceV) (i m : Int) (o : OfM) (ws ks : List Int) : OfM × List Int := ks.foldl (visitF f i m) (o, ws)
theorem stF_next (f : FaceV) (i m : Int) (o : OfM) (ws ks : List Int) (x : Int) : stF f i m o ws (ks ++ [x]) = visitF f i m (stF f i m o ws ks) x := by unfold stF; rw [List.foldl_append]; rfl
theorem flood_nil (nb : Int → List Int) (f : FaceV) (i m : Int) (o : OfM) : ∀ k, floodG nb f i m k (o, []) = o
  | 0 => rfl
  | k + 1 => rfl
theorem stF_len (f : FaceV) (i m : Int) : ∀ (ks : List Int) (o : OfM) (ws : List Int), (stF f i m o ws ks).2.length ≤ ws.length + ks.length
  | [], o, ws => Nat.le_refl _
  | x :: ks, o, ws => by
    have h1 : (visitF f i m (o, ws) x).2.length ≤ ws.length + 1 := by
      unfold visitF
      split
      · simp
      · exact Nat.le_succ _
    have h2 := stF_len f i m ks (visitF f i m (o, ws) x).1 (visitF f i m (o, ws) x).2
    have e : stF f i m o ws (x :: ks) = stF f i m (visitF f i m (o, ws) x).1 (visitF f i m (o, ws) x).2 ks := rfl
    rw [e, List.length_cons]
    omega
theorem flood_cons (nb : Int → List Int) (f : FaceV) (i m : Int) (o : OfM) (ws : List Int) (x : Int) (k : Nat) : floodG nb f i m (k + 1) (o, ws ++ [x]) = floodG nb f i m k ((nb x).foldl (visitF f i m) (o, ws)) := by
  have h1 : ((o, ws ++ [x]) : OfM × List Int).2.getLast? = some x := by simp
  have h2 : ((o, ws ++ [x]) : OfM × List Int).2.dropLast = ws := by simp
  conv => lhs; unfold floodG
  rw [h1, h2]
def FlCon (w : World) (ds : List Deferred) (p m b y c6 c9 : Nat) (f : FaceV) (a : Option Addr) (n : Nat) (i many : Int) (o : OfM) (ws : List Int) (g : Nat) (ks : List Int) (W : World) : Prop :=
  ∃ nm wa wc, FlAt w ds p m b y c6 c9 f a n i many nm (stF f i many o ws ks).1 (stF f i many o ws ks).2 wa wc W ∧ nm + freeN f (stF f i many o ws ks).1 ≤ f.kinds.length ∧ Value.ownBlock (.slice wa (stF f i many o ws ks).2.length wc) ≠ some g ∧ g < W.heap.size
theorem FlCon.put {w W : World} {ds : List Deferred} {p m b y c6 c9 n r : Nat} {f : FaceV} {a : Option Addr} {i many : Int} {o : OfM} {ws : List Int} {g : Nat} {ks : List Int} {ob : Obj} (h : FlCon w ds p m b y c6 c9 f a n i many o ws g ks W) (hl : ∃ l, W.heap[r]? = some (.loop l)) (hr : w.heap.size ≤ r) : FlCon w ds p m b y c6 c9 f a n i many o ws g ks (W.putObj r ob) := by
  obtain ⟨nm, wa, wc, h1, h2, h3, h4⟩ := h
  exact ⟨nm, wa, wc, h1.put hl hr, h2, h3, Nat.lt_of_lt_of_le h4 (grownBy_putObj' W r ob).size⟩
set_option maxHeartbeats 4000000 in
set_option maxRecDepth 100000 in
theorem regions_any (f : FaceV) (a : Option Addr) (n : Nat) (w : World) (hv : f.valid = true) (hr : RdI w a f.kinds.length n f.kinds) :
    Calls Tryz.prog 93 #[.agg (f.cells a n)] w fun e w' => (∃ b nm, e = .returned (.tuple #[.map (some b), .int .i64 (regionsF f).2]) ∧ MapI w' b nm (regionsF f).1) ∧ Below w.heap.size w w' := by
  have HR := Lib.hid (fun W (hb : Below w.heap.size w W) => hr.below hb)
  have HV := Lib.hid hv
  have IV := Lib.hid (FaceV.int hv)
  have LL := Lib.hid (FaceV.len_le hv)
  clear hr hv
  have AL := Lib.hid (al1 w (.cells (f.cells a n) 28))
  have hmm := @run_makeMap Tryz.prog
  refine (callsIn_wide (n := 4)).1 ?_
  refine callsIn_of_wp_marks Tryz.func93 rfl trivial ?_
  simp only [Tryz.ntmps93, List.size_toArray, List.length_cons, List.length_nil, Nat.reduceAdd, Nat.reduceSub, Array.replicate_succ, Array.replicate_zero, List.push_toArray, List.append_toArray, List.nil_append, List.cons_append]
  refine wpIn_wide.2 ?_
  go_upto_region 1 with fail
  obtain ⟨p, hp⟩ : ∃ p, Hid (w.heap.size = p) := ⟨_, Lib.hid rfl⟩
  rw [hp.out] at AL ⊢
  generalize (w.alloc (.cells (f.cells a n) 28)) = W0 at *
  have BF : Hid (Below w.heap.size w W0) := Lib.hid (by rw [hp.out]; exact AL.out.1)
  have XF : Hid (W0.heap[p]? = some (.cells (f.cells a n) 28 (0, 0))) := Lib.hid AL.out.2
  clear AL
  have c0 := qcell XF.out 0 (.int .i64 f.eye) rfl
  have c1 := qcell XF.out 1 (.int .i64 f.rings) rfl
  have c2 := qcell XF.out 2 (.int .i64 f.sectors) rfl
  have c3 := qcell XF.out 3 (.slice a f.kinds.length n) rfl
  go_step3
  go_upto_region 3 with fail
  clear c0 c1 c2 c3
  have AL := al3 W0 (.map #[] 0) (.cells #[.map (some W0.heap.size)] 115) (.cells #[.int .i64 0] 3)
  have MP := Lib.hid (((MapI.made W0).below (zB _ (.cells #[.map (some W0.heap.size)] 115))).below (zB _ (.cells #[.int .i64 0] 3)))
  have PB : Hid (p < W0.heap.size) := Lib.hid (qlt XF.out)
  have B0 := Lib.hid BF.out
  replace BF := Lib.hid (BF.out.trans (AL.1.mono BF.out.size))
  replace XF := Lib.hid (qblk AL.1 XF.out)
  have XM := Lib.hid AL.2.2.1
  have XY := Lib.hid AL.2.2.2
  clear AL
  obtain ⟨b, hb⟩ : ∃ b, Hid (W0.heap.size = b) := ⟨_, Lib.hid rfl⟩
  obtain ⟨m, hm⟩ : ∃ m, Hid (W0.heap.size + 1 = m) := ⟨_, Lib.hid rfl⟩
  obtain ⟨y, hy⟩ : ∃ y, Hid (W0.heap.size + 1 + 1 = y) := ⟨_, Lib.hid rfl⟩
  rw [show W0.heap.size + 2 = W0.heap.size + 1 + 1 from rfl] at XY
  rw [hy.out] at XY ⊢
  rw [hm.out] at XM ⊢
  rw [hb.out] at MP XM XF BF XY PB ⊢
  generalize ((W0.alloc (.map #[] 0)).alloc (.cells #[.map (some b)] 115)).alloc (.cells #[.int .i64 0] 3) = W1 at *
  have c3 := qcell XF.out 3 (.slice a f.kinds.length n) rfl
  go_step3
  go_wp2_with fail
  clear c3
  have GE : Hid (w.heap.size ≤ b ∧ w.heap.size ≤ y ∧ p < w.heap.size + 1 ∧ w.heap.size + 1 ≤ b ∧ b + 1 = m ∧ b + 2 = y) := Lib.hid (by have h1 := PB.out; have h2 := hb.out; have h3 := hm.out; have h4 := hy.out; have h5 := hp.out; omega)
  clear hmm
  have O0 : Hid (OutAt w [] p m b y f a n 0 0 W1) := Lib.hid ⟨BF.out, XF.out, XM.out, XY.out, MP.out, ⟨List.Pairwise.nil, fun d hd => by cases hd⟩, by rw [Nat.zero_add]; exact free_le _⟩
  clear BF XF XM XY MP B0
  refine wp_loop_ghost_k (fun k A W => ∃ (i nm : Nat), (k = f.kinds.length - i ∧ i ≤ f.kinds.length ∧ Hid (OutAt w A.defers p m b y f a n i nm W)) ∧ A.tmps = #[.agg (f.cells a n), .pointer (some ⟨p, 0, none⟩), .map none, .int .i64 0, .pointer (some ⟨m, 0, none⟩), .pointer (some ⟨y, 0, none⟩), A.tmps.getD 6 undef, A.tmps.getD 7 undef, A.tmps.getD 8 undef, A.tmps.getD 9 undef, A.tmps.getD 10 undef, A.tmps.getD 11 undef, A.tmps.getD 12 undef, A.tmps.getD 13 undef, .map (some b), .pointer (some ⟨p, 3, none⟩), .slice a f.kinds.length n, .int .i64 (f.kinds.length : Nat), .int .i64 (i : Nat), A.tmps.getD 19 undef, A.tmps.getD 20 undef, A.tmps.getD 21 undef, A.tmps.getD 22 undef, A.tmps.getD 23 undef, A.tmps.getD 24 undef, A.tmps.getD 25 undef, A.tmps.getD 26 undef, A.tmps.getD 27 undef, A.tmps.getD 28 undef, A.tmps.getD 29 undef, A.tmps.getD 30 undef, A.tmps.getD 31 undef, A.tmps.getD 32 undef, A.tmps.getD 33 undef, A.tmps.getD 34 undef, A.tmps.getD 35 undef, A.tmps.getD 36 undef, A.tmps.getD 37 undef, A.tmps.getD 38 undef, A.tmps.getD 39 undef, A.tmps.getD 40 undef, A.tmps.getD 41 undef, A.tmps.getD 42 undef, A.tmps.getD 43 undef, A.tmps.getD 44 undef, A.tmps.getD 45 undef, A.tmps.getD 46 undef, A.tmps.getD 47 undef, A.tmps.getD 48 undef, A.tmps.getD 49 undef, A.tmps.getD 50 undef, A.tmps.getD 51 undef, A.tmps.getD 52 undef, A.tmps.getD 53 undef, A.tmps.getD 54 undef, A.tmps.getD 55 undef, A.tmps.getD 56 undef, A.tmps.getD 57 undef, A.tmps.getD 58 undef, A.tmps.getD 59 undef, A.tmps.getD 60 undef, A.tmps.getD 61 undef, A.tmps.getD 62 undef, A.tmps.getD 63 undef, A.tmps.getD 64 undef, A.tmps.getD 65 undef, A.tmps.getD 66 undef, A.tmps.getD 67 undef, A.tmps.getD 68 undef, A.tmps.getD 69 undef, A.tmps.getD 70 undef, A.tmps.getD 71 undef, A.tmps.getD 72 undef, A.tmps.getD 73 undef, A.tmps.getD 74 undef, A.tmps.getD 75 undef, A.tmps.getD 76 undef, A.tmps.getD 77 undef, A.tmps.getD 78 undef, A.tmps.getD 79 undef, A.tmps.getD 80 undef, A.tmps.getD 81 undef, A.tmps.getD 82 undef, A.tmps.getD 83 undef, A.tmps.getD 84 undef, undef, undef]) f.kinds.length ?_ ?_
  · exact ⟨0, 0, ⟨rfl, Nat.zero_le _, O0⟩, rfl⟩
  intro gk A wr hinv
  obtain ⟨i, nm, ⟨rfl, hi, OA⟩, hA⟩ := hinv
  obtain ⟨T, ds⟩ := A
  dsimp only at hA OA
  obtain ⟨U, hU⟩ : ∃ U : Nat → Value, U = fun k => T.getD k undef := ⟨_, rfl⟩
  have hA2 : T = #[.agg (f.cells a n), .pointer (some ⟨p, 0, none⟩), .map none, .int .i64 0, .pointer (some ⟨m, 0, none⟩), .pointer (some ⟨y, 0, none⟩), U 6, U 7, U 8, U 9, U 10, U 11, U 12, U 13, .map (some b), .pointer (some ⟨p, 3, none⟩), .slice a f.kinds.length n, .int .i64 (f.kinds.length : Nat), .int .i64 (i : Nat), U 19, U 20, U 21, U 22, U 23, U 24, U 25, U 26, U 27, U 28, U 29, U 30, U 31, U 32, U 33, U 34, U 35, U 36, U 37, U 38, U 39, U 40, U 41, U 42, U 43, U 44, U 45, U 46, U 47, U 48, U 49, U 50, U 51, U 52, U 53, U 54, U 55, U 56, U 57, U 58, U 59, U 60, U 61, U 62, U 63, U 64, U 65, U 66, U 67, U 68, U 69, U 70, U 71, U 72, U 73, U 74, U 75, U 76, U 77, U 78, U 79, U 80, U 81, U 82, U 83, U 84, undef, undef] := by rw [hU]; exact hA
  clear hA hU
  subst hA2
  intro J K hJ hK
  clear O0
  dsimp only
  by_cases hil : i < f.kinds.length
  · have t0 : decide ((i : Int) < (f.kinds.length : Int)) = true := by simp; omega
    have I6 : Hid (I64q (i : Int)) := Lib.hid (by have := LL.out; unfold I64q; omega)
    have IL : Hid (i < f.kinds.length) := Lib.hid hil
    go_upto_region 6 with fail
    clear t0
    have AL := al1 wr (.cells #[.int .i64 (i : Int)] 3)
    have OB := Lib.hid (OA.out.below AL.1)
    have XI := Lib.hid AL.2
    obtain ⟨c6, h6⟩ : ∃ c6, Hid (wr.heap.size = c6) := ⟨_, Lib.hid rfl⟩
    have C6 : Hid (c6 ≠ y ∧ c6 ≠ b ∧ w.heap.size ≤ c6) := Lib.hid (by have h1 := qlt OA.out.hy; have h2 := OA.out.mp.lt; have h3 := h6.out; have h4 := OA.out.bel.size; omega)
    rw [h6.out] at XI ⊢
    clear AL OA
    generalize wr.alloc (.cells #[.int .i64 (i : Int)] 3) = V1 at *
    have hget := run_getok_q OB.out.mp Tryz.underlying115 I6.out
    have cm := qcell OB.out.hm 0 (.map (some b)) rfl
    have ci := qcell XI.out 0 (.int .i64 (i : Int)) rfl
    cases hs : (regionsN f i).1 (i : Int)
    case some r =>
      rw [hs] at hget
      dsimp only [Option.getD, Option.isSome] at hget
      have HS := Lib.hid hs
      clear hs
      have e1 : wrap64 ((i : Int) + 1) = (i : Int) + 1 := by have := LL.out; have := IL.out; unfold wrap64; omega
      go_wp2_with fail
      refine Handed.intro (f.kinds.length - (i + 1)) (by have := IL.out; omega) (hJ _ _ _ ?_)
      have ER : Hid (regionsN f (i + 1) = regionsN f i) := Lib.hid (by rw [regionsN_s]; unfold regStepG; rw [if_pos (by rw [HS.out]; rfl)])
      refine ⟨i + 1, nm, ⟨rfl, by have := IL.out; omega, ?_⟩, rfl⟩
      · have h := OB.out
        exact Lib.hid ⟨h.bel, h.hp, h.hm, by rw [ER.out]; exact h.hy, by rw [ER.out]; exact h.mp, h.marks, by rw [ER.out]; exact h.num⟩
    case none =>
      rw [hs] at hget
      dsimp only [Option.getD, Option.isSome] at hget
      have HS := Lib.hid hs
      clear hs
      obtain ⟨M, hM⟩ : ∃ M, Hid ((regionsN f i).2 = M) := ⟨_, Lib.hid rfl⟩
      obtain ⟨o0, ho0⟩ : ∃ o0, Hid ((regionsN f i).1 = o0) := ⟨_, Lib.hid rfl⟩
      have RK := Lib.hid (regionsN_spec HV.out i hi)
      have ML := Lib.hid (regionsN_le f i)
      rw [hM.out] at RK ML
      rw [ho0.out] at RK HS
      have MP0 := Lib.hid OB.out.mp
      have MY0 := Lib.hid OB.out.hy
      have NB0 := Lib.hid OB.out.num
      rw [ho0.out] at MP0 NB0
      rw [hM.out] at MY0
      have cy := qcell MY0.out 0 (.int .i64 M) rfl
      have HIN : Hid (InF f (i : Int)) := Lib.hid ⟨by omega, by have := IL.out; omega⟩
      go_upto_region 9 with (first
        | (refine wpList_put_q _ rfl _ _ _ 115 rfl Tryz.underlying115 b nm i M rfl MP0.out (by have h1 := NB0.out; have h2 := LL.out; unfold maxLen; omega) rfl I6.out rfl ?_; intro V2 hm2 hg2)
        | fail)
      clear hget cm ci cy
      obtain ⟨es, ck, hbb⟩ := MP0.out.blk
      have ne : ∀ {k : Nat} {A : Array Value} {t : TypeId} {fr : Nat × Nat}, V1.heap[k]? = some (.cells A t fr) → some k ≠ some b := fun hk e => by
        rw [Option.some.inj e, hbb] at hk
        cases hk
      have F2 := Lib.hid (show Below w.heap.size w V2 ∧ V2.heap[p]? = some (.cells (f.cells a n) 28 (0, 0)) ∧ V2.heap[m]? = some (.cells #[.map (some b)] 115 (0, 0)) ∧ V2.heap[y]? = some (.cells #[.int .i64 M] 3 (0, 0)) ∧ V2.heap[c6]? = some (.cells #[.int .i64 (i : Int)] 3 (0, 0)) ∧ Marks w.heap.size ds V2 ∧ MapI V2 b (nm + 1) (updM o0 i M) from
        ⟨qstep OB.out.bel hg2 GE.out.1, qgrown hg2 OB.out.hp (ne OB.out.hp), qgrown hg2 OB.out.hm (ne OB.out.hm), qgrown hg2 MY0.out (ne MY0.out), qgrown hg2 XI.out (ne XI.out), OB.out.marks.step hg2 (fun r e h1 => by cases e; rw [hbb] at h1; cases h1), hm2⟩)
      clear ne hbb hm2 hg2 MP0 MY0 XI OB
      have ci := qcell F2.out.2.2.2.2.1 0 (.int .i64 (i : Int)) rfl
      go_wp2_with fail
      clear ci
      have AL := al2 V2 (.cells #[.int .i64 (i : Int)] 3) (.cells #[.slice (some ⟨V2.heap.size, 0, none⟩) 1 1] 26)
      have OWL := World.ownsRow_lit (base := w.heap.size) (e := 3) (size := 1) V2 #[.int .i64 (i : Int)] 1 F2.out.1.size (by unfold maxLen; omega) rfl
      obtain ⟨c9, h9⟩ : ∃ c9, Hid (V2.heap.size + 1 = c9) := ⟨_, Lib.hid rfl⟩
      have XK := Lib.hid AL.2.2
      have FA := Lib.hid (show FlAt w ds p m b y c6 c9 f a n i M (nm + 1) (updM o0 i M) [(i : Int)] (some ⟨V2.heap.size, 0, none⟩) 1 ((V2.alloc (.cells #[.int .i64 (i : Int)] 3)).alloc (.cells #[.slice (some ⟨V2.heap.size, 0, none⟩) 1 1] 26)) from
        ⟨F2.out.1.trans (AL.1.mono F2.out.1.size), qblk AL.1 F2.out.2.1, qblk AL.1 F2.out.2.2.1, qblk AL.1 F2.out.2.2.2.1, qblk AL.1 F2.out.2.2.2.2.1, by rw [← h9.out]; exact XK.out, own_below OWL (zB _ _), F2.out.2.2.2.2.2.2.below AL.1,
         fun e => by have h1 := qlt F2.out.2.2.2.1; have := Option.some.inj e; simp only at this; omega, fun e => by have h1 := qlt F2.out.2.2.2.2.1; have := Option.some.inj e; simp only at this; omega, F2.out.2.2.2.2.2.1.below AL.1, ⟨GE.out.1, GE.out.2.1, by have h1 := F2.out.1.size; have h2 := h9.out; omega⟩⟩)
      rw [h9.out]
      clear AL OWL XK F2
      generalize (V2.alloc (.cells #[.int .i64 (i : Int)] 3)).alloc (.cells #[.slice (some ⟨V2.heap.size, 0, none⟩) 1 1] 26) = V3 at *
      generalize (some ⟨V2.heap.size, 0, none⟩ : Option Addr) = wa0 at *
      obtain ⟨T, hT⟩ : ∃ T, Hid (floodF f i M (f.kinds.length + 1) (updM o0 i M, [(i : Int)]) = T) := ⟨_, Lib.hid rfl⟩
      have HT := Lib.hid hT.out
      have FI := Lib.hid (FlI.start (f := f) RK.out.rg HIN.out HS.out (i := (i : Int)) (m := M))
      have FN := Lib.hid (free_upd (f := f) (m := M) HIN.out HS.out)
      refine wp_loop_ghost_k (fun k A W => ∃ (c9 nm : Nat) (o : OfM) (work : List Int) (wa : Option Addr) (wc : Nat), (Hid (FlAt w A.defers p m b y c6 c9 f a n i M nm o work wa wc W) ∧ Hid (FlI f o0 i M o work (fun _ => False)) ∧ Hid (floodF f i M k (o, work) = T) ∧ freeN f o + work.length ≤ k ∧ nm + freeN f o ≤ f.kinds.length ∧ k ≤ f.kinds.length + 1) ∧ A.tmps = #[.agg (f.cells a n), .pointer (some ⟨p, 0, none⟩), .map none, .int .i64 0, .pointer (some ⟨m, 0, none⟩), .pointer (some ⟨y, 0, none⟩), .pointer (some ⟨c6, 0, none⟩), A.tmps.getD 7 undef, A.tmps.getD 8 undef, .pointer (some ⟨c9, 0, none⟩), A.tmps.getD 10 undef, A.tmps.getD 11 undef, A.tmps.getD 12 undef, A.tmps.getD 13 undef, .map (some b), .pointer (some ⟨p, 3, none⟩), .slice a f.kinds.length n, .int .i64 (f.kinds.length : Nat), .int .i64 (i : Nat), A.tmps.getD 19 undef, A.tmps.getD 20 undef, A.tmps.getD 21 undef, A.tmps.getD 22 undef, A.tmps.getD 23 undef, A.tmps.getD 24 undef, A.tmps.getD 25 undef, A.tmps.getD 26 undef, A.tmps.getD 27 undef, A.tmps.getD 28 undef, A.tmps.getD 29 undef, A.tmps.getD 30 undef, A.tmps.getD 31 undef, A.tmps.getD 32 undef, A.tmps.getD 33 undef, A.tmps.getD 34 undef, A.tmps.getD 35 undef, A.tmps.getD 36 undef, A.tmps.getD 37 undef, A.tmps.getD 38 undef, A.tmps.getD 39 undef, A.tmps.getD 40 undef, A.tmps.getD 41 undef, A.tmps.getD 42 undef, A.tmps.getD 43 undef, A.tmps.getD 44 undef, A.tmps.getD 45 undef, A.tmps.getD 46 undef, A.tmps.getD 47 undef, A.tmps.getD 48 undef, A.tmps.getD 49 undef, A.tmps.getD 50 undef, A.tmps.getD 51 undef, A.tmps.getD 52 undef, A.tmps.getD 53 undef, A.tmps.getD 54 undef, A.tmps.getD 55 undef, A.tmps.getD 56 undef, A.tmps.getD 57 undef, A.tmps.getD 58 undef, A.tmps.getD 59 undef, A.tmps.getD 60 undef, A.tmps.getD 61 undef, A.tmps.getD 62 undef, A.tmps.getD 63 undef, A.tmps.getD 64 undef, A.tmps.getD 65 undef, A.tmps.getD 66 undef, A.tmps.getD 67 undef, A.tmps.getD 68 undef, A.tmps.getD 69 undef, A.tmps.getD 70 undef, A.tmps.getD 71 undef, A.tmps.getD 72 undef, A.tmps.getD 73 undef, A.tmps.getD 74 undef, A.tmps.getD 75 undef, A.tmps.getD 76 undef, A.tmps.getD 77 undef, A.tmps.getD 78 undef, A.tmps.getD 79 undef, A.tmps.getD 80 undef, A.tmps.getD 81 undef, A.tmps.getD 82 undef, A.tmps.getD 83 undef, A.tmps.getD 84 undef, undef, undef]) (f.kinds.length + 1) ?_ ?_
      · refine ⟨c9, nm + 1, updM o0 i M, [(i : Int)], wa0, 1, ⟨FA, FI, hT, ?_, ?_, Nat.le_refl _⟩, rfl⟩
        · have h1 := FN.out; have h2 := NB0.out; simp only [List.length_singleton]; omega
        · have h1 := FN.out; have h2 := NB0.out; omega
      intro gk2 A2 wr2 hinv2
      clear hT FA FI
      obtain ⟨c9, nm, o, work, wa, wc, ⟨FA, FI, FT, KM, NB, KB⟩, hA⟩ := hinv2
      obtain ⟨T2, ds⟩ := A2
      dsimp only at hA FA
      obtain ⟨U, hU⟩ : ∃ U : Nat → Value, U = fun k => T2.getD k undef := ⟨_, rfl⟩
      have hA2 : T2 = #[.agg (f.cells a n), .pointer (some ⟨p, 0, none⟩), .map none, .int .i64 0, .pointer (some ⟨m, 0, none⟩), .pointer (some ⟨y, 0, none⟩), .pointer (some ⟨c6, 0, none⟩), U 7, U 8, .pointer (some ⟨c9, 0, none⟩), U 10, U 11, U 12, U 13, .map (some b), .pointer (some ⟨p, 3, none⟩), .slice a f.kinds.length n, .int .i64 (f.kinds.length : Nat), .int .i64 (i : Nat), U 19, U 20, U 21, U 22, U 23, U 24, U 25, U 26, U 27, U 28, U 29, U 30, U 31, U 32, U 33, U 34, U 35, U 36, U 37, U 38, U 39, U 40, U 41, U 42, U 43, U 44, U 45, U 46, U 47, U 48, U 49, U 50, U 51, U 52, U 53, U 54, U 55, U 56, U 57, U 58, U 59, U 60, U 61, U 62, U 63, U 64, U 65, U 66, U 67, U 68, U 69, U 70, U 71, U 72, U 73, U 74, U 75, U 76, U 77, U 78, U 79, U 80, U 81, U 82, U 83, U 84, undef, undef] := by rw [hU]; exact hA
      clear hA hU
      subst hA2
      intro J2 K2 hJ2 hK2
      clear NB0 FN h9
      dsimp only
      rcases List.eq_nil_or_concat work with ew | ⟨ws, x, ew⟩
      · subst ew
        have ck := qcell FA.out.hk 0 (.slice wa 0 wc) rfl
        have cy := qcell FA.out.hy 0 (.int .i64 M) rfl
        have fz := qfroz FA.out.hy 0
        have e1 : wrap64 (M + 1) = M + 1 := by have h1 := ML.out; have := LL.out; have := IL.out; unfold wrap64; omega
        have e2 : wrap64 ((i : Int) + 1) = (i : Int) + 1 := by have := LL.out; have := IL.out; unfold wrap64; omega
        go_wp2_with fail
        have HG := qput_grown wr2 y 0 (.int .i64 (M + 1))
        have ER : Hid (regionsN f (i + 1) = (T, M + 1)) := Lib.hid (by
          rw [regionsN_s]
          unfold regStepG
          rw [if_neg (by rw [ho0.out, HS.out]; decide), ho0.out, hM.out]
          exact congrArg (fun x => (x, M + 1)) HT.out)
        have EO : Hid (o = T) := Lib.hid (by rw [← FT.out]; exact (flood_nil _ _ _ _ _ _).symm)
        refine Handed.intro (f.kinds.length - (i + 1)) (by have := IL.out; omega) (hJ _ _ _ ?_)
        refine ⟨i + 1, nm, ⟨rfl, by have := IL.out; omega, ?_⟩, rfl⟩
        · have h := FA.out
          have hyb : y ≠ b := by have := GE.out; omega
          refine Lib.hid ⟨qstep h.bel HG GE.out.2.1, qgrown HG h.hp (fun e => by have e3 := Option.some.inj e; have h1 := h.hp; rw [e3, h.hy] at h1; simp at h1), qgrown HG h.hm (fun e => by have e3 := Option.some.inj e; have := GE.out; omega), ?_, ?_, h.marks.step HG (fun r e h1 => by cases e; rw [h.hy] at h1; cases h1), ?_⟩
          · rw [qput_at h.hy 0 _, ER.out]; rfl
          · rw [ER.out, ← EO.out]
            exact h.mp.step HG (fun e => hyb e.symm)
          · rw [ER.out, ← EO.out]; exact NB
      · rw [List.concat_eq_append] at ew
        subst ew
        obtain ⟨-, g0, ewa, hcx, hwc⟩ := own_shrink FA.out.own
        subst ewa
        have el : (ws ++ [x]).length = ws.length + 1 := by simp
        have WB : Hid (ws.length + 1 ≤ 2305) := Lib.hid (by have := LL.out; omega)
        have HXI := Lib.hid (show InF f x ∧ Reach f i x by
          have hx := FI.out.wk x (List.mem_append_right _ (List.mem_singleton.2 rfl))
          rcases FI.out.new x M hx with h5 | h5
          · have := (RK.out.rg.inr x M h5).2.2; omega
          · exact h5.2.2)
        have ck := qcell FA.out.hk 0 (.slice (some ⟨g0, 0, none⟩) (ws ++ [x]).length wc) rfl
        rw [el] at ck
        have fz := qfroz FA.out.hk 0
        have KM2 := Lib.hid KM
        have NB2 := Lib.hid NB
        have KB2 := Lib.hid KB
        clear KM NB KB el
        have t1 : decide ((0 : Int) < (ws.length : Int) + 1) = true := decide_eq_true (by omega)
        have e5 : wrap64 (ws.length : Int) = ws.length := by have := WB.out; unfold wrap64; omega
        go_upto_region 13 with fail
        clear t1 e5 ck fz hcx
        have FP := Lib.hid FA.out.pop
        generalize wr2.setCell ⟨c9, 0, none⟩ (.slice (some ⟨g0, 0, none⟩) ws.length wc) = V4 at *
        go_wp2_with (first
          | (refine wpList_load_row rfl 28 _ rfl p rfl 28 (f.cells a n) (0, 0) _ FP.out.hp Tryz.underlying28 rfl (by exact qJF f a n) ?_)
          | fail)
        refine (neighbours_any f a n x V4).mono ?_
        rintro e V5 ⟨⟨pp, qq, rfl, hpp, hqq⟩, bb⟩
        have XP := Lib.hid hpp
        have XQ := Lib.hid hqq
        replace FP := Lib.hid (FP.out.below bb)
        clear hpp hqq bb FA
        go_wp2_with fail
        refine (wpIn_wide (n := 4)).1 ?_
        have VGE : Hid (w.heap.size ≤ V5.heap.size) := Lib.hid FP.out.bel.size
        have NN := Lib.hid (neigh_len HV.out x)
        obtain ⟨L, hL⟩ : ∃ L, Hid (neighF f x = L) := ⟨_, Lib.hid rfl⟩
        have LI : Hid (∀ z ∈ L, InF f z) := Lib.hid (fun z hz => by rw [← hL.out] at hz; exact (neigh_in HV.out HXI.out.1 hz).1)
        have N0 : Hid (∀ g W, V5.heap.size ≤ g → g < W.heap.size → Below V5.heap.size V5 W → FlCon w ds p m b y c6 c9 f a n i M o ws g [] W) := Lib.hid (fun g W h1 h2 hb => ⟨nm, some ⟨g0, 0, none⟩, wc, FP.out.below hb, NB2.out, fun e => by
          have h3 := (FP.out.own.lt _ rfl).2
          have := Option.some.inj e
          simp only at this h3
          omega, h2⟩)
        refine wp_range_own2 (n := 3) (σ := Nat × Nat × List Int × Int) (w := V5) (gf := 129) (lb := #[.pointer (some ⟨pp, 0, none⟩), .pointer (some ⟨qq, 0, none⟩)]) rfl (enters_of Tryz.func129 (by kernel_rfl) rfl)
          (fun s => #[.int .i64 s.2.2.2]) (fun _ => rfl) (fun s W => FlCon w ds p m b y c6 c9 f a n i M o ws s.1 s.2.2.1 W ∧ ItAt L s.1 s.2.1 W ∧ ∃ rest, L = s.2.2.1 ++ s.2.2.2 :: rest) (fun s W => FlCon w ds p m b y c6 c9 f a n i M o ws s.1 (s.2.2.1 ++ [s.2.2.2]) W ∧ ItAt L s.1 s.2.1 W)
          (fun s a₁ W => a₁ = { tmps := #[.agg (f.cells a n), .pointer (some ⟨p, 0, none⟩), .map none, .int .i64 0, .pointer (some ⟨m, 0, none⟩), .pointer (some ⟨y, 0, none⟩), .pointer (some ⟨c6, 0, none⟩), U 7, U 8, .pointer (some ⟨c9, 0, none⟩), .int .i64 x, .int .i64 s.2.2.2, U 12, U 13, .map (some b), .pointer (some ⟨p, 3, none⟩), .slice a f.kinds.length n, .int .i64 (f.kinds.length : Nat), .int .i64 (i : Nat), U 19, U 20, U 21, U 22, U 23, U 24, U 25, U 26, U 27, U 28, U 29, U 30, U 31, U 32, .slice (some ⟨g0, 0, none⟩) (ws.length + 1) wc, .int .i64 ((ws.length : Int) + 1), .bool true, .slice (some ⟨g0, 0, none⟩) (ws.length + 1) wc, .slice (some ⟨g0, 0, none⟩) (ws.length + 1) wc, .int .i64 ((ws.length : Int) + 1), .int .i64 (wrap64 (ws.length : Int)), .pointer (some ⟨g0, ws.length, none⟩), .int .i64 x, .slice (some ⟨g0, 0, none⟩) (ws.length + 1) wc, .slice (some ⟨g0, 0, none⟩) (ws.length + 1) wc, .int .i64 ((ws.length : Int) + 1), .int .i64 (wrap64 (ws.length : Int)), .slice (some ⟨g0, 0, none⟩) ws.length wc, .agg (f.cells a n), .int .i64 x, .func (.func 129) #[] #[.pointer (some ⟨pp, 0, none⟩), .pointer (some ⟨qq, 0, none⟩)], .int .i64 s.2.2.2, U 51, U 52, U 53, U 54, U 55, U 56, U 57, U 58, U 59, U 60, U 61, U 62, U 63, U 64, U 65, U 66, U 67, U 68, U 69, U 70, U 71, U 72, U 73, U 74, U 75, U 76, U 77, U 78, U 79, U 80, U 81, U 82, U 83, U 84, undef, undef], defers := [] } ∧ FlCon w ds p m b y c6 c9 f a n i M o ws s.1 s.2.2.1 W ∧ ItAt L s.1 s.2.1 W ∧ ∃ rest, L = s.2.2.1 ++ s.2.2.2 :: rest)
          (fun W => ∃ g, FlCon w ds p m b y c6 c9 f a n i M o ws g L W) ?hA' ?hB ?hD ?assign ?body ?iter ?done
        case hA' =>
          rintro s a₁ W ob ⟨rfl, h1, h2, h3⟩ hl
          exact ⟨rfl, h1.put hl (by have := VGE.out; omega), h2.put hl, h3⟩
        case hB =>
          rintro s W ob ⟨h1, h2⟩ hl
          exact ⟨h1.put hl (by have := VGE.out; omega), h2.put hl⟩
        case hD =>
          rintro W ob ⟨g, h1⟩ hl
          exact ⟨g, h1.put hl (by have := VGE.out; omega)⟩
        case assign =>
          rintro ⟨g, lc, ks, z⟩ W ⟨h1, h2, h3⟩
          have H1 := Lib.hid (And.intro h1 (And.intro h2 h3))
          clear h1 h2 h3
          dsimp only
          have hf : ∀ t : Array Value, (#[50].zip #[Value.int .i64 z]).foldl (fun t (p, v) => t.setIfInBounds p v) t = t.setIfInBounds 50 (.int .i64 z) := fun t => by simp
          rw [hf]
          simp only [List.setIfInBounds_toArray, List.set_cons_succ, List.set_cons_zero]
          clear hf
          refine wpIn_region_plain (qwide_round _) (qnot_lets (fun a w h => h)) ?hnd ?_
          case hnd => rfl
          go_wp2_with fail
          first | exact ⟨KeepsFrom.refl _ _, rfl, H1.out⟩ | exact ⟨KeepsFrom.refl _ _, H1.out⟩
        case body =>
          rintro ⟨g, lc, ks, z⟩ a₁ W ⟨rfl, h1, h2, rest, h3⟩
          have H2 := Lib.hid (show ItAt L g lc W from h2)
          replace h3 : L = ks ++ z :: rest := h3
          have HZ := Lib.hid (LI.out z (by rw [h3]; exact List.mem_append_right _ (List.mem_cons_self ..)))
          obtain ⟨zn, rfl⟩ : ∃ zn : Nat, z = zn := ⟨z.toNat, (Int.toNat_of_nonneg HZ.out.1).symm⟩
          have KL : Hid (ks.length < 4) := Lib.hid (by have := NN.out; rw [hL.out, h3, List.length_append, List.length_cons] at this; omega)
          obtain ⟨nm2, wa2, wc2, fa2, nb2, no2, gs2⟩ := h1
          have SL := Lib.hid (stF_len f i M ks o ws)
          have SN := Lib.hid (stF_next f i M o ws ks (zn : Int))
          obtain ⟨st, hst⟩ : ∃ st, Hid (stF f i M o ws ks = st) := ⟨_, Lib.hid rfl⟩
          dsimp only at fa2 nb2 no2 gs2
          rw [hst.out] at fa2 nb2 no2 SL SN
          obtain ⟨o2, wk⟩ := st
          dsimp only at fa2 nb2 no2 SL
          have FB := Lib.hid fa2
          have NB3 := Lib.hid nb2
          have NO2 := Lib.hid no2
          have GS2 := Lib.hid gs2
          clear h2 h3 fa2 nb2 no2 gs2
          have BT : Hid (stF f i M o ws (ks ++ [(zn : Int)]) = visitF f i M (o2, wk) zn) := SN
          dsimp only
          have ZB : Hid (I64q (zn : Int) ∧ zn < f.kinds.length) := Lib.hid (by have h1 := HZ.out; have h2 := LL.out; unfold InF at h1; unfold I64q; omega)
          apply wpIn_block
          refine wpIn_seq_k (fun K3 hK3 => ?_)
          refine wpIn_region_plain (qwide_round _) (qnot_lets (fun a w h => h)) ?hnd1 ?_
          case hnd1 => rfl
          have hget := run_getok_q FB.out.mp Tryz.underlying115 ZB.out.1
          have cm := qcell FB.out.hm 0 (.map (some b)) rfl
          obtain ⟨kb, hkb⟩ : ∃ kb, Hid ((o2 (zn : Int)).isSome = kb) := ⟨_, Lib.hid rfl⟩
          rw [hkb.out] at hget
          go_wp2_with fail
          clear hget cm
          refine wpIn_seq_k (fun K4 hK4 => ?_)
          have hd : Below W.heap.size W W.drew := (Below.refl _ _).drew
          replace FB := Lib.hid (FB.out.below hd)
          replace H2 := Lib.hid (H2.out.below hd)
          have KF := Lib.hid (show KeepsFrom V5.heap.size W W.drew from ⟨hd.size, fun k ob _ hk _ => qblk hd hk⟩)
          have GS3 : Hid (g < W.drew.heap.size) := Lib.hid (Nat.lt_of_lt_of_le GS2.out hd.size)
          clear hd GS2
          obtain ⟨W1, hW1⟩ : ∃ W1, W.drew = W1 := ⟨_, rfl⟩
          rw [hW1] at FB H2 KF GS3
          obtain ⟨b0, off, ha, _⟩ := (HR.out W1 FB.out.bel).get (FaceV.kat_at ZB.out.2)
          subst ha
          have RC : Hid (∀ j, j < f.kinds.length → ∀ W, Below w.heap.size w W → W.cell? ⟨b0, off + j, none⟩ = some (.int .i64 (f.kat j))) := Lib.hid (fun j hj W hb => by
            obtain ⟨b1, o1, e1, h1⟩ := (HR.out W hb).get (FaceV.kat_at hj)
            cases e1
            exact h1)
          refine zDin (qwide_round _) (fun W => Below w.heap.size w W ∧ W.heap[p]? = some (.cells (f.cells (some ⟨b0, off, none⟩) n) 28 (0, 0)) ∧ W.heap[c6]? = some (.cells #[.int .i64 (i : Int)] 3 (0, 0))) (qnot_lets (fun a w h => h)) rfl ⟨FB.out.bel, FB.out.hp, FB.out.hi⟩ (fun hHeld => ?_)
          clear hW1
          have FALSE : Hid (((o2 (zn : Int)).isNone && (landB f zn == landB f i)) = false → FlCon w ds p m b y c6 c9 f (some ⟨b0, off, none⟩) n i M o ws g (ks ++ [(zn : Int)]) W1) := Lib.hid (fun hv => by
            unfold FlCon
            rw [BT.out]
            unfold visitF
            rw [if_neg (by show ¬ ((o2 (zn : Int)).isNone && (landB f (zn : Int) == landB f (i : Int))) = true; rw [hv]; decide)]
            exact ⟨nm2, wa2, wc2, FB.out, NB3.out, NO2.out, GS3.out⟩)
          cases kb
          · obtain ⟨bx, hbx⟩ : ∃ bx, Hid ((f.kat zn == 0) = bx) := ⟨_, Lib.hid rfl⟩
            obtain ⟨by2, hby⟩ : ∃ bx, Hid ((f.kat i == 0) = bx) := ⟨_, Lib.hid rfl⟩
            have LZ : Hid (landB f (zn : Int) = bx ∧ landB f (i : Int) = by2) := Lib.hid (by
              unfold landB
              rw [Int.toNat_natCast, Int.toNat_natCast, ← hbx.out, ← hby.out]
              constructor
              · rw [Bool.eq_iff_iff]; simp
              · rw [Bool.eq_iff_iff]; simp)
            have ON : Hid (o2 (zn : Int) = none) := Lib.hid (by
              have h1 := hkb.out
              cases ho : o2 (zn : Int) with
              | none => rfl
              | some r => rw [ho] at h1; cases h1)
            have hzl : zn < f.kinds.length := ZB.out.2
            have hil2 : i < f.kinds.length := IL.out
            refine zW 0 rfl (.bool false) ?_
            refine zW 1 rfl (.bool true) ?_
            refine zW 2 rfl (.bool true) ?_
            refine zW 3 rfl (.pointer (some ⟨p, 3, none⟩)) ?_
            refine zS 4 rfl (.slice (some ⟨b0, off, none⟩) f.kinds.length n) (fun W hW => by have c := qcell hW.2.1 3 (.slice (some ⟨b0, off, none⟩) f.kinds.length n) rfl; go_simp) ?_
            refine zW 5 rfl (.int .i64 (zn : Int)) ?_
            refine zW 6 rfl (.pointer (some ⟨b0, off + zn, none⟩)) ?_
            refine zS 7 rfl (.int .i64 (f.kat zn)) (fun W hW => by have c := RC.out zn hzl W hW.1; go_simp) ?_
            refine zW 8 rfl (.bool bx) (hy := .inl ⟨by kernel_rfl, by intro W _; go_simp; exact hbx.out⟩) ?_
            refine zW 9 rfl (.pointer (some ⟨p, 3, none⟩)) ?_
            refine zS 10 rfl (.slice (some ⟨b0, off, none⟩) f.kinds.length n) (fun W hW => by have c := qcell hW.2.1 3 (.slice (some ⟨b0, off, none⟩) f.kinds.length n) rfl; go_simp) ?_
            refine zS 11 rfl (.int .i64 (i : Int)) (fun W hW => by have c := qcell hW.2.2 0 (.int .i64 (i : Int)) rfl; go_simp) ?_
            refine zW 12 rfl (.pointer (some ⟨b0, off + i, none⟩)) ?_
            refine zS 13 rfl (.int .i64 (f.kat i)) (fun W hW => by have c := RC.out i hil2 W hW.1; go_simp) ?_
            refine zW 14 rfl (.bool by2) (hy := .inl ⟨by kernel_rfl, by intro W _; go_simp; exact hby.out⟩) ?_
            refine zW 15 rfl (.bool (bx == by2)) ?_
            refine zW 16 rfl (.bool (bx == by2)) ?_
            refine zE ?_
            clear hHeld hzl hil2
            refine hK4 _ _ ?_
            cases hv : (bx == by2)
            · have DONE := Lib.hid (FALSE.out (by rw [LZ.out.1, LZ.out.2, hv]; simp))
              clear FALSE
              refine wpIn_cond_false rfl ?_
              refine wpIn_skip ?_
              exact ⟨KF.out, DONE.out, H2.out⟩
            · have EV : Hid (stF f i M o ws (ks ++ [(zn : Int)]) = (updM o2 zn M, wk ++ [(zn : Int)])) := Lib.hid (by
                rw [BT.out]
                unfold visitF
                rw [if_pos (by show ((o2 (zn : Int)).isNone && (landB f (zn : Int) == landB f (i : Int))) = true; rw [ON.out, LZ.out.1, LZ.out.2, hv]; rfl)])
              have FU := Lib.hid (free_upd (f := f) (m := M) HZ.out ON.out)
              have WK : Hid (wk.length ≤ 2310) := Lib.hid (by have h1 := SL.out; have h2 := WB.out; have h3 := KL.out; omega)
              clear FALSE hv
              refine wpIn_cond_true rfl ?_
              refine wpIn_seq_k (fun K5 hK5 => ?_)
              refine wpIn_region_plain (qwide_round _) (qnot_lets (fun a w h => h)) ?hnd2 ?_
              case hnd2 => rfl
              have cm := qcell FB.out.hm 0 (.map (some b)) rfl
              have cy := qcell FB.out.hy 0 (.int .i64 M) rfl
              go_wp2_with (first
                | (refine wpList_put_q _ rfl _ _ _ 115 rfl Tryz.underlying115 b nm2 zn M rfl FB.out.mp (by have h1 := NB3.out; have h2 := LL.out; unfold maxLen; omega) rfl ZB.out.1 rfl ?_; intro W5 hm5 hg5)
                | fail)
              clear cm cy
              obtain ⟨es, ckk, hbb⟩ := FB.out.mp.blk
              have BL : b < V5.heap.size := FP.out.mp.lt
              have FB5 := Lib.hid (FB.out.upd hg5 hm5)
              replace H2 := Lib.hid (show ItAt L g lc W5 from by
                obtain ⟨⟨cur, hcur⟩, _⟩ := H2.out
                exact H2.out.kept (fun ob hob => qgrown hg5 hob (fun e => by rw [Option.some.inj e, hbb] at hcur; cases hcur)))
              replace KF := Lib.hid (KF.out.trans (KeepsFrom.of_grownBy hg5 (fun j e => by cases e; exact BL)))
              replace GS3 := Lib.hid (Nat.lt_of_lt_of_le GS3.out hg5.size)
              clear FB hbb BL hm5 hg5
              first | refine hK5 _ _ ?_ | skip
              refine wpIn_region_plain (qwide_round _) (qnot_lets (fun a w h => h)) ?hnd3 ?_
              case hnd3 => rfl
              have bn := zB W5 (.cells #[.int .i64 (zn : Int)] 3)
              obtain ⟨a7, c7, V7, hrun, ho7, hk7, hb7, hap7, hg7⟩ := run_app_at (W5.alloc (.cells #[.int .i64 (zn : Int)] 3)) w.heap.size wa2 _ wc2 wk (own_below FB5.out.own bn) (some ⟨W5.heap.size, 0, none⟩) 1 1 [(zn : Int)] (by decide) (lit_int W5 zn) (by have := WK.out; omega) (Nat.le_trans FB5.out.bel.size bn.size)
              have FB6 := Lib.hid (FB5.out.below bn)
              have hcl := qcell FB5.out.hk 0 (.slice wa2 wk.length wc2) rfl
              have hk9 := hk7 _ _ FB6.out.hk (by simp)
              have hcl3 := qcell hk9 0 (.slice wa2 wk.length wc2) rfl
              have hfz := qfroz hk9 0
              have EL : Hid ((wk ++ [(zn : Int)]).length = wk.length + 1) := Lib.hid (by simp)
              have FC7 : Hid (FlAt w ds p m b y c6 c9 f (some ⟨b0, off, none⟩) n i M (nm2 + 1) (updM o2 zn M) (wk ++ [(zn : Int)]) a7 c7 (V7.setCell ⟨c9, 0, none⟩ (.slice a7 (wk.length + 1) c7))) := Lib.hid (by
                have := FB6.out.cell (work' := wk ++ [(zn : Int)]) (wa' := a7) (wc' := c7) hk7 (hb7 _ FB6.out.bel) (qgrown hg7 FB6.out.hy (fun e => FB6.out.ny e.symm)) (qgrown hg7 FB6.out.hi (fun e => FB6.out.ni e.symm)) (by rw [EL.out]; exact ho7) (by rw [EL.out]; exact (hap7.no y FB6.out.ny (qlt FB6.out.hy)).1) (by rw [EL.out]; exact (hap7.no c6 FB6.out.ni (qlt FB6.out.hi)).1)
                rw [EL.out] at this
                exact this)
              have HG := qput_grown V7 c9 0 (.slice a7 (wk.length + 1) c7)
              have GS6 : g < (W5.alloc (.cells #[.int .i64 (zn : Int)] 3)).heap.size := Nat.lt_of_lt_of_le GS3.out bn.size
              have NG7 := Lib.hid (hap7.no g NO2.out GS6)
              have H7 : Hid (ItAt L g lc (V7.setCell ⟨c9, 0, none⟩ (.slice a7 (wk.length + 1) c7))) := Lib.hid (by
                have h6 := H2.out.below bn
                have h7 : ItAt L g lc V7 := h6.kept (fun ob hob => qgrown hg7 hob (fun e => NO2.out e.symm))
                obtain ⟨cur, hcur⟩ := h7.1
                exact h7.kept (fun ob hob => qgrown HG hob (fun e => by rw [Option.some.inj e, hk9] at hcur; simp at hcur)))
              have KF7 : Hid (KeepsFrom V5.heap.size W (V7.setCell ⟨c9, 0, none⟩ (.slice a7 (wk.length + 1) c7))) := Lib.hid (KF.out.trans ⟨Nat.le_trans bn.size (Nat.le_trans hg7.size HG.size), fun k ob _ hk hno => by
                have h1 := qblk bn hk
                have h2 := hk7 k ob h1 (fun cur e => by rw [e] at hno; cases hno)
                exact qgrown HG h2 (fun e => by rw [Option.some.inj e, hk9] at h2; rw [← Option.some.inj h2] at hno; cases hno)⟩)
              have GS7 : Hid (g < (V7.setCell ⟨c9, 0, none⟩ (.slice a7 (wk.length + 1) c7)).heap.size) := Lib.hid (Nat.lt_of_lt_of_le NG7.out.2 HG.size)
              clear bn ho7 hk7 hb7 hap7 hg7 FB5 FB6 hk9 HG GS6 H2 KF GS3
              go_wp2_with (first
                | (refine wpList_qapp rfl _ _ _ rfl _ _ _ rfl rfl hrun ?_)
                | fail)
              refine ⟨KF7.out, ?_, H7.out⟩
              show FlCon w ds p m b y c6 c9 f (some ⟨b0, off, none⟩) n i M o ws g (ks ++ [(zn : Int)]) _
              unfold FlCon
              rw [EV.out]
              refine ⟨nm2 + 1, a7, c7, FC7.out, ?_, ?_, GS7.out⟩
              · show nm2 + 1 + freeN f (updM o2 (zn : Int) M) ≤ f.kinds.length
                have h1 := FU.out
                have h2 := NB3.out
                omega
              · rw [EL.out]; exact NG7.out.1
          · have DONE := Lib.hid (FALSE.out (by
              have h1 := hkb.out
              cases ho : o2 (zn : Int) with
              | none => rw [ho] at h1; cases h1
              | some r => rfl))
            clear FALSE
            refine zW 0 rfl (.bool true) ?_
            refine zW 1 rfl (.bool false) ?_
            refine zW 2 rfl (.bool false) ?_
            refine zW 3 rfl undef (hy := .inr ⟨by kernel_rfl, rfl⟩) ?_
            refine zW 4 rfl undef (hy := .inr ⟨by kernel_rfl, rfl⟩) ?_
            refine zW 5 rfl undef (hy := .inr ⟨by kernel_rfl, rfl⟩) ?_
            refine zW 6 rfl undef (hy := .inr ⟨by kernel_rfl, rfl⟩) ?_
            refine zW 7 rfl undef (hy := .inr ⟨by kernel_rfl, rfl⟩) ?_
            refine zW 8 rfl undef (hy := .inr ⟨by kernel_rfl, rfl⟩) ?_
            refine zW 9 rfl undef (hy := .inr ⟨by kernel_rfl, rfl⟩) ?_
            refine zW 10 rfl undef (hy := .inr ⟨by kernel_rfl, rfl⟩) ?_
            refine zW 11 rfl undef (hy := .inr ⟨by kernel_rfl, rfl⟩) ?_
            refine zW 12 rfl undef (hy := .inr ⟨by kernel_rfl, rfl⟩) ?_
            refine zW 13 rfl undef (hy := .inr ⟨by kernel_rfl, rfl⟩) ?_
            refine zW 14 rfl undef (hy := .inr ⟨by kernel_rfl, rfl⟩) ?_
            refine zW 15 rfl undef (hy := .inr ⟨by kernel_rfl, rfl⟩) ?_
            refine zW 16 rfl (.bool false) ?_
            refine zE ?_
            clear hHeld
            refine hK4 _ _ ?_
            refine wpIn_cond_false rfl ?_
            refine wpIn_skip ?_
            exact ⟨KF.out, DONE.out, H2.out⟩
        case iter =>
          intro rec hlr hY
          have hbb := ((Below.refl V5.heap.size V5).alloc (Nat.le_refl _) (.deferred (some []))).alloc (by simp) (.loop (rec .ready none))
          have hsz : V5.heap.size ≤ ((V5.alloc (.deferred (some []))).alloc (.loop (rec .ready none))).heap.size := hbb.size
          have := nbIter 3 V5.heap.size pp qq f a n x _ (qblk hbb XP.out) (qblk hbb XQ.out) HV.out HXI.out.1 (fun g ks W => FlCon w ds p m b y c6 c9 f a n i M o ws g ks W) (fun g W hg1 hg2 hb => N0.out g W (Nat.le_trans hsz hg1) hg2 (hbb.trans (hb.mono hsz))) rec hlr (fun g lc ks z rest W e hc hi hl => by
            rw [hL.out] at e hi
            refine (hY (g, lc, ks, z) W ⟨hc, hi, rest, e⟩ hl).mono ?_
            rintro e2 W' ⟨rfl, ⟨h1, h2⟩, h3⟩
            exact ⟨rfl, h1, by rw [hL.out]; exact h2, h3⟩)
          refine this.mono ?_
          rintro e W' ⟨h1, ⟨g, h2⟩, h3⟩
          rw [hL.out] at h2
          exact ⟨h1, ⟨g, h2⟩, h3⟩
        case done =>
          rintro W ⟨g, nm3, wa3, wc3, fa3, nb3, no3, gs3⟩ hD0
          obtain ⟨st, hst⟩ : ∃ st, Hid (stF f i M o ws L = st) := ⟨_, Lib.hid rfl⟩
          have POP := FlI.pop (nb := neighF f) (fun _ _ _ => Iff.rfl) RK.out.rg HV.out FI.out
          rw [hL.out] at POP
          have POP2 : FlI f o0 i M (stF f i M o ws L).1 (stF f i M o ws L).2 (fun _ => False) ∧ freeN f (stF f i M o ws L).1 + (stF f i M o ws L).2.length + 1 ≤ freeN f o + (ws ++ [x]).length := POP
          have FLE : Hid (∀ k, floodF f i M (k + 1) (o, ws ++ [x]) = floodF f i M k (stF f i M o ws L)) := Lib.hid (fun k => by
            have := flood_cons (neighF f) f i M o ws x k
            rw [hL.out] at this
            exact this)
          rw [hst.out] at fa3 nb3 POP2 FLE
          obtain ⟨o3, wk3⟩ := st
          dsimp only at fa3 nb3 POP2
          have FC := Lib.hid fa3
          have NB4 := Lib.hid nb3
          have PP := Lib.hid POP2
          have HD0 := Lib.hid hD0
          clear fa3 nb3 no3 gs3 hD0 POP POP2
          have ck := qcell FC.out.hk 0 (.slice wa3 wk3.length wc3) rfl
          go_wp2_with fail
          clear ck
          have AL := al1 W (.cells #[.slice wa3 wk3.length wc3] 26)
          refine Handed.intro (gk2 - 1) (by have := KM2.out; rw [List.length_append, List.length_singleton] at this; omega) (hJ2 _ _ _ ?_)
          refine ⟨W.heap.size, nm3, o3, wk3, wa3, wc3, ⟨?_, Lib.hid PP.out.1, ?_, ?_, NB4.out, by have := KB2.out; omega⟩, rfl⟩
          · have h := FC.out.below AL.1
            exact Lib.hid ⟨h.bel, h.hp, h.hm, h.hy, h.hi, AL.2, h.own, h.mp, h.ny, h.ni, Marks.add FP.out.marks (Nat.le_refl _) VGE.out h.marks (qblk AL.1 HD0.out), ⟨h.ge.1, h.ge.2.1, FC.out.bel.size⟩⟩
          · have h1 := FT.out
            have h2 := KM2.out
            rw [List.length_append, List.length_singleton] at h2
            obtain ⟨k, rfl⟩ : ∃ k, gk2 = k + 1 := ⟨gk2 - 1, by omega⟩
            rw [FLE.out k] at h1
            exact Lib.hid h1
          · have h1 := PP.out.2
            have h2 := KM2.out
            omega
  · have t0 : decide ((i : Int) < (f.kinds.length : Int)) = false := by simp; omega
    have e9 : i = f.kinds.length := by omega
    subst e9
    go_upto_region 23 with fail
    clear t0
    have hd : Below wr.heap.size wr wr.drew := (Below.refl _ _).drew
    have OB := Lib.hid (OA.out.below hd)
    clear hd OA
    refine zD (fun W => W.heap[m]? = some (.cells #[.map (some b)] 115 (0, 0)) ∧ W.heap[y]? = some (.cells #[.int .i64 (regionsN f f.kinds.length).2] 3 (0, 0))) ⟨OB.out.hm, OB.out.hy⟩ (fun hHeld => ?_)
    generalize wr.drew = V0 at *
    refine zS 0 rfl (.map (some b)) (fun W hW => by have c := qcell hW.1 0 (.map (some b)) rfl; go_simp) ?_
    refine zS 1 rfl (.int .i64 (regionsN f f.kinds.length).2) (fun W hW => by have c := qcell hW.2 0 (.int .i64 (regionsN f f.kinds.length).2) rfl; go_simp) ?_
    refine zW 2 rfl (.map (some b)) ?_
    refine zW 3 rfl (.int .i64 (regionsN f f.kinds.length).2) ?_
    refine zE ?_
    clear hHeld
    go_wp2_with fail
    try rw [Exit.noGoto_ret]
    refine leaves_marks w.heap.size (fun W => Below w.heap.size w W ∧ MapI W b nm (regionsF f).1) (fun W r hbr h hr => ⟨?_, ?_⟩) (fun W h => ⟨.tuple #[.map (some b), .int .i64 (regionsN f f.kinds.length).2], by kernel_rfl, ⟨b, nm, rfl, h.2⟩, h.1⟩) ds _ OB.out.marks ⟨OB.out.bel, OB.out.mp⟩
    · exact qstep h.1 (grownBy_putObj' W r _) hbr
    · refine h.2.step (grownBy_putObj' W r _) (fun e => ?_)
      obtain ⟨es, ck, hbb⟩ := h.2.blk
      rw [e, hr] at hbb
      cases hbb
end Go.Proofs.YtimmadkbkimonaaGreatDoor
namespace Go.Proofs.YtimmadkbkimonaaGreatDoor
set_option linter.unusedSimpArgs false
set_option linter.unusedVariables false
open Go.RowKit

def mkL (N : Nat) (o : OfM) : List Int := (List.range N).map fun (j : Nat) => (o (j : Int)).getD (-1)
theorem mkL_len (N : Nat) (o : OfM) : (mkL N o).length = N := by unfold mkL; simp
theorem mkL_at {N j : Nat} (h : j < N) (o : OfM) : (mkL N o)[j]? = some ((o (j : Int)).getD (-1)) := by
  unfold mkL
  rw [List.getElem?_map, List.getElem?_range h]
  rfl
theorem mkL_set {N j : Nat} (h : j < N) (o : OfM) (v : Int) : (mkL N o).set j v = mkL N (updM o j v) := by
  refine List.ext_getElem? fun i => ?_
  rw [List.getElem?_set, mkL_len]
  by_cases hi : i < N
  · rw [mkL_at hi, mkL_at hi]
    unfold updM
    by_cases e : j = i
    · subst e
      rw [if_pos rfl, if_pos h, if_pos rfl]
      rfl
    · rw [if_neg e, if_neg (by omega)]
  · rw [if_neg (by omega), List.getElem?_eq_none (by rw [mkL_len]; omega), List.getElem?_eq_none (by rw [mkL_len]; omega)]
theorem mkL_none (N : Nat) : partK (List.replicate N 0) (fun _ => -1) N = mkL N (fun _ => none) := by
  have h := partK_all (List.replicate N 0) (fun _ => -1)
  rw [List.length_replicate] at h
  rw [h]
  rfl
theorem RdI_grown {W W' : World} {s k n c g : Nat} {l : List Int} (h : RdI W (some ⟨s, k, none⟩) n c l) (hg : W.grownBy W' (some g)) (hne : s ≠ g) : RdI W' (some ⟨s, k, none⟩) n c l := by
  refine RdA.of_cells h fun b' hb hlt => ?_
  obtain ⟨o', e⟩ := hb
  cases e
  exact hg.block _ hlt (fun e => hne (Option.some.inj e))
structure FlR (w X : World) (p g : Nat) (f : FaceV) (a : Option Addr) (n N : Nat) (o : OfM) (ws : List Int) (wa : Option Addr) (wc : Nat) (W : World) : Prop where
  bel : Below w.heap.size w W
  pf : W.heap[p]? = some (.cells (f.cells a n) 28 (0, 0))
  out : OwnI w W (some ⟨g, 0, none⟩) N N (mkL N o)
  work : OwnI X W wa ws.length wc ws
  sz : X.heap.size ≤ W.heap.size
section
variable {w X W W' : World} {p g n N : Nat} {f : FaceV} {a : Option Addr} {o : OfM} {ws : List Int} {wa : Option Addr} {wc : Nat}
theorem FlR.below (h : FlR w X p g f a n N o ws wa wc W) (hb : Below W.heap.size W W') : FlR w X p g f a n N o ws wa wc W' :=
  ⟨h.bel.trans (hb.mono h.bel.size), qblk hb h.pf, h.out.below hb, h.work.below hb, Nat.le_trans h.sz hb.size⟩
theorem FlR.get (h : FlR w X p g f a n N o ws wa wc W) {j : Nat} (hj : j < N) : W.cell? ⟨g, j, none⟩ = some (.int .i64 ((o (j : Int)).getD (-1))) := by
  have h1 := (h.out.put hj 0 h.bel.size).2.1
  rw [mkL_at hj] at h1
  exact h1
theorem FlR.put (h : FlR w X p g f a n N o ws wa wc W) (hg : g < X.heap.size) {i : Nat} (hi : i < N) (v : Int) :
    FlR w X p g f a n N (updM o i v) ws wa wc (W.setCell ⟨g, i, none⟩ (.int .i64 v)) ∧ W.cell? ⟨g, i, none⟩ = some (.int .i64 ((o (i : Int)).getD (-1))) ∧ W.frozen? ⟨g, i, none⟩ = false ∧ W.grownBy (W.setCell ⟨g, i, none⟩ (.int .i64 v)) (some g) := by
  obtain ⟨o1, o2, o3, o4⟩ := h.out.put hi v h.bel.size
  have HG := qput_grown W g i (.int .i64 v)
  rw [mkL_set hi] at o1
  rw [mkL_at hi] at o2
  refine ⟨⟨o4.2 w h.bel, o4.1 _ _ h.pf (by simp), o1, World.ownsRow.kept h.work HG (.inr (fun e => ?_)), Nat.le_trans h.sz HG.size⟩, o2, o3, HG⟩
  have := (h.work.lt g e).1
  omega
theorem FlR.pop {x : Int} (h : FlR w X p g f a n N o (ws ++ [x]) wa wc W) : FlR w X p g f a n N o ws wa wc W ∧ ∃ g0, wa = some ⟨g0, 0, none⟩ ∧ W.cell? ⟨g0, ws.length, none⟩ = some (.int .i64 x) ∧ ws.length + 1 ≤ wc := by
  obtain ⟨h1, h2⟩ := own_shrink (w := X) h.work
  exact ⟨⟨h.bel, h.pf, h.out, h1, h.sz⟩, h2⟩
end
end Go.Proofs.YtimmadkbkimonaaGreatDoor
namespace Go.Proofs.YtimmadkbkimonaaGreatDoor
set_option linter.unusedSimpArgs false
set_option linter.unusedVariables false
open Go.RowKit

structure RdLL (W : World) (a : Option Addr) (n c : Nat) (ls : List (List Int)) : Prop where
  len : ls.length = n
  le : n ≤ c
  max : c ≤ maxLen
  at_ : ∀ j l, ls[j]? = some l → ∃ R off aj cj, a = some ⟨R, off, none⟩ ∧ W.cell? ⟨R, off + j, none⟩ = some (.slice aj l.length cj) ∧ RdI W aj l.length cj l
theorem RdLL.below {W W' : World} {a : Option Addr} {n c : Nat} {ls : List (List Int)} (h : RdLL W a n c ls) (hb : Below W.heap.size W W') : RdLL W' a n c ls :=
  ⟨h.len, h.le, h.max, fun j l hj => by
    obtain ⟨R, off, aj, cj, e, h1, h2⟩ := h.at_ j l hj
    exact ⟨R, off, aj, cj, e, (hb.cell (p := ⟨R, off + j, none⟩) (World.block_lt_of_cell? W _ h1)).trans h1, h2.below hb⟩⟩
theorem RdLL.nil (W : World) : RdLL W none 0 0 [] := ⟨rfl, Nat.le_refl _, Nat.zero_le _, fun j l h => by simp at h⟩
theorem qob (a : Option Addr) (n c : Nat) : Value.ownBlock (.slice a n c) = Value.ownBlock (.slice a 0 0) := by cases a <;> rfl
def lsCells (q : Nat) (ls : Nat → List Int) (wa : Nat → Option Addr) (wc : Nat → Nat) : Array Value := ((List.range q).map fun j => Value.slice (wa j) (ls j).length (wc j)).toArray
theorem lsCells_at {q : Nat} {ls : Nat → List Int} {wa : Nat → Option Addr} {wc : Nat → Nat} {j : Nat} (h : j < q) : (lsCells q ls wa wc)[j]? = some (.slice (wa j) (ls j).length (wc j)) := by
  unfold lsCells
  rw [List.getElem?_toArray, List.getElem?_map, List.getElem?_range h]
  rfl
structure LsAt (w : World) (p R b : Nat) (f : FaceV) (a : Option Addr) (n nm : Nat) (o : OfM) (q : Nat) (ls : Nat → List Int) (wa : Nat → Option Addr) (wc : Nat → Nat) (W : World) : Prop where
  bel : Below w.heap.size w W
  hp : W.heap[p]? = some (.cells (f.cells a n) 28 (0, 0))
  mp : MapI W b nm o
  blk : W.heap[R]? = some (.cells (lsCells q ls wa wc) 26 (0, 0))
  own : ∀ j, j < q → W.ownsRow w.heap.size 3 1 (.slice (wa j) (ls j).length (wc j)) (ls j).length ((ls j).map intV)
  dis : ∀ j k, j < q → k < q → j ≠ k → ∀ g, Value.ownBlock (.slice (wa j) 0 0) = some g → Value.ownBlock (.slice (wa k) 0 0) ≠ some g
  ge : w.heap.size ≤ R
theorem LsAt.below {w W W' : World} {p R b n nm q : Nat} {f : FaceV} {a : Option Addr} {o : OfM} {ls : Nat → List Int} {wa : Nat → Option Addr} {wc : Nat → Nat} (h : LsAt w p R b f a n nm o q ls wa wc W) (hb : Below W.heap.size W W') : LsAt w p R b f a n nm o q ls wa wc W' :=
  ⟨h.bel.trans (hb.mono h.bel.size), qblk hb h.hp, h.mp.below hb, qblk hb h.blk, fun j hj => own_below (h.own j hj) hb, h.dis, h.ge⟩
theorem regAt_succ (f : FaceV) (o : OfM) (r : Int) (k : Nat) : regAt f o r (k + 1) = regAt f o r k ++ (if o (k : Int) = some r then [(k : Int)] else []) := by
  unfold regAt
  rw [List.range_succ, List.filterMap_append]
  congr 1
  by_cases h : o (k : Int) = some r
  · rw [if_pos h, List.filterMap_cons, if_pos h]; rfl
  · rw [if_neg h, List.filterMap_cons, if_neg h]; rfl
theorem regAt_len (f : FaceV) (o : OfM) (r : Int) (k : Nat) : (regAt f o r k).length ≤ k := by
  unfold regAt
  refine Nat.le_trans (List.length_filterMap_le _ _) ?_
  rw [List.length_range]
  exact Nat.le_refl _
theorem LsAt.push {w W V V7 : World} {p R b n nm q r k : Nat} {f : FaceV} {a : Option Addr} {o : OfM} {wa : Nat → Option Addr} {wc : Nat → Nat} {a7 : Option Addr} {c7 : Nat} (h : LsAt w p R b f a n nm o q (fun j => regAt f o j k) wa wc V) (hr : r < q) (ho : o (k : Int) = some (r : Int))
    (ho7 : V7.ownsRow w.heap.size 3 1 (.slice a7 ((regAt f o r k).length + 1) c7) ((regAt f o r k).length + 1) ((regAt f o r k ++ [(k : Int)]).map intV))
    (hk7 : ∀ (p : Nat) (ob : Obj), V.heap[p]? = some ob → (∀ cur, ob ≠ .cells cur 3 (0, 0)) → V7.heap[p]? = some ob) (hb7 : ∀ W, Below w.heap.size W V → Below w.heap.size W V7)
    (hap : AppK (.slice (wa r) (regAt f o r k).length (wc r)) (.slice a7 ((regAt f o r k).length + 1) c7) V V7) (hg7 : V.grownBy V7 (Value.ownBlock (.slice (wa r) (regAt f o r k).length (wc r)))) :
    LsAt w p R b f a n nm o q (fun j => regAt f o j ((k + 1 : Nat))) (fun j => if j = r then a7 else wa j) (fun j => if j = r then c7 else wc j) (V7.setCell ⟨R, r, none⟩ (.slice a7 ((regAt f o r k).length + 1) c7)) := by
  have hR := hk7 _ _ h.blk (by simp)
  have HG := qput_grown V7 R r (.slice a7 ((regAt f o r k).length + 1) c7)
  obtain ⟨es, ck, hbb⟩ := h.mp.blk
  have hb2 := hk7 _ _ hbb (by simp)
  have er : regAt f o (r : Int) (k + 1) = regAt f o r k ++ [(k : Int)] := by rw [regAt_succ, if_pos ho]
  have ne : ∀ j : Nat, j ≠ r → regAt f o (j : Int) (k + 1) = regAt f o j k := fun j hj => by
    rw [regAt_succ, if_neg (by rw [ho]; intro e; have := Option.some.inj e; omega), List.append_nil]
  have lt : ∀ j : Nat, j < q → ∀ g, Value.ownBlock (.slice (wa j) 0 0) = some g → g < V.heap.size := fun j hj g e => ((h.own j hj).lt g (by rw [qob]; exact e)).2
  refine ⟨qstep (hb7 _ h.bel) HG h.ge, qgrown HG (hk7 _ _ h.hp (by simp)) (fun e => ?_), (h.mp.of_block (by rw [hb2, hbb])).step HG (fun e => ?_), ?_, fun j hj => ?_, fun j k2 hj hk2 hjk g e => ?_, h.ge⟩
  · have h1 := hk7 _ _ h.hp (by simp)
    rw [Option.some.inj e, hR] at h1
    simp at h1
  · rw [e, hR] at hb2; cases hb2
  · rw [qput_at hR r _]
    congr 2
    unfold lsCells
    apply Array.ext_getElem?
    intro j
    rw [Array.getElem?_setIfInBounds]
    by_cases hj : j < q
    · rw [List.getElem?_toArray, List.getElem?_toArray, List.getElem?_map, List.getElem?_map, List.getElem?_range hj]
      by_cases e : r = j
      · subst e
        rw [if_pos rfl, if_pos (by simp; omega)]
        simp only [Option.map_some, if_true]
        rw [er, List.length_append]
        rfl
      · rw [if_neg e]
        simp only [Option.map_some]
        rw [if_neg (fun e2 => e e2.symm), if_neg (fun e2 => e e2.symm), ne j (fun e2 => e e2.symm)]
    · rw [if_neg (by omega), List.getElem?_toArray, List.getElem?_toArray, List.getElem?_eq_none (by simp; omega), List.getElem?_eq_none (by simp; omega)]
  · try dsimp only
    by_cases e : j = r
    · subst e
      rw [if_pos rfl, if_pos rfl, er, List.length_append]
      exact ho7.kept HG (.inr (qown_no ho7 hR (by simp)).symm)
    · rw [if_neg e, if_neg e, ne j e]
      have h1 := h.own j hj
      have h2 := h1.kept hg7 (by
        cases hoj : Value.ownBlock (.slice (wa j) 0 0) with
        | none => left; rw [qob]; exact hoj
        | some g =>
          right
          intro e2
          rw [qob (wa j), qob (wa r), hoj] at e2
          exact h.dis j r hj hr e g hoj e2.symm)
      exact h2.kept HG (.inr (qown_no h2 hR (by simp)).symm)
  · try dsimp only at e ⊢
    by_cases e1 : j = r
    · rw [if_pos e1] at e
      rw [if_neg (fun e2 => hjk (e1.trans e2.symm))]
      intro e3
      have h1 := hap.no g (by rw [qob]; exact fun e4 => h.dis k2 r hk2 hr (fun e5 => hjk (e1.trans e5.symm)) g e3 e4) (lt k2 hk2 g e3)
      rw [qob] at h1
      exact h1.1 e
    · rw [if_neg e1] at e
      by_cases e2 : k2 = r
      · rw [if_pos e2]
        have h1 := hap.no g (by rw [qob]; exact fun e4 => h.dis j r hj hr e1 g e e4) (lt j hj g e)
        rw [qob] at h1
        exact h1.1
      · rw [if_neg e2]
        exact h.dis j k2 hj hk2 hjk g e
theorem made_slices (n : Nat) : madeCells (Value.slice none 0 0).cells n = lsCells n (fun _ => []) (fun _ => none) (fun _ => 0) := by
  unfold madeCells lsCells
  apply Array.ext
  · simp
  · intro i h1 h2
    simp [Value.cells, Nat.mod_one]
theorem qinfoS : (Tryz.prog.info? 26).map (fun i => (i.zero, i.size, i.bytes)) = some (some (.slice none 0 0), 1, 24) := by kernel_rfl
theorem run_make_slices (n : Nat) (hn : n ≤ 1000000) (w : World) : (Instr.makeSlice 47 (.int .i64 (n : Int)) (.int .i64 (n : Int))).run Tryz.prog w = .ok (.slice (some ⟨w.heap.size, 0, none⟩) n n) (w.alloc (.cells (lsCells n (fun _ => []) (fun _ => none) (fun _ => 0)) 26)) := by
  obtain ⟨i, hi, hz0, hz1, hz2⟩ := info_parts qinfoS
  have h := run_make (P := Tryz.prog) w 47 26 i (.slice none 0 0) Tryz.underlying47 hi hz0 .i64 .i64 n n (by omega) (Int.le_refl _) (by rw [hz2]; omega) (by omega)
  simp only [Int.toNat_natCast, hz1, Nat.mul_one] at h
  rw [made_slices] at h
  exact h
set_option maxHeartbeats 4000000 in
set_option maxRecDepth 100000 in
theorem regionsP_any (f : FaceV) (a : Option Addr) (n : Nat) (w : World) (hr : RdI w a f.kinds.length n f.kinds) :
    Calls Tryz.prog 24 #[.agg (f.cells a n)] w fun e w' => (∃ oa oc, e = .returned (.tuple #[.slice oa (regionsP f).1.length oc, .int .i64 (regionsP f).2]) ∧ RdLL w' oa (regionsP f).1.length oc (regionsP f).1) ∧ Below w.heap.size w w' := by
  have AV := Lib.hid (fun W (hb : Below w.heap.size w W) => valid2_any f a n W (hr.below hb))
  have HR := Lib.hid (fun W (hb : Below w.heap.size w W) => hr.below hb)
  clear hr
  have AL := Lib.hid (al1 w (.cells (f.cells a n) 28))
  go_enter Tryz.func24, Tryz.ntmps24
  go_upto_region 1 with fail
  obtain ⟨p, hp⟩ : ∃ p, Hid (w.heap.size = p) := ⟨_, Lib.hid rfl⟩
  rw [hp.out] at AL ⊢
  generalize (w.alloc (.cells (f.cells a n) 28)) = W0 at *
  have BF : Hid (Below w.heap.size w W0) := Lib.hid (by rw [hp.out]; exact AL.out.1)
  have XF : Hid (W0.heap[p]? = some (.cells (f.cells a n) 28 (0, 0))) := Lib.hid AL.out.2
  clear AL
  have c0 := qcell XF.out 0 (.int .i64 f.eye) rfl
  have c1 := qcell XF.out 1 (.int .i64 f.rings) rfl
  have c2 := qcell XF.out 2 (.int .i64 f.sectors) rfl
  have c3 := qcell XF.out 3 (.slice a f.kinds.length n) rfl
  go_wp2_with (first
    | (refine wpList_load_row rfl 28 _ rfl p rfl 28 (f.cells a n) (0, 0) _ XF.out Tryz.underlying28 rfl (by exact (qJF f a n)) ?_)
    | fail)
  refine (AV.out W0 BF.out).mono ?_
  rintro e V1 ⟨rfl, b⟩
  clear c0 c1 c2 c3
  replace BF := Lib.hid (BF.out.trans (b.mono BF.out.size))
  replace XF := Lib.hid (qblk b XF.out)
  clear b
  have c0 := qcell XF.out 0 (.int .i64 f.eye) rfl
  have c1 := qcell XF.out 1 (.int .i64 f.rings) rfl
  have c2 := qcell XF.out 2 (.int .i64 f.sectors) rfl
  have c3 := qcell XF.out 3 (.slice a f.kinds.length n) rfl
  cases hv : f.valid
  · go_wp2_with (first
      | (refine wpList_load_row rfl 28 _ rfl p rfl 28 (f.cells a n) (0, 0) _ XF.out Tryz.underlying28 rfl (by exact (qJF f a n)) ?_)
      | fail)
    go_ret2
    unfold regionsP
    rw [if_neg (by rw [hv]; decide)]
    exact ⟨⟨none, 0, rfl, RdLL.nil _⟩, BF.out⟩
  · have HV := Lib.hid hv
    have LL := Lib.hid (FaceV.len_le hv)
    have RF := Lib.hid (regF hv)
    have ML := Lib.hid (regionsN_le f f.kinds.length)
    clear hv
    go_wp2_with (first
      | (refine wpList_load_row rfl 28 _ rfl p rfl 28 (f.cells a n) (0, 0) _ XF.out Tryz.underlying28 rfl (by exact (qJF f a n)) ?_)
      | fail)
    refine (regions_any f a n V1 HV.out (HR.out V1 BF.out)).mono ?_
    rintro e V2 ⟨⟨b, nm, rfl, mp⟩, bb⟩
    have MP := Lib.hid mp
    clear mp
    clear c0 c1 c2 c3
    replace BF := Lib.hid (BF.out.trans (bb.mono BF.out.size))
    replace XF := Lib.hid (qblk bb XF.out)
    clear bb
    have c0 := qcell XF.out 0 (.int .i64 f.eye) rfl
    have c1 := qcell XF.out 1 (.int .i64 f.rings) rfl
    have c2 := qcell XF.out 2 (.int .i64 f.sectors) rfl
    have c3 := qcell XF.out 3 (.slice a f.kinds.length n) rfl
    obtain ⟨q, hq⟩ : ∃ q : Nat, (regionsF f).2 = q := ⟨(regionsF f).2.toNat, (Int.toNat_of_nonneg RF.out.m0).symm⟩
    obtain ⟨o, ho⟩ : ∃ o, Hid ((regionsF f).1 = o) := ⟨_, Lib.hid rfl⟩
    have HQ : Hid ((regionsF f).2 = (q : Int)) := Lib.hid hq
    have QL : Hid (q ≤ 2304) := Lib.hid (by have h1 := ML.out.2; have h2 := LL.out; have h3 : (regionsN f f.kinds.length).2 = (q : Int) := hq; omega)
    rw [hq]
    rw [hq, ho.out] at RF
    rw [ho.out] at MP
    clear hq
    have hmk := run_make_slices q (by have := QL.out; omega) V2
    go_upto_region 5 with (first
      | (refine wpList_load_row rfl 28 _ rfl p rfl 28 (f.cells a n) (0, 0) _ XF.out Tryz.underlying28 rfl (by exact (qJF f a n)) ?_)
      | fail)
    clear c0 c1 c2 c3
    clear hmk
    have AL := al1 V2 (.cells (lsCells q (fun _ => []) (fun _ => none) (fun _ => 0)) 26)
    obtain ⟨R, hR⟩ : ∃ R, Hid (V2.heap.size = R) := ⟨_, Lib.hid rfl⟩
    have L0 := Lib.hid (show LsAt w p R b f a n nm o q (fun j => regAt f o j (0 : Nat)) (fun _ => none) (fun _ => 0) (V2.alloc (.cells (lsCells q (fun _ => []) (fun _ => none) (fun _ => 0)) 26)) from
      ⟨BF.out.trans (AL.1.mono BF.out.size), qblk AL.1 XF.out, MP.out.below AL.1, by rw [← hR.out]; exact AL.2, fun j _ => World.ownsRow_nil _ _ _ _, fun j k _ _ _ g e => (by cases e), by rw [← hR.out]; exact BF.out.size⟩)
    rw [hR.out]
    clear AL BF XF MP
    generalize V2.alloc (.cells (lsCells q (fun _ => []) (fun _ => none) (fun _ => 0)) 26) = V3 at *
    have c3 := qcell L0.out.hp 3 (.slice a f.kinds.length n) rfl
    go_wp2_with fail
    clear c3
    go_loopw [21] (fun v wr => ∃ (k : Nat) (wa : Nat → Option Addr) (wc : Nat → Nat), v = .int .i64 k ∧ k ≤ f.kinds.length ∧ Hid (LsAt w p R b f a n nm o q (fun j => regAt f o j k) wa wc wr)) (fun v _ => f.kinds.length - (intOf v).toNat)
    case atStart => exact ⟨0, _, _, rfl, Nat.zero_le _, L0⟩
    case round =>
      clear L0
      obtain ⟨k, wa, wc, rfl, hk, LA⟩ := hrel
      by_cases hkn : k < f.kinds.length
      · have t0 : decide ((k : Int) < (f.kinds.length : Int)) = true := by simp; omega
        have HK64 : Hid ((k : Int) + 1 ≤ 9223372036854775807) := Lib.hid (by have := LL.out; omega)
        have HKI : Hid (I64q (k : Int)) := Lib.hid (by have := LL.out; unfold I64q; omega)
        obtain ⟨r0, hr0⟩ := Option.isSome_iff_exists.1 (RF.out.dn k hkn)
        have hri := RF.out.rg.inr _ _ hr0
        obtain ⟨r, rfl⟩ : ∃ r : Nat, r0 = r := ⟨r0.toNat, (Int.toNat_of_nonneg hri.2.1).symm⟩
        have HO := Lib.hid hr0
        have HRQ : Hid (r < q) := Lib.hid (by omega)
        clear hr0 hri
        go_upto_region 8 with fail
        clear t0
        have hd : Below wr.heap.size wr wr.drew := (Below.refl _ _).drew
        replace LA := Lib.hid (LA.out.below hd)
        clear hd
        obtain ⟨V0, hV0⟩ : ∃ V0, wr.drew = V0 := ⟨_, rfl⟩
        rw [hV0] at LA
        have RL := Lib.hid (regAt_len f o r k)
        obtain ⟨l, hl⟩ : ∃ l, Hid (regAt f o (r : Int) k = l) := ⟨_, Lib.hid rfl⟩
        have hrq : r < q := HRQ.out
        refine bDq 14 (fun W => Below w.heap.size w W ∧ MapI W b nm o ∧ W.heap[R]? = some (.cells (lsCells q (fun j => regAt f o j k) wa wc) 26 (0, 0))) ⟨LA.out.bel, LA.out.mp, LA.out.blk⟩ (fun hHeld => ?_)
        clear hV0
        refine bW 0 rfl (.slice (some ⟨R, 0, none⟩) q q) ?_
        refine bW 1 rfl (.map (some b)) ?_
        refine bW 2 rfl (.int .i64 (k : Int)) ?_
        refine bS 3 rfl (.int .i64 (r : Int)) (fun W hW => by have c := run_get_q hW.2.1 Tryz.underlying115 HKI.out; rw [HO.out] at c; (try dsimp only [Option.getD] at c); go_simp) ?_
        refine bW 4 rfl (.slice (some ⟨R, 0, none⟩) q q) ?_
        refine bW 5 rfl (.map (some b)) ?_
        refine bW 6 rfl (.int .i64 (k : Int)) ?_
        refine bS 7 rfl (.int .i64 (r : Int)) (fun W hW => by have c := run_get_q hW.2.1 Tryz.underlying115 HKI.out; rw [HO.out] at c; (try dsimp only [Option.getD] at c); go_simp) ?_
        refine bW 8 rfl (.pointer (some ⟨R, r, none⟩)) ?_
        refine bS 9 rfl (.slice (wa r) l.length (wc r)) (fun W hW => by have c := qcell hW.2.2 r _ (lsCells_at hrq); (try dsimp only at c); rw [hl.out] at c; go_simp) ?_
        refine bW 10 rfl (.int .i64 (k : Int)) ?_
        refine bR 11 rfl (fun K hK => ?_)
        rw [if_pos (by kernel_rfl)]
        refine qbuild (w' := V0.alloc (.cells #[.int .i64 (k : Int)] 3)) (.slice (some ⟨V0.heap.size, 0, none⟩) 1 1) (by kernel_rfl) ?_
        have L5 := Lib.hid (lit_int V0 (k : Int))
        replace LA := Lib.hid (LA.out.below (zB V0 (.cells #[.int .i64 (k : Int)] 3)))
        obtain ⟨p5, hp5⟩ : ∃ z, Hid (V0.heap.size = z) := ⟨_, Lib.hid rfl⟩
        rw [hp5.out] at L5 ⊢
        generalize V0.alloc (.cells #[.int .i64 (k : Int)] 3) = V4 at *
        refine bK hK ⟨LA.out.bel, LA.out.mp, LA.out.blk⟩ (fun hHeld => ?_)
        clear hK K
        refine bR 12 rfl (fun K hK => ?_)
        rw [if_pos (by kernel_rfl)]
        have OWR := LA.out.own r hrq
        try dsimp only at OWR
        rw [hl.out] at OWR RL
        obtain ⟨a7, c7, V7, hrun, ho7, hk7, hb7, hap7, hg7⟩ := run_app_at V4 w.heap.size (wa r) _ (wc r) l OWR (some ⟨p5, 0, none⟩) 1 1 [(k : Int)] (by decide) L5.out (by have h1 := RL.out; have h2 := LL.out; omega) LA.out.bel.size
        refine qappend _ _ _ rfl _ _ _ rfl rfl hrun ?_
        clear hrun
        obtain ⟨es, ck, hbb⟩ := LA.out.mp.blk
        have hbb7 := hk7 _ _ hbb (by simp)
        have F7 := Lib.hid (show Below w.heap.size w V7 ∧ MapI V7 b nm o ∧ V7.heap[R]? = some (.cells (lsCells q (fun j => regAt f o j k) wa wc) 26 (0, 0)) from ⟨hb7 _ LA.out.bel, LA.out.mp.of_block (by rw [hbb7, hbb]), hk7 _ _ LA.out.blk (by simp)⟩)
        have LP : Hid (LsAt w p R b f a n nm o q (fun j => regAt f o j ((k + 1 : Nat))) (fun j => if j = r then a7 else wa j) (fun j => if j = r then c7 else wc j) (V7.setCell ⟨R, r, none⟩ (.slice a7 (l.length + 1) c7))) := Lib.hid (by
          rw [← hl.out] at ho7 hap7 hg7 ⊢
          exact LA.out.push (W := w) hrq HO.out ho7 hk7 hb7 hap7 hg7)
        clear ho7 hk7 hb7 hap7 hg7 hbb hbb7 OWR
        refine bK hK F7.out (fun hHeld => ?_)
        clear hK K
        refine bW 13 rfl (.pointer (some ⟨R, r, none⟩)) ?_
        refine bL rfl (fun K hK => ?_)
        have hce := qcell F7.out.2.2 r _ (lsCells_at hrq)
        have hfz := qfroz F7.out.2.2 r
        try dsimp only at hce
        go_simp
        refine hK.out _ _ ?_
        clear hK K hce hfz hHeld hrq
        refine bE ?_
        have hk64 := HK64.out
        go_wp2_with fail
        go_roundw
        case rel => exact ⟨k + 1, _, _, by simp, by omega, LP⟩
        case measure => simp [intOf]; omega
      · have t0 : decide ((k : Int) < (f.kinds.length : Int)) = false := by simp; omega
        have e : k = f.kinds.length := by omega
        subst e
        go_wp2_with fail
        go_ret2
        have e9 : regionsP f = (regListF f, 0) := by unfold regionsP; rw [if_pos HV.out]
        have e8 : (regListF f).length = q := by rw [regList_len, HQ.out, Int.toNat_natCast]
        rw [e9]
        try dsimp only
        refine ⟨⟨some ⟨R, 0, none⟩, q, (by rw [e8]; rfl), ⟨rfl, by rw [e8]; exact Nat.le_refl _, by have := QL.out; unfold maxLen; omega, fun j l hj => ?_⟩⟩, LA.out.bel⟩
        have hjq : j < q := by rw [← e8]; exact (List.getElem?_eq_some_iff.1 hj).1
        have hjl : l = regAt f o j f.kinds.length := by
          have := regList_at (f := f) (n := j) (by rw [HQ.out, Int.toNat_natCast]; exact hjq)
          rw [hj, ho.out] at this
          exact Option.some.inj this
        subst hjl
        have hc := qcell LA.out.blk j _ (lsCells_at hjq)
        refine ⟨R, 0, wa j, wc j, rfl, ?_, RdA.of_own (LA.out.own j hjq)⟩
        rw [Nat.zero_add]
        exact hc
end Go.Proofs.YtimmadkbkimonaaGreatDoor
namespace Go.Proofs.YtimmadkbkimonaaGreatDoor
set_option linter.unusedSimpArgs false
set_option linter.unusedVariables false
open Go.RowKit

theorem rg_mem {f : FaceV} (hv : f.valid = true) {k : Nat} {cs : List Int} (h : (regListF f)[k]? = some cs) : cs ≠ [] ∧ ∀ x ∈ cs, 0 ≤ x ∧ x < f.kinds.length := by
  have hk := (List.getElem?_eq_some_iff.1 h).1
  rw [regList_len] at hk
  have e := regList_at hk
  rw [h] at e
  have e2 := (Option.some.inj e).symm
  obtain ⟨x, hx, _⟩ := reg_head hv hk
  refine ⟨fun h0 => (by rw [e2, h0] at hx; cases hx), fun y hy => ?_⟩
  rw [← e2] at hy
  have h3 := regAt_mem.1 hy
  exact ⟨h3.2.1, by omega⟩
theorem rdi_at {W : World} {b off n c k : Nat} {l : List Int} {x : Int} (h : RdI W (some ⟨b, off, none⟩) n c l) (hx : l[k]? = some x) : W.cell? ⟨b, off + k, none⟩ = some (.int .i64 x) := by
  obtain ⟨b2, o2, e, h2⟩ := h.get hx
  simp only [Option.some.injEq, Addr.mk.injEq, and_true] at e
  rw [e.1, e.2]
  exact h2
end Go.Proofs.YtimmadkbkimonaaGreatDoor
namespace Go.Proofs.YtimmadkbkimonaaGreatDoor
set_option linter.unusedSimpArgs false
set_option linter.unusedVariables false
open Go.RowKit

structure LkR (W : World) (lb NL lc : Nat) (l : List Int) (v : Value) : Prop where
  rd : RdI W (some ⟨lb, 0, none⟩) NL lc l
  ne : v.ownBlock ≠ some lb
  lt : lb < W.heap.size
theorem LkR.below {W W' : World} {lb NL lc : Nat} {l : List Int} {v : Value} (h : LkR W lb NL lc l v) (hb : Below W.heap.size W W') : LkR W' lb NL lc l v := ⟨h.rd.below hb, h.ne, Nat.lt_of_lt_of_le h.lt hb.size⟩
theorem LkR.grown {W W' : World} {lb NL lc g : Nat} {l : List Int} {v : Value} (h : LkR W lb NL lc l v) (hg : W.grownBy W' (some g)) (hne : lb ≠ g) : LkR W' lb NL lc l v := ⟨RdI_grown h.rd hg hne, h.ne, Nat.lt_of_lt_of_le h.lt hg.size⟩
end Go.Proofs.YtimmadkbkimonaaGreatDoor
