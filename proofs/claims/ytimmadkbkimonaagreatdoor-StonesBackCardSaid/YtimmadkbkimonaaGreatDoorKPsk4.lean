/- Parts of the proof, in this order: What a furrow cuts, step by step, plain; floor, cut of stones; Rows of ints of the call's own, as values; Parse of stones; A range over a function whose iterator keeps state of its own in cells: one law, over any program, at the wide fence; From a walk that knows of no fence to one under the wide fence, in a round or not; a range over a function whose assignments make memory; Maps from int to int: what such a map in memory reads as, and its operations in these words; Append to ints of the call's own: what lies elsewhere stays, the row's block is the old one or new; neighbours of stones, as an iterator; neighbours, Neighbours of stones; The flood in memory. -/
import Derived.Lib.OthersKept
import Derived.RangeFuncNested
import Derived.RangeFuncBound
import Derived.RangeFuncCalls
import Derived.RangeFuncLeaves
import Derived.WalkKit
import Derived.OwnWalkIn
import Derived.TacticsInMore
import Derived.LoopNIn
import Derived.LoopIn
import Derived.Shelf.RegionOpen
import Derived.Maps.RangeWalk
import Derived.Maps.OwnSet
import Derived.DeepKeys4
import Derived.Maps.AppendAt
import Derived.OrdersIn
import Derived.Test.YtimmadkbkimonaaGreatDoorKPsk3
set_option linter.unusedSimpArgs false
set_option linter.unusedVariables false
open List renaming getElem_toArray → lq0, getElem_cons_succ → lq1, getElem_cons_zero → lq2, setIfInBounds_toArray → lq3, set_cons_zero → lq4, set_cons_succ → lq5
namespace Go.Proofs.YtimmadkbkimonaaGreatDoor
set_option linter.unusedSimpArgs false
set_option linter.unusedVariables false
open Go.RowKit

theorem floor_eq (a b : Int) (hb : 0 < b) : Int.tdiv (a - around a b) b = a / b := by
  unfold around
  have h := Int.mul_ediv_add_emod a b
  rw [show a - a % b = b * (a / b) by omega]
  exact Int.mul_tdiv_cancel_left _ (by omega)
def cutK (f : FaceV) (x : FurV) (ring first : Int) (l : List Int) (k : Nat) : List Int := ((List.range k).map fun (n : Nat) => (indexF f ring (first + x.at_ + leanF f.rings x ring + n), if (n : Int) < x.steep then (1 : Int) else 2)).foldl putE l
theorem cutK_succ (f : FaceV) (x : FurV) (ring first : Int) (l : List Int) (k : Nat) : cutK f x ring first l (k + 1) = putE (cutK f x ring first l k) (indexF f ring (first + x.at_ + leanF f.rings x ring + k), if (k : Int) < x.steep then (1 : Int) else 2) := by
  unfold cutK
  rw [List.range_succ, List.map_append, List.foldl_append]
  rfl
theorem putE_ok {f : FaceV} {l : List Int} {e : Int × Int} (h : ({ f with kinds := l } : FaceV).valid = true) (he : e.2 = 1 ∨ e.2 = 2) : ({ f with kinds := putE l e } : FaceV).valid = true := by
  obtain ⟨h1, h2, h3, h4, h5⟩ := FaceV.valid_iff.1 h
  refine FaceV.valid_iff.2 ⟨h1, h2, h3, ?_, fun k hk => ?_⟩
  · show ((putE l e).length : Int) = _
    rw [putE_len]
    exact h4
  · have hk2 : k ∈ putE l e := hk
    unfold putE at hk2
    split at hk2
    · rcases List.mem_or_eq_of_mem_set hk2 with h | h
      · exact h5 k h
      · omega
    · exact h5 k hk2
theorem cutK_ok {f : FaceV} {x : FurV} {ring first : Int} {l : List Int} (h : ({ f with kinds := l } : FaceV).valid = true) : ∀ k, ({ f with kinds := cutK f x ring first l k } : FaceV).valid = true
  | 0 => h
  | k + 1 => by
    rw [cutK_succ]
    refine putE_ok (cutK_ok h k) ?_
    dsimp only
    split
    · exact .inl rfl
    · exact .inr rfl
def ringK (f : FaceV) (p : PatV) (x : FurV) (ring : Int) (l : List Int) (h : Nat) : List Int := ((List.range h).flatMap fun (h : Nat) => cutE f x ring (h * p.wide)).foldl putE l
theorem ringK_succ (f : FaceV) (p : PatV) (x : FurV) (ring : Int) (l : List Int) (h : Nat) : ringK f p x ring l (h + 1) = cutK f x ring (h * p.wide) (ringK f p x ring l h) (wideF x) := by
  unfold ringK
  rw [List.range_succ, List.flatMap_append, List.foldl_append, List.flatMap_singleton]
  rfl
theorem ringK_ok {f : FaceV} {p : PatV} {x : FurV} {ring : Int} {l : List Int} (h : ({ f with kinds := l } : FaceV).valid = true) : ∀ k, ({ f with kinds := ringK f p x ring l k } : FaceV).valid = true
  | 0 => h
  | k + 1 => by rw [ringK_succ]; exact cutK_ok (ringK_ok h k) _
theorem ringK_len (f : FaceV) (p : PatV) (x : FurV) (ring : Int) (l : List Int) (k : Nat) : (ringK f p x ring l k).length = l.length := putE_lens _ _
def furK (f : FaceV) (p : PatV) (x : FurV) (l : List Int) (k : Nat) : List Int := ((List.range k).flatMap fun (k : Nat) => ringE f p x (x.from_ + k)).foldl putE l
theorem furK_succ (f : FaceV) (p : PatV) (x : FurV) (l : List Int) (k : Nat) : furK f p x l (k + 1) = ringK f p x (x.from_ + k) (furK f p x l k) p.harps.toNat := by
  unfold furK
  rw [List.range_succ, List.flatMap_append, List.foldl_append, List.flatMap_singleton]
  rfl
theorem furK_ok {f : FaceV} {p : PatV} {x : FurV} {l : List Int} (h : ({ f with kinds := l } : FaceV).valid = true) : ∀ k, ({ f with kinds := furK f p x l k } : FaceV).valid = true
  | 0 => h
  | k + 1 => by rw [furK_succ]; exact ringK_ok (furK_ok h k) _
theorem furK_len (f : FaceV) (p : PatV) (x : FurV) (l : List Int) (k : Nat) : (furK f p x l k).length = l.length := putE_lens _ _
def patK (p : PatV) (k : Nat) : List Int := (p.furs.take k).foldl (fun l x => (furE (patF p) p x).foldl putE l) (patF p).kinds
theorem patK_succ (p : PatV) {k : Nat} {x : FurV} (h : p.furs[k]? = some x) : patK p (k + 1) = furK (patF p) p x (patK p k) (p.rings - x.from_).toNat := by
  unfold patK
  rw [List.take_add_one, h, List.foldl_append]
  rfl
theorem patK_all (p : PatV) : ({ patF p with kinds := patK p p.furs.length } : FaceV) = dressF p := by
  unfold patK dressF
  rw [List.take_length]
theorem patK_ok {p : PatV} (hp : p.valid = true) : ∀ k, ({ patF p with kinds := patK p k } : FaceV).valid = true
  | 0 => patF_valid hp
  | k + 1 => by
    rcases Nat.lt_or_ge k p.furs.length with h | h
    · rw [patK_succ p (List.getElem?_eq_getElem h)]
      exact furK_ok (patK_ok hp k) _
    · have : patK p (k + 1) = patK p k := by unfold patK; rw [List.take_of_length_le (by omega), List.take_of_length_le h]
      rw [this]
      exact patK_ok hp k
theorem patK_len (p : PatV) : ∀ k, (patK p k).length = (patF p).kinds.length
  | 0 => rfl
  | k + 1 => by
    rcases Nat.lt_or_ge k p.furs.length with h | h
    · rw [patK_succ p (List.getElem?_eq_getElem h), furK_len, patK_len p k]
    · have : patK p (k + 1) = patK p k := by unfold patK; rw [List.take_of_length_le (by omega), List.take_of_length_le h]
      rw [this, patK_len p k]
theorem lean_bound {p : PatV} (hp : p.valid = true) {x : FurV} (hx : x ∈ p.furs) {ring : Int} (hr : 0 ≤ ring ∧ ring ≤ p.rings - 1) : -2304 ≤ (p.rings - 1 - ring) * x.lean ∧ (p.rings - 1 - ring) * x.lean ≤ 2304 := by
  obtain ⟨⟨_, h2, _⟩, hf⟩ := PatV.valid_iff.1 hp
  obtain ⟨_, _, h3, _⟩ := hf x hx
  have a1 : (p.rings - 1 - ring) * x.lean ≤ 24 * 96 := by
    rcases Int.le_total 0 x.lean with h | h
    · exact Int.mul_le_mul (by omega) h3.2 h (by omega)
    · have := Int.mul_nonpos_of_nonneg_of_nonpos (show 0 ≤ p.rings - 1 - ring by omega) h; omega
  have a2 : (p.rings - 1 - ring) * (-x.lean) ≤ 24 * 96 := by
    rcases Int.le_total 0 (-x.lean) with h | h
    · exact Int.mul_le_mul (by omega) (by omega) h (by omega)
    · have := Int.mul_nonpos_of_nonneg_of_nonpos (show 0 ≤ p.rings - 1 - ring by omega) h; omega
  rw [Int.mul_neg] at a2
  omega
end Go.Proofs.YtimmadkbkimonaaGreatDoor
namespace Go.Proofs.YtimmadkbkimonaaGreatDoor
set_option linter.unusedSimpArgs false
set_option linter.unusedVariables false
open Go.RowKit

theorem kept_below {base : Nat} {w w' : World} (hb : Below w.heap.size w w') (h : base ≤ w.heap.size) : KeptBut base w w' := ⟨fun p ob hp _ => qblk hb hp, fun W hW => hW.trans (hb.mono h)⟩
theorem KeptBut.trans {base : Nat} {w w' w'' : World} (h : KeptBut base w w') (h' : KeptBut base w' w'') : KeptBut base w w'' := ⟨fun p ob hp hn => h'.1 p ob (h.1 p ob hp hn) hn, fun W hW => h'.2 W (h.2 W hW)⟩
theorem KeptBut.refl (base : Nat) (w : World) : KeptBut base w w := ⟨fun _ _ h _ => h, fun _ h => h⟩
theorem kept_put {base g i : Nat} {w : World} {v : Value} {cur : Array Value} (hg : w.heap[g]? = some (.cells cur 3 (0, 0))) (hb : base ≤ g) (h : base ≤ w.heap.size) : KeptBut base w (w.setCell ⟨g, i, none⟩ v) :=
  ⟨fun p ob hp hn => qgrown (qput_grown w g i v) hp (fun e => by
    cases (Option.some.inj e)
    rw [hg] at hp
    cases hp
    exact hn _ rfl), fun W hW => hW.grown (qput_grown w g i v) h (fun k e => by cases e; exact hb)⟩
theorem own_block {w : World} {base g n c : Nat} {xs : List Value} (h : w.ownsRow base 3 1 (.slice (some ⟨g, 0, none⟩) n c) n xs) : ∃ cur, w.heap[g]? = some (.cells cur 3 (0, 0)) := by
  obtain ⟨h1, h2⟩ := h
  rcases h2 with ⟨h2, _⟩ | ⟨g', cap, cur, hv, hb, hg, _⟩
  · cases h2
  · simp only [Value.slice.injEq, Option.some.injEq, Addr.mk.injEq] at hv
    obtain ⟨⟨rfl, _, _⟩, _, rfl⟩ := hv
    exact ⟨cur, hg⟩
structure CuAt (base : Nat) (w : World) (p q : Nat) (f : FaceV) (a : Option Addr) (n : Nat) (x : FurV) (l : List Int) (W : World) : Prop where
  kept : KeptBut base w W
  le : base ≤ W.heap.size
  xf : W.heap[p]? = some (.cells (f.cells a n) 28 (0, 0))
  xu : W.heap[q]? = some (.cells (furA x) 76 (0, 0))
  own : W.ownsRow base 3 1 (.slice a f.kinds.length n) f.kinds.length (l.map intV)
theorem CuAt.below {base : Nat} {w : World} {p q : Nat} {f : FaceV} {a : Option Addr} {n : Nat} {x : FurV} {l : List Int} {W W' : World} (h : CuAt base w p q f a n x l W) (hb : Below W.heap.size W W') : CuAt base w p q f a n x l W' :=
  ⟨h.kept.trans (kept_below hb h.le), Nat.le_trans h.le hb.size, qblk hb h.xf, qblk hb h.xu, own_below h.own hb⟩
theorem CuAt.put {base : Nat} {w : World} {p q : Nat} {f : FaceV} {g n : Nat} {x : FurV} {l : List Int} {W : World} (h : CuAt base w p q f (some ⟨g, 0, none⟩) n x l W) {i : Nat} (hi : i < f.kinds.length) (v : Int) :
    CuAt base w p q f (some ⟨g, 0, none⟩) n x (l.set i v) (W.setCell ⟨g, i, none⟩ (.int .i64 v)) ∧ W.cell? ⟨g, i, none⟩ = some (.int .i64 (l[i]?.getD 0)) ∧ W.frozen? ⟨g, i, none⟩ = false := by
  obtain ⟨cur, hc⟩ := own_block h.own
  obtain ⟨o1, o2, o3, o4⟩ := own_put h.own hi v
  have K := kept_put (i := i) (v := .int .i64 v) hc o4 h.le
  exact ⟨⟨h.kept.trans K, (by have := (K.2 W (Below.refl _ _)).size; have := h.le; omega), K.1 _ _ h.xf (by simp), K.1 _ _ h.xu (by simp), o1⟩, o2, o3⟩
set_option maxHeartbeats 4000000 in
set_option maxRecDepth 100000 in
theorem floor_any (a b : Int) (w : World) (ha : -1000000 ≤ a ∧ a ≤ 1000000) (hb : 1 ≤ b ∧ b ≤ 1000000) : Calls Tryz.prog 111 #[.int .i64 a, .int .i64 b] w fun e w' => e = .returned (.int .i64 (a / b)) ∧ w' = w := by
  have HA := Lib.hid (floor_eq a b (by omega))
  have HR : Hid (0 ≤ around a b ∧ around a b < b) := Lib.hid (by unfold around; exact ⟨Int.emod_nonneg _ (by omega), Int.emod_lt_of_pos _ (by omega)⟩)
  have ws : wrap64 (a - around a b) = a - around a b := by have := HR.out; unfold wrap64; omega
  have HQ : Hid (-2000000 ≤ a / b ∧ a / b ≤ 2000000) := Lib.hid (by
    constructor
    · exact (Int.le_ediv_iff_mul_le (by omega)).2 (by omega)
    · have := Int.ediv_le_ediv (show 0 < b by omega) (show a ≤ 2000000 by omega)
      have h2 := Int.ediv_le_self (b := b) (show (0 : Int) ≤ 2000000 by omega) 
      omega)
  have wd : wrap64 (Int.tdiv (a - around a b) b) = a / b := by rw [HA.out]; have := HQ.out; unfold wrap64; omega
  have h0 : (b == 0) = false := by simp; omega
  have h0' : b ≠ 0 := by omega
  have AR := Lib.hid (around_any a b w ⟨hb.1, by omega⟩)
  clear ha hb
  go_enter Tryz.func111, Tryz.ntmps111
  go_wp2_with fail
  refine AR.out.mono ?_
  rintro e V1 ⟨rfl, rfl⟩
  go_wp2_with fail
  go_ret
  exact ⟨by first | rfl | (rw [← wd]; rfl) | (rw [wd]), rfl⟩
set_option maxHeartbeats 4000000 in
set_option maxRecDepth 100000 in
theorem cut_any (f : FaceV) (a : Option Addr) (n : Nat) (x : FurV) (ring first : Int) (base : Nat) (w : World) (hv : f.valid = true) (hx : (0 ≤ x.at_ ∧ x.at_ ≤ 96) ∧ (1 ≤ x.leans ∧ x.leans ≤ 96) ∧ (1 ≤ x.steep ∧ x.steep ≤ 96) ∧ 0 ≤ x.feather ∧ x.feather ≤ 96) (hr : 0 ≤ ring ∧ ring ≤ f.rings - 1) (hf : 0 ≤ first ∧ first ≤ 10000) (hl : -2304 ≤ (f.rings - 1 - ring) * x.lean ∧ (f.rings - 1 - ring) * x.lean ≤ 2304) (hown : w.ownsRow base 3 1 (.slice a f.kinds.length n) f.kinds.length (f.kinds.map intV)) (hbase : base ≤ w.heap.size) :
    Calls Tryz.prog 65 #[.agg (f.cells a n), .agg (furA x), .int .i64 ring, .int .i64 first] w fun e w' => e = .returned (.tuple #[]) ∧ w'.ownsRow base 3 1 (.slice a f.kinds.length n) f.kinds.length ((cutK f x ring first f.kinds (wideF x)).map intV) ∧ KeptBut base w w' := by
  have HV := Lib.hid hv
  have IV := Lib.hid (FaceV.int hv)
  have LL := Lib.hid (FaceV.len_le hv)
  have HX := Lib.hid hx
  have HRG := Lib.hid hr
  have HF := Lib.hid hf
  have HLN := Lib.hid hl
  have OWN := Lib.hid hown
  have HBS := Lib.hid hbase
  clear hv hx hr hf hl hown hbase
  have AL := Lib.hid (al2 w (.cells (f.cells a n) 28) (.cells (furA x) 76))
  go_enter Tryz.func65, Tryz.ntmps65
  go_upto_region 1 with fail
  obtain ⟨p, hp⟩ : ∃ p, Hid (w.heap.size = p) := ⟨_, Lib.hid rfl⟩
  obtain ⟨q, hq⟩ : ∃ q, Hid (w.heap.size + 1 = q) := ⟨_, Lib.hid rfl⟩
  rw [hq.out] at AL ⊢
  rw [hp.out] at AL ⊢
  generalize ((w.alloc (.cells (f.cells a n) 28)).alloc (.cells (furA x) 76)) = W0 at *
  have BF : Hid (Below w.heap.size w W0) := Lib.hid (by rw [hp.out]; exact AL.out.1)
  have XF : Hid (W0.heap[p]? = some (.cells (f.cells a n) 28 (0, 0))) := Lib.hid AL.out.2.1
  have XU : Hid (W0.heap[q]? = some (.cells (furA x) 76 (0, 0))) := Lib.hid AL.out.2.2
  clear AL
  have c0 := qcell XF.out 0 (.int .i64 f.eye) rfl
  have c1 := qcell XF.out 1 (.int .i64 f.rings) rfl
  have c2 := qcell XF.out 2 (.int .i64 f.sectors) rfl
  have c3 := qcell XF.out 3 (.slice a f.kinds.length n) rfl
  have u0 := qcell XU.out 0 (.int .i64 x.at_) rfl
  have u1 := qcell XU.out 1 (.int .i64 x.from_) rfl
  have u2 := qcell XU.out 2 (.int .i64 x.lean) rfl
  have u3 := qcell XU.out 3 (.int .i64 x.leans) rfl
  have u4 := qcell XU.out 4 (.int .i64 x.steep) rfl
  have u5 := qcell XU.out 5 (.int .i64 x.feather) rfl
  have W1 := Lib.hid (show wrap64 (first + x.at_) = first + x.at_ by have := HF.out; have := HX.out; unfold wrap64; omega)
  have W2 := Lib.hid (show wrap64 (f.rings - 1) = f.rings - 1 by have := IV.out; unfold wrap64; omega)
  have W3 := Lib.hid (show wrap64 (f.rings - 1 - ring) = f.rings - 1 - ring by have := IV.out; have := HRG.out; unfold wrap64; omega)
  have W4 := Lib.hid (show wrap64 ((f.rings - 1 - ring) * x.lean) = (f.rings - 1 - ring) * x.lean by have := HLN.out; unfold wrap64; omega)
  have LQ : Hid (-2304 ≤ leanF f.rings x ring ∧ leanF f.rings x ring ≤ 2304) := Lib.hid (by
    have h1 := HLN.out
    have h2 := HX.out.2.1
    unfold leanF
    constructor
    · exact (Int.le_ediv_iff_mul_le (by omega)).2 (by omega)
    · have := Int.ediv_le_ediv (show 0 < x.leans by omega) h1.2
      have h2 := Int.ediv_le_self (b := x.leans) (show (0 : Int) ≤ 2304 by omega)
      omega)
  have W5 := Lib.hid (show wrap64 (first + x.at_ + leanF f.rings x ring) = first + x.at_ + leanF f.rings x ring by have := HF.out; have := HX.out; have := LQ.out; unfold wrap64; omega)
  have C0 := Lib.hid (show CuAt base w p q f a n x (cutK f x ring first f.kinds 0) W0 from ⟨kept_below BF.out HBS.out, Nat.le_trans HBS.out BF.out.size, XF.out, XU.out, own_below OWN.out BF.out⟩)
  clear c0 c1 c2 c3 u0 u1 u2 u3 u4 u5
  have hd : Below W0.heap.size W0 W0.drew := (Below.refl _ _).drew
  replace C0 := Lib.hid (C0.out.below hd)
  clear hd BF XF XU
  refine zD (fun W => CuAt base w p q f a n x (cutK f x ring first f.kinds 0) W) C0.out (fun hHeld => ?_)
  generalize W0.drew = V0 at *
  refine zW 0 rfl (.int .i64 first) ?_
  refine zW 1 rfl (.pointer (some ⟨q, 0, none⟩)) ?_
  refine zS 2 rfl (.int .i64 x.at_) (fun W hW => by have c := qcell hW.xu 0 (.int .i64 x.at_) rfl; go_simp) ?_
  refine zW 3 rfl (.int .i64 (first + x.at_)) (hy := .inl ⟨by kernel_rfl, by intro W _; go_simp; exact (IntWalk.i64_left _).trans W1.out⟩) ?_
  refine zW 4 rfl (.pointer (some ⟨p, 1, none⟩)) ?_
  refine zS 5 rfl (.int .i64 f.rings) (fun W hW => by have c := qcell hW.xf 1 (.int .i64 f.rings) rfl; go_simp) ?_
  refine zW 6 rfl (.int .i64 (f.rings - 1)) (hy := .inl ⟨by kernel_rfl, by intro W _; go_simp; exact (IntWalk.i64_left _).trans W2.out⟩) ?_
  refine zW 7 rfl (.int .i64 ring) ?_
  refine zW 8 rfl (.int .i64 (f.rings - 1 - ring)) (hy := .inl ⟨by kernel_rfl, by intro W _; go_simp; exact (IntWalk.i64_left _).trans W3.out⟩) ?_
  refine zW 9 rfl (.pointer (some ⟨q, 2, none⟩)) ?_
  refine zS 10 rfl (.int .i64 x.lean) (fun W hW => by have c := qcell hW.xu 2 (.int .i64 x.lean) rfl; go_simp) ?_
  refine zW 11 rfl (.int .i64 ((f.rings - 1 - ring) * x.lean)) (hy := .inl ⟨by kernel_rfl, by intro W _; go_simp; exact (IntWalk.i64_left _).trans W4.out⟩) ?_
  refine zW 12 rfl (.pointer (some ⟨q, 3, none⟩)) ?_
  refine zS 13 rfl (.int .i64 x.leans) (fun W hW => by have c := qcell hW.xu 3 (.int .i64 x.leans) rfl; go_simp) ?_
  refine zR 14 rfl (fun K hK => ?_)
  go_simp
  refine (floor_any ((f.rings - 1 - ring) * x.lean) x.leans V0 (by have := HLN.out; omega) (by have := HX.out.2.1; omega)).mono ?_
  rintro e V1 ⟨rfl, rfl⟩
  dsimp only
  refine zK hK C0.out (fun hHeld => ?_)
  clear hK K
  have eL : ((f.rings - 1 - ring) * x.lean) / x.leans = leanF f.rings x ring := rfl
  rw [eL]
  clear eL
  refine zW 15 rfl (.int .i64 (first + x.at_ + leanF f.rings x ring)) (hy := .inl ⟨by kernel_rfl, by intro W _; go_simp; exact (IntWalk.i64_left _).trans W5.out⟩) ?_
  refine zW 16 rfl (.int .i64 (first + x.at_ + leanF f.rings x ring)) ?_
  refine zE ?_
  clear hHeld
  obtain ⟨fr, hfr⟩ : ∃ fr, Hid (first + x.at_ + leanF f.rings x ring = fr) := ⟨_, Lib.hid rfl⟩
  have FR : Hid (-3000 ≤ fr ∧ fr ≤ 14000) := Lib.hid (by have := HF.out; have := HX.out; have := LQ.out; have := hfr.out; omega)
  rw [hfr.out]
  clear W1 W2 W3 W4 W5 LQ
  obtain ⟨N, hN⟩ : ∃ N, Hid (wideF x = N) := ⟨_, Lib.hid rfl⟩
  have HN : Hid (x.steep + x.feather = (N : Int) ∧ N ≤ 200) := Lib.hid (by have h1 := HX.out; have h2 := hN.out; unfold wideF at h2; omega)
  have ws : wrap64 (x.steep + x.feather) = (N : Int) := by have := HN.out; unfold wrap64; omega
  have u4 := qcell C0.out.xu 4 (.int .i64 x.steep) rfl
  have u5 := qcell C0.out.xu 5 (.int .i64 x.feather) rfl
  go_wp2_with fail
  (try rw [ws])
  clear u4 u5 ws
  go_loopw [32] (fun v wr => ∃ k : Nat, v = .int .i64 k ∧ k ≤ N ∧ Hid (CuAt base w p q f a n x (cutK f x ring first f.kinds k) wr)) (fun v _ => N - (intOf v).toNat)
  case atStart => exact ⟨0, rfl, Nat.zero_le _, C0⟩
  case round =>
    clear C0
    obtain ⟨k, rfl, hk, C0⟩ := hrel
    by_cases hkn : k < N
    · have t0 : decide ((k : Int) < (N : Int)) = true := by simp; omega
      have hk64 : (k : Int) + 1 ≤ 9223372036854775807 := by have := HN.out; omega
      have wf : wrap64 (fr + (k : Int)) = fr + (k : Int) := by have := FR.out; have := HN.out; unfold wrap64; omega
      have HK64 := Lib.hid hk64
      clear hk64
      have XF := Lib.hid C0.out.xf
      have IL := Lib.hid (index_lt HV.out HRG.out (fr + (k : Int)))
      go_upto_region 5 with fail
      clear t0
      go_wp2_with (first | (refine wpList_load_row rfl 28 _ rfl p rfl 28 (f.cells a n) (0, 0) _ XF.out Tryz.underlying28 rfl (by exact qJF f a n) ?_) | fail)
      refine (index_any f a n ring (fr + (k : Int)) _ (by have := IV.out; omega) (by have := HRG.out; have := IV.out; omega)).mono ?_
      rintro e V4 ⟨rfl, b⟩
      replace C0 := Lib.hid (C0.out.below b)
      clear b XF wf
      obtain ⟨i, hi⟩ : ∃ i, Hid ((indexF f ring (fr + (k : Int))).toNat = i) := ⟨_, Lib.hid rfl⟩
      have HI : Hid (indexF f ring (fr + (k : Int)) = (i : Int)) := Lib.hid (by have := IL.out; have := hi.out; omega)
      have HL : Hid (i < f.kinds.length) := Lib.hid (by have := IL.out; have := hi.out; omega)
      rw [HI.out]
      obtain ⟨g, hg⟩ : ∃ g, a = some ⟨g, 0, none⟩ := by
        rcases C0.out.own.2 with ⟨h1, h2⟩ | ⟨g', cap, cur, h1, _⟩
        · have := HL.out; omega
        · simp only [Value.slice.injEq] at h1; exact ⟨g', h1.1⟩
      subst hg
      obtain ⟨l, hl⟩ : ∃ l, Hid (cutK f x ring first f.kinds k = l) := ⟨_, Lib.hid rfl⟩
      have LP := Lib.hid (cutK_succ f x ring first f.kinds k)
      rw [hfr.out, HI.out] at LP
      rw [hl.out] at C0 LP
      unfold putE at LP
      dsimp only at LP
      rw [Int.toNat_natCast] at LP
      have hlt : i < f.kinds.length := HL.out
      have C1 := Lib.hid (C0.out.put HL.out 1)
      obtain ⟨y, hy⟩ : ∃ y, Hid (l[i]?.getD 0 = y) := ⟨_, Lib.hid rfl⟩
      rw [hy.out] at LP C1
      have cc := C1.out.2.1
      have cf := C1.out.2.2
      have c3 := qcell C0.out.xf 3 (.slice (some ⟨g, 0, none⟩) f.kinds.length n) rfl
      cases he : (y == 0)
      · have HE : Hid (y ≠ 0) := Lib.hid (by simpa using he)
        go_upto_region 10 with fail
        have hk64 := HK64.out
        go_wp2_with fail
        go_roundw
        case rel => exact ⟨k + 1, by simp, by omega, Lib.hid (by rw [LP.out, if_neg HE.out]; exact C0.out)⟩
        case measure => simp [intOf]; omega
      · have HE : Hid (y = 0) := Lib.hid (by simpa using he)
        go_upto_region 8 with fail
        clear cc cf c3
        replace C0 := Lib.hid C1.out.1
        clear C1
        generalize wSet : V4.setCell ⟨g, i, none⟩ (.int .i64 1) = V5 at *
        clear wSet
        have C2 := Lib.hid (C0.out.put HL.out 2)
        have cc := C2.out.2.1
        have cf := C2.out.2.2
        have c3 := qcell C0.out.xf 3 (.slice (some ⟨g, 0, none⟩) f.kinds.length n) rfl
        have u4 := qcell C0.out.xu 4 (.int .i64 x.steep) rfl
        cases hs : decide (x.steep ≤ (k : Int))
        · have HS : Hid ((k : Int) < x.steep) := Lib.hid (by have := of_decide_eq_false hs; omega)
          go_upto_region 10 with fail
          have hk64 := HK64.out
          go_wp2_with fail
          go_roundw
          case rel => exact ⟨k + 1, by simp, by omega, Lib.hid (by rw [LP.out, if_pos HE.out, if_pos HS.out]; exact C0.out)⟩
          case measure => simp [intOf]; omega
        · have HS : Hid (¬ (k : Int) < x.steep) := Lib.hid (by have := of_decide_eq_true hs; omega)
          go_upto_region 10 with fail
          clear cc cf c3 u4
          replace C0 := Lib.hid C2.out.1
          rw [List.set_set] at C0
          clear C2
          generalize wSet : V5.setCell ⟨g, i, none⟩ (.int .i64 2) = V6 at *
          clear wSet
          have hk64 := HK64.out
          go_wp2_with fail
          go_roundw
          case rel => exact ⟨k + 1, by simp, by omega, Lib.hid (by rw [LP.out, if_pos HE.out, if_neg HS.out]; exact C0.out)⟩
          case measure => simp [intOf]; omega
    · have t0 : decide ((k : Int) < (N : Int)) = false := by simp; omega
      have e : k = N := by omega
      subst e
      go_wp2_with fail
      go_end0
      exact ⟨rfl, by rw [hN.out]; exact C0.out.own, C0.out.kept⟩
end Go.Proofs.YtimmadkbkimonaaGreatDoor
namespace Go.Proofs.YtimmadkbkimonaaGreatDoor
set_option linter.unusedSimpArgs false
set_option linter.unusedVariables false
open Go.RowKit

def OwnI (w W : World) (a : Option Addr) (N n : Nat) (l : List Int) : Prop := W.ownsRow w.heap.size 3 1 (.slice a N n) N (l.map intV)
theorem OwnI.below {w W W' : World} {a : Option Addr} {N n : Nat} {l : List Int} (h : OwnI w W a N n l) (hb : Below W.heap.size W W') : OwnI w W' a N n l := own_below h hb
theorem OwnI.mono {w V W : World} {a : Option Addr} {N n : Nat} {l : List Int} (h : OwnI V W a N n l) (hb : w.heap.size ≤ V.heap.size) : OwnI w W a N n l := own_mono h hb
theorem OwnI.kept {w W W' : World} {a : Option Addr} {N n p : Nat} {l : List Int} {A : Array Value} {t : TypeId} (h : OwnI w W a N n l) (hg : W.grownBy W' (some p)) (hp : W.heap[p]? = some (.cells A t (0, 0))) (ht : t ≠ 3) : OwnI w W' a N n l :=
  World.ownsRow.kept h hg (.inr (qown_no h hp (fun cur e => ht (by cases e; rfl))).symm)
theorem OwnI.len {w W : World} {a : Option Addr} {N n : Nat} {l : List Int} (h : OwnI w W a N n l) : l.length = N := by have := h.1; simpa using this
theorem OwnI.rd {w W : World} {a : Option Addr} {N n : Nat} {l : List Int} (h : OwnI w W a N n l) : RdI W a N n l := RdA.of_own h
theorem OwnI.at {w W : World} {a : Option Addr} {N n i : Nat} {l : List Int} (h : OwnI w W a N n l) (hi : i < N) : ∃ g, a = some ⟨g, 0, none⟩ := by
  rcases h.2 with ⟨h1, h2⟩ | ⟨g', cap, cur, h1, _⟩
  · omega
  · simp only [Value.slice.injEq] at h1; exact ⟨g', h1.1⟩
theorem OwnI.put {w W : World} {g N n i : Nat} {l : List Int} (h : OwnI w W (some ⟨g, 0, none⟩) N n l) (hi : i < N) (v : Int) (hw : w.heap.size ≤ W.heap.size) :
    OwnI w (W.setCell ⟨g, i, none⟩ (.int .i64 v)) (some ⟨g, 0, none⟩) N n (l.set i v) ∧ W.cell? ⟨g, i, none⟩ = some (.int .i64 (l[i]?.getD 0)) ∧ W.frozen? ⟨g, i, none⟩ = false ∧ KeptBut w.heap.size W (W.setCell ⟨g, i, none⟩ (.int .i64 v)) := by
  obtain ⟨cur, hc⟩ := own_block h
  obtain ⟨o1, o2, o3, o4⟩ := own_put h hi v
  exact ⟨o1, o2, o3, kept_put hc o4 hw⟩
end Go.Proofs.YtimmadkbkimonaaGreatDoor
namespace Go.Proofs.YtimmadkbkimonaaGreatDoor
set_option linter.unusedSimpArgs false
set_option linter.unusedVariables false
open Go.RowKit

def strLen : Value → Nat | .string b => b.size | _ => 0
theorem own_iter {w W : World} {f : FaceV} {a : Option Addr} {n k : Nat} {s : ByteArray} {pos : Nat} (h : FOwn w W f a n) (hk : W.heap[k]? = some (.stringIter s pos)) (pos' : Nat) : FOwn w (W.iterAt k s pos') f a n := by
  obtain ⟨h1, h2⟩ := h
  refine ⟨h1, ?_⟩
  rcases h2 with h2 | ⟨g, cap, cur, hv, hb, hg, hr⟩
  · exact .inl h2
  · refine .inr ⟨g, cap, cur, hv, hb, (Lib.iterAt_other W k g s pos' ?_).trans hg, hr⟩
    intro e
    rw [e, hk] at hg
    cases hg
def kG (G : FaceV) (line : ByteArray) (i : Nat) : FaceV := { G with kinds := G.kinds ++ (line.data.toList.take i).map kindOf }
theorem kG_zero (G : FaceV) (line : ByteArray) : kG G line 0 = G := by unfold kG; rw [List.take_zero, List.map_nil, List.append_nil]
theorem kG_all (G : FaceV) (line : ByteArray) : kG G line line.size = { G with kinds := G.kinds ++ line.data.toList.map kindOf } := by
  unfold kG
  rw [show line.size = line.data.toList.length from rfl, List.take_length]
theorem kG_step {G : FaceV} {line : ByteArray} {i : Nat} {b : UInt8} (hb : line.data.toList[i]? = some b) : kG G line (i + 1) = { kG G line i with kinds := (kG G line i).kinds ++ [kindOf b] } := by
  unfold kG
  rw [List.take_add_one, hb, List.map_append]
  simp [List.append_assoc]
theorem kG_len (G : FaceV) (line : ByteArray) (i : Nat) : (kG G line i).kinds.length ≤ G.kinds.length + line.size := by
  unfold kG
  have e : line.size = line.data.toList.length := rfl
  dsimp only
  rw [List.length_append, List.length_map, List.length_take]
  omega
theorem hdrF_kinds (s : ByteArray) : (hdrF s).1.kinds = [] := by
  unfold hdrF
  split
  · rfl
  · rfl
theorem parseGo_end {m L : Nat} {G : FaceV} {l : List UInt8} (hm : l.length < m) (hl : l = []) : parseGo m L G l = endP L G := by
  cases m with
  | zero => omega
  | succ m => unfold parseGo; rw [if_pos hl]
theorem parseGo_head {m : Nat} {G : FaceV} {l line rest : List UInt8} {ended : Bool} (hm : l.length < m) (hl : l ≠ []) (hc : cutL l = (line, rest, ended)) : parseGo m 0 G l = match headP line with
    | none => (zeroF, 11, 1)
    | some g => if ended = true then parseGo (m - 1) 1 g rest else (zeroF, 11, 1) := by
  cases m with
  | zero => omega
  | succ m =>
    conv => lhs; unfold parseGo
    rw [if_neg hl, if_pos rfl, hc]
    rfl
theorem parseGo_row {m L : Nat} {G : FaceV} {l line rest : List UInt8} {ended : Bool} (hm : l.length < m) (hl : l ≠ []) (h0 : L ≠ 0) (hc : cutL l = (line, rest, ended)) : parseGo m L G l = if rowB L G line = true ∧ ended = true then parseGo (m - 1) (L + 1) { G with kinds := G.kinds ++ line.map kindOf } rest else (zeroF, 11, (L : Int) + 1) := by
  cases m with
  | zero => omega
  | succ m =>
    conv => lhs; unfold parseGo
    rw [if_neg hl, if_neg h0, hc]
    rfl
set_option maxHeartbeats 8000000 in
set_option maxRecDepth 100000 in
theorem parse_any (s : ByteArray) (w : World) (hs : s.size ≤ 1000000) (he : EnvW w) : Calls Tryz.prog 20 #[.string s] w fun e w' => (∃ a n, e = .returned (.tuple #[.agg ((parseP s.data.toList).1.cells a n), .int .i64 (parseP s.data.toList).2.1, .int .i64 (parseP s.data.toList).2.2]) ∧ FOwn w w' (parseP s.data.toList).1 a n) ∧ Below w.heap.size w w' := by
  have EV := Lib.hid (fun W (hb : Below w.heap.size w W) => he.below hb)
  have HS := Lib.hid hs
  have SL : Hid (s.data.toList.length = s.size) := Lib.hid rfl
  clear he hs
  have AL := Lib.hid (al1 w (.cells #[.int .i64 0, .int .i64 0, .int .i64 0, .slice none 0 0] 28))
  go_enter Tryz.func20, Tryz.ntmps20
  go_upto_region 1 with fail
  obtain ⟨z, hz⟩ : ∃ z, Hid (w.heap.size = z) := ⟨_, Lib.hid rfl⟩
  rw [hz.out] at AL ⊢
  generalize (w.alloc (.cells #[.int .i64 0, .int .i64 0, .int .i64 0, .slice none 0 0] 28)) = W0 at *
  have BF : Hid (Below w.heap.size w W0) := Lib.hid (by rw [hz.out]; exact AL.out.1)
  have XZ : Hid (W0.heap[z]? = some (.cells (zeroF.cells none 0) 28 (0, 0))) := Lib.hid AL.out.2
  clear AL
  by_cases hl : 65536 < s.size
  · have t0 : decide ((65536 : Int) < (s.size : Int)) = true := by simp; omega
    have PE : Hid (parseP s.data.toList = (zeroF, 2, 0)) := Lib.hid (by unfold parseP; rw [if_pos (by rw [SL.out]; exact hl)])
    have NG : Hid (True ∧ True ∧ w.heap.size ≤ z ∧ True) := Lib.hid ⟨trivial, trivial, by have := hz.out; omega, trivial⟩
    clear hl
    go_wp2_with (first
      | (refine wpList_qstore rfl 28 _ _ rfl z (zeroF.cells none 0) (zeroF.cells none 0) 28 rfl rfl XZ.out (by exact qJF zeroF none 0) rfl (qone zeroF none 0) ?_; intro VZ hzz hgz; replace BF := Lib.hid (qstep BF.out hgz NG.out.2.2.1); replace XZ := Lib.hid hzz; clear hzz hgz)
      | fail)
    (try simp only [Exit.inBlock, Exit.then])
    refine bodyPost_ret (results_ctt rfl _ VZ z 28 (zeroF.cells none 0) (0, 0) _ rfl XZ.out Tryz.underlying28 rfl (by exact qJF zeroF none 0)) rfl ?_
    refine ⟨⟨none, 0, ?_, ?_⟩, BF.out⟩
    · rw [PE.out]; rfl
    · rw [PE.out]; exact FOwn.nil _ _
  · have t0 : decide ((65536 : Int) < (s.size : Int)) = false := by simp; omega
    have PE0 : Hid (parseP s.data.toList = parseGo (s.size + 1) 0 zeroF s.data.toList) := Lib.hid (by unfold parseP; rw [if_neg (by rw [SL.out]; exact hl), SL.out])
    have HL : Hid (s.size ≤ 65536) := Lib.hid (by omega)
    clear hl
    go_upto_region 3 with fail
    clear t0
    go_upto_region 5 with fail
    have AL := al1 W0 (.cells #[.int .i64 0, .int .i64 0, .int .i64 0, .slice none 0 0] 28)
    obtain ⟨p, hp⟩ : ∃ x, Hid (W0.heap.size = x) := ⟨_, Lib.hid rfl⟩
    have NG : Hid (z ≠ p ∧ w.heap.size ≤ p ∧ w.heap.size ≤ z ∧ z < p) := Lib.hid (by have h1 := hz.out; have h2 := hp.out; have h3 := qlt XZ.out; have h4 := BF.out.size; omega)
    replace BF := Lib.hid (BF.out.trans (AL.1.mono BF.out.size))
    replace XZ := Lib.hid (qblk AL.1 XZ.out)
    have XP := Lib.hid AL.2
    rw [hp.out] at XP ⊢
    clear AL
    generalize W0.alloc (.cells #[.int .i64 0, .int .i64 0, .int .i64 0, .slice none 0 0] 28) = W1 at *
    replace XP := Lib.hid (show W1.heap[p]? = some (.cells (zeroF.cells none 0) 28 (0, 0)) from XP.out)
    have FO : Hid (FOwn w W1 zeroF none 0) := Lib.hid (FOwn.nil _ _)
    go_wp2_with fail
    generalize W1 = Y1 at *
    go_loopw [6, 7] (fun v6 v7 wr => ∃ (L : Nat) (rs : ByteArray) (G : FaceV) (ga : Option Addr) (gn m : Nat), v6 = .int .i64 (L : Int) ∧ v7 = .string rs ∧ L + rs.size ≤ s.size ∧ (L = 0 → G = zeroF ∧ ga = none ∧ gn = 0) ∧ rs.size < m ∧ G.kinds.length + rs.size ≤ s.size ∧ Hid (parseP s.data.toList = parseGo m L G rs.data.toList) ∧ Hid (Below w.heap.size w wr) ∧ Hid (wr.heap[z]? = some (.cells (zeroF.cells none 0) 28 (0, 0))) ∧ Hid (wr.heap[p]? = some (.cells (G.cells ga gn) 28 (0, 0))) ∧ Hid (FOwn w wr G ga gn)) (fun _ v _ => strLen v)
    case atStart => exact ⟨0, s, zeroF, none, 0, s.size + 1, rfl, rfl, by omega, fun _ => ⟨rfl, rfl, rfl⟩, by omega, by show 0 + s.size ≤ s.size; omega, PE0, BF, XZ, XP, FO⟩
    case round =>
      clear BF XZ XP FO PE0
      obtain ⟨L, rs, G, ga, gn, m, rfl, rfl, q1, q2, q3, q4, PE0, BF, XZ, XP, FO⟩ := hrel
      have Q1 := Lib.hid q1
      have Q2 := Lib.hid q2
      have Q3 := Lib.hid q3
      have Q4 := Lib.hid q4
      have RZ : Hid (rs.data.toList.length = rs.size) := Lib.hid rfl
      clear q1 q2 q3 q4
      have hk64 : (L : Int) + 1 ≤ 9223372036854775807 := by have h1 := Q1.out; have h2 := HS.out; omega
      by_cases hr : rs.size = 0
      · have HN : Hid (rs.data.toList = []) := Lib.hid (List.eq_nil_of_length_eq_zero hr)
        have sn : (rs.toList == ([] : List UInt8)) = true := by rw [ByteArray.toList_eq, HN.out]; rfl
        rw [parseGo_end (by rw [RZ.out]; exact Q3.out) HN.out] at PE0
        clear hr
        have c1 := qcell XP.out 1 (.int .i64 G.rings) rfl
        by_cases h0 : L = 0
        · have tL : ((L : Int) == 0) = true := by rw [beq_iff_eq]; omega
          have PE : Hid (parseP s.data.toList = (zeroF, 11, 1)) := Lib.hid (by rw [PE0.out]; unfold endP; rw [if_pos (.inl h0), h0]; rfl)
          go_wp2_with (first
            | (refine wpList_qstore rfl 28 _ _ rfl z (zeroF.cells none 0) (zeroF.cells none 0) 28 rfl rfl XZ.out (by exact qJF zeroF none 0) rfl (qone zeroF none 0) ?_; intro VZ hzz hgz; replace BF := Lib.hid (qstep BF.out hgz NG.out.2.2.1); replace XZ := Lib.hid hzz; clear hzz hgz)
            | fail)
          (try simp only [Exit.inBlock, Exit.then])
          refine bodyPost_ret (results_ctt rfl _ VZ z 28 (zeroF.cells none 0) (0, 0) _ rfl XZ.out Tryz.underlying28 rfl (by exact qJF zeroF none 0)) rfl ?_
          refine ⟨⟨none, 0, ?_, ?_⟩, BF.out⟩
          · rw [PE.out]; rfl
          · rw [PE.out]; exact FOwn.nil _ _
        · have tL : ((L : Int) == 0) = false := by rw [beq_eq_false_iff_ne]; omega
          by_cases h1 : (L : Int) ≤ G.rings
          · have tR : decide ((L : Int) ≤ G.rings) = true := decide_eq_true h1
            have PE : Hid (parseP s.data.toList = (zeroF, 11, (L : Int) + 1)) := Lib.hid (by rw [PE0.out]; unfold endP; rw [if_pos (.inr h1)])
            go_wp2_with (first
              | (refine wpList_qstore rfl 28 _ _ rfl z (zeroF.cells none 0) (zeroF.cells none 0) 28 rfl rfl XZ.out (by exact qJF zeroF none 0) rfl (qone zeroF none 0) ?_; intro VZ hzz hgz; replace BF := Lib.hid (qstep BF.out hgz NG.out.2.2.1); replace XZ := Lib.hid hzz; clear hzz hgz)
              | fail)
            (try simp only [Exit.inBlock, Exit.then])
            refine bodyPost_ret (results_ctt rfl _ VZ z 28 (zeroF.cells none 0) (0, 0) _ rfl XZ.out Tryz.underlying28 rfl (by exact qJF zeroF none 0)) rfl ?_
            refine ⟨⟨none, 0, ?_, ?_⟩, BF.out⟩
            · rw [PE.out]; rfl
            · rw [PE.out]; exact FOwn.nil _ _
          · have tR : decide ((L : Int) ≤ G.rings) = false := decide_eq_false h1
            have PE : Hid (parseP s.data.toList = (G, 0, 0)) := Lib.hid (by rw [PE0.out]; unfold endP; rw [if_neg (fun h => h.elim h0 h1)])
            go_wp2_with (first
              | (refine wpList_load_row rfl 28 _ rfl p rfl 28 (G.cells ga gn) (0, 0) _ XP.out Tryz.underlying28 rfl (by exact (qJF G ga gn)) ?_)
              | (refine wpList_qstore rfl 28 _ _ rfl z (zeroF.cells none 0) (G.cells ga gn) 28 rfl rfl XZ.out (by exact qJF G ga gn) rfl (qone G ga gn) ?_; intro VZ hzz hgz; replace FO := Lib.hid (FO.out.kept hgz XZ.out); replace BF := Lib.hid (qstep BF.out hgz NG.out.2.2.1); replace XZ := Lib.hid hzz; clear hzz hgz)
              | fail)
            (try simp only [Exit.inBlock, Exit.then])
            refine bodyPost_ret (results_ctt rfl _ VZ z 28 (G.cells ga gn) (0, 0) _ rfl XZ.out Tryz.underlying28 rfl (by exact qJF G ga gn)) rfl ?_
            rw [PE.out]
            exact ⟨⟨ga, gn, rfl, FO.out⟩, BF.out⟩
      · have HNE : Hid (rs.data.toList ≠ []) := Lib.hid (fun e => hr (by have := congrArg List.length e; rw [RZ.out] at this; exact this))
        have sn : (rs.toList == ([] : List UInt8)) = false := by
          rw [ByteArray.toList_eq]
          cases e : rs.data.toList with
          | nil => exact absurd e HNE.out
          | cons a b => rfl
        have RP : Hid (0 < rs.size) := Lib.hid (by omega)
        clear hr
        go_upto_region 8 with fail
        clear sn
        obtain ⟨mm, hm⟩ := (EV.out wr BF.out).1
        obtain ⟨line, rest, ended, hcl⟩ : ∃ (line rest : ByteArray) (ended : Bool), cutL rs.data.toList = (line.data.toList, rest.data.toList, ended) := ⟨⟨(cutL rs.data.toList).1.toArray⟩, ⟨(cutL rs.data.toList).2.1.toArray⟩, (cutL rs.data.toList).2.2, rfl⟩
        have HCL := Lib.hid hcl
        have HC : Hid (Lib.cut rs.data.toList [10] = (line.data.toList, rest.data.toList, ended)) := Lib.hid ((cut_eq _).trans hcl)
        have LS : Hid (line.size ≤ rs.size ∧ line.size ≤ 100000) := Lib.hid (by
          have h1 := (cut_size rs.data.toList).1
          rw [hcl] at h1
          have e1 : line.data.toList.length = line.size := rfl
          have h2 := Q1.out
          have h3 := HL.out
          dsimp only at h1
          rw [e1, RZ.out] at h1
          omega)
        have RS : Hid (ended = true → line.size + 1 + rest.size = rs.size) := Lib.hid (fun h => by
          have h1 := cut_ended rs.data.toList (by rw [hcl]; exact h)
          rw [hcl] at h1
          have h2 := congrArg List.length h1
          dsimp only at h2
          rw [List.length_append, List.length_cons, RZ.out] at h2
          have e1 : line.data.toList.length = line.size := rfl
          have e2 : rest.data.toList.length = rest.size := rfl
          omega)
        clear hcl
        go_wp2_with fail
        refine (sh_strings_Cut rs ⟨#[10]⟩ mm wr (by have h1 := Q1.out; have h2 := HL.out; omega) hm).mono ?_
        rintro e V1 ⟨rfl, q9, rfl⟩
        clear hm
        have b : Below wr.heap.size wr (wr.drewN q9) := ⟨rfl, rfl, rfl, Nat.le_refl _, fun _ _ => rfl⟩
        replace BF := Lib.hid (BF.out.trans (b.mono BF.out.size))
        replace XZ := Lib.hid (qblk b XZ.out)
        replace XP := Lib.hid (qblk b XP.out)
        replace FO := Lib.hid (FO.out.below b)
        clear b
        generalize wr.drewN q9 = V1 at *
        rw [HC.out]
        clear HC
        by_cases h0 : L = 0
        · subst h0
          obtain ⟨g1, g2, g3⟩ := Q2.out rfl
          subst g1 g2 g3
          have c1 := qcell XP.out 1 (.int .i64 0) rfl
          have c2 := qcell XP.out 2 (.int .i64 0) rfl
          by_cases hz0 : line.size = 0
          · have tl : ((line.size : Int) == 0) = true := by rw [beq_iff_eq]; omega
            go_wp2_with fail
            refine (sh_trim line _ (by have := LS.out; omega)).mono ?_
            rintro e V2 ⟨rfl, b⟩
            replace BF := Lib.hid (BF.out.trans (b.mono BF.out.size))
            replace XZ := Lib.hid (qblk b XZ.out)
            replace XP := Lib.hid (qblk b XP.out)
            replace FO := Lib.hid (FO.out.below b)
            clear b
            obtain ⟨tb, htb⟩ : ∃ x, Hid ((⟨(Lib.trimS line.data.toList [46, 115, 102]).toArray⟩ : ByteArray) = x) := ⟨_, Lib.hid rfl⟩
            have TB : Hid ((tb.toList == ([] : List UInt8)) = line.data.toList.all isSign) := Lib.hid (by rw [← htb.out, ByteArray.toList_eq]; exact trim_signs _)
            rw [htb.out]
            clear c1 c2
            rw [parseGo_head (by rw [RZ.out]; exact Q3.out) HNE.out HCL.out, hdr_head] at PE0
            go_upto_region 12 with fail
            (try clear c1 c2 tl)
            go_wp2_with fail
            refine (parseHeader_any line _ LS.out.2 (EV.out _ BF.out)).mono ?_
            rintro e V3 ⟨rfl, b⟩
            replace BF := Lib.hid (BF.out.trans (b.mono BF.out.size))
            replace XZ := Lib.hid (qblk b XZ.out)
            replace XP := Lib.hid (qblk b XP.out)
            replace FO := Lib.hid (FO.out.below b)
            clear b
            cases hh : (hdrF line).2
            · have PE : Hid (parseP s.data.toList = (zeroF, 11, 1)) := Lib.hid (by rw [PE0.out, hh, if_neg (by decide)]; try rfl)
              clear hh
              go_wp2_with (first
                | (refine wpList_qstore rfl 28 _ _ rfl p (zeroF.cells none 0) ((hdrF line).1.cells none 0) 28 rfl rfl XP.out (by exact qJF (hdrF line).1 none 0) rfl (qone (hdrF line).1 none 0) ?_; intro VP hzz hgz; replace BF := Lib.hid (qstep BF.out hgz NG.out.2.1); replace XZ := Lib.hid (qgrown hgz XZ.out (fun e => NG.out.1 (Option.some.inj e))); replace XP := Lib.hid hzz; clear hzz hgz)
                | (refine wpList_qstore rfl 28 _ _ rfl z (zeroF.cells none 0) (zeroF.cells none 0) 28 rfl rfl XZ.out (by exact qJF zeroF none 0) rfl (qone zeroF none 0) ?_; intro VZ hzz hgz; replace BF := Lib.hid (qstep BF.out hgz NG.out.2.2.1); replace XZ := Lib.hid hzz; clear hzz hgz)
                | fail)
              (try simp only [Exit.inBlock, Exit.then])
              refine bodyPost_ret (results_ctt rfl _ VZ z 28 (zeroF.cells none 0) (0, 0) _ rfl XZ.out Tryz.underlying28 rfl (by exact qJF zeroF none 0)) rfl ?_
              refine ⟨⟨none, 0, ?_, ?_⟩, BF.out⟩
              · rw [PE.out]; rfl
              · rw [PE.out]; exact FOwn.nil _ _
            · rw [hh, if_pos rfl] at PE0
              clear hh
              cases ended
              · have PE : Hid (parseP s.data.toList = (zeroF, 11, 1)) := Lib.hid (by rw [PE0.out]; rfl)
                go_wp2_with (first
                  | (refine wpList_qstore rfl 28 _ _ rfl p (zeroF.cells none 0) ((hdrF line).1.cells none 0) 28 rfl rfl XP.out (by exact qJF (hdrF line).1 none 0) rfl (qone (hdrF line).1 none 0) ?_; intro VP hzz hgz; replace BF := Lib.hid (qstep BF.out hgz NG.out.2.1); replace XZ := Lib.hid (qgrown hgz XZ.out (fun e => NG.out.1 (Option.some.inj e))); replace XP := Lib.hid hzz; clear hzz hgz)
                  | (refine wpList_qstore rfl 28 _ _ rfl z (zeroF.cells none 0) (zeroF.cells none 0) 28 rfl rfl XZ.out (by exact qJF zeroF none 0) rfl (qone zeroF none 0) ?_; intro VZ hzz hgz; replace BF := Lib.hid (qstep BF.out hgz NG.out.2.2.1); replace XZ := Lib.hid hzz; clear hzz hgz)
                  | fail)
                (try simp only [Exit.inBlock, Exit.then])
                refine bodyPost_ret (results_ctt rfl _ VZ z 28 (zeroF.cells none 0) (0, 0) _ rfl XZ.out Tryz.underlying28 rfl (by exact qJF zeroF none 0)) rfl ?_
                refine ⟨⟨none, 0, ?_, ?_⟩, BF.out⟩
                · rw [PE.out]; rfl
                · rw [PE.out]; exact FOwn.nil _ _
              · have PE : Hid (parseP s.data.toList = parseGo (m - 1) 1 (hdrF line).1 rest.data.toList) := Lib.hid (by rw [PE0.out]; rfl)
                go_wp2_with (first
                  | (refine wpList_qstore rfl 28 _ _ rfl p (zeroF.cells none 0) ((hdrF line).1.cells none 0) 28 rfl rfl XP.out (by exact qJF (hdrF line).1 none 0) rfl (qone (hdrF line).1 none 0) ?_; intro VP hzz hgz; replace BF := Lib.hid (qstep BF.out hgz NG.out.2.1); replace XZ := Lib.hid (qgrown hgz XZ.out (fun e => NG.out.1 (Option.some.inj e))); replace XP := Lib.hid hzz; clear hzz hgz)
                  | fail)
                have KE := Lib.hid (hdrF_kinds line)
                go_roundw
                case rel => exact ⟨1, rest, (hdrF line).1, none, 0, m - 1, by simp, rfl, by have h1 := LS.out; have h2 := Q1.out; have h3 := RS.out (by trivial); omega, fun h => absurd h (by decide), by have h1 := RS.out (by trivial); have h2 := Q3.out; omega, by rw [KE.out]; have h1 := LS.out; have h2 := Q1.out; have h3 := RS.out (by trivial); simp; omega, PE, BF, XZ, XP, Lib.hid (by unfold FOwn; rw [KE.out]; exact World.ownsRow_nil _ _ _ _)⟩
                case measure => have h1 := RS.out (by trivial); have e9 : (⟨rest.data⟩ : ByteArray).size = rest.size := rfl; simp [strLen]; omega
          · have tl : ((line.size : Int) == 0) = false := by rw [beq_eq_false_iff_ne]; omega
            rw [parseGo_head (by rw [RZ.out]; exact Q3.out) HNE.out HCL.out, hdr_head] at PE0
            go_upto_region 12 with fail
            (try clear c1 c2 tl)
            go_wp2_with fail
            refine (parseHeader_any line _ LS.out.2 (EV.out _ BF.out)).mono ?_
            rintro e V3 ⟨rfl, b⟩
            replace BF := Lib.hid (BF.out.trans (b.mono BF.out.size))
            replace XZ := Lib.hid (qblk b XZ.out)
            replace XP := Lib.hid (qblk b XP.out)
            replace FO := Lib.hid (FO.out.below b)
            clear b
            cases hh : (hdrF line).2
            · have PE : Hid (parseP s.data.toList = (zeroF, 11, 1)) := Lib.hid (by rw [PE0.out, hh, if_neg (by decide)]; try rfl)
              clear hh
              go_wp2_with (first
                | (refine wpList_qstore rfl 28 _ _ rfl p (zeroF.cells none 0) ((hdrF line).1.cells none 0) 28 rfl rfl XP.out (by exact qJF (hdrF line).1 none 0) rfl (qone (hdrF line).1 none 0) ?_; intro VP hzz hgz; replace BF := Lib.hid (qstep BF.out hgz NG.out.2.1); replace XZ := Lib.hid (qgrown hgz XZ.out (fun e => NG.out.1 (Option.some.inj e))); replace XP := Lib.hid hzz; clear hzz hgz)
                | (refine wpList_qstore rfl 28 _ _ rfl z (zeroF.cells none 0) (zeroF.cells none 0) 28 rfl rfl XZ.out (by exact qJF zeroF none 0) rfl (qone zeroF none 0) ?_; intro VZ hzz hgz; replace BF := Lib.hid (qstep BF.out hgz NG.out.2.2.1); replace XZ := Lib.hid hzz; clear hzz hgz)
                | fail)
              (try simp only [Exit.inBlock, Exit.then])
              refine bodyPost_ret (results_ctt rfl _ VZ z 28 (zeroF.cells none 0) (0, 0) _ rfl XZ.out Tryz.underlying28 rfl (by exact qJF zeroF none 0)) rfl ?_
              refine ⟨⟨none, 0, ?_, ?_⟩, BF.out⟩
              · rw [PE.out]; rfl
              · rw [PE.out]; exact FOwn.nil _ _
            · rw [hh, if_pos rfl] at PE0
              clear hh
              cases ended
              · have PE : Hid (parseP s.data.toList = (zeroF, 11, 1)) := Lib.hid (by rw [PE0.out]; rfl)
                go_wp2_with (first
                  | (refine wpList_qstore rfl 28 _ _ rfl p (zeroF.cells none 0) ((hdrF line).1.cells none 0) 28 rfl rfl XP.out (by exact qJF (hdrF line).1 none 0) rfl (qone (hdrF line).1 none 0) ?_; intro VP hzz hgz; replace BF := Lib.hid (qstep BF.out hgz NG.out.2.1); replace XZ := Lib.hid (qgrown hgz XZ.out (fun e => NG.out.1 (Option.some.inj e))); replace XP := Lib.hid hzz; clear hzz hgz)
                  | (refine wpList_qstore rfl 28 _ _ rfl z (zeroF.cells none 0) (zeroF.cells none 0) 28 rfl rfl XZ.out (by exact qJF zeroF none 0) rfl (qone zeroF none 0) ?_; intro VZ hzz hgz; replace BF := Lib.hid (qstep BF.out hgz NG.out.2.2.1); replace XZ := Lib.hid hzz; clear hzz hgz)
                  | fail)
                (try simp only [Exit.inBlock, Exit.then])
                refine bodyPost_ret (results_ctt rfl _ VZ z 28 (zeroF.cells none 0) (0, 0) _ rfl XZ.out Tryz.underlying28 rfl (by exact qJF zeroF none 0)) rfl ?_
                refine ⟨⟨none, 0, ?_, ?_⟩, BF.out⟩
                · rw [PE.out]; rfl
                · rw [PE.out]; exact FOwn.nil _ _
              · have PE : Hid (parseP s.data.toList = parseGo (m - 1) 1 (hdrF line).1 rest.data.toList) := Lib.hid (by rw [PE0.out]; rfl)
                go_wp2_with (first
                  | (refine wpList_qstore rfl 28 _ _ rfl p (zeroF.cells none 0) ((hdrF line).1.cells none 0) 28 rfl rfl XP.out (by exact qJF (hdrF line).1 none 0) rfl (qone (hdrF line).1 none 0) ?_; intro VP hzz hgz; replace BF := Lib.hid (qstep BF.out hgz NG.out.2.1); replace XZ := Lib.hid (qgrown hgz XZ.out (fun e => NG.out.1 (Option.some.inj e))); replace XP := Lib.hid hzz; clear hzz hgz)
                  | fail)
                have KE := Lib.hid (hdrF_kinds line)
                go_roundw
                case rel => exact ⟨1, rest, (hdrF line).1, none, 0, m - 1, by simp, rfl, by have h1 := LS.out; have h2 := Q1.out; have h3 := RS.out (by trivial); omega, fun h => absurd h (by decide), by have h1 := RS.out (by trivial); have h2 := Q3.out; omega, by rw [KE.out]; have h1 := LS.out; have h2 := Q1.out; have h3 := RS.out (by trivial); simp; omega, PE, BF, XZ, XP, Lib.hid (by unfold FOwn; rw [KE.out]; exact World.ownsRow_nil _ _ _ _)⟩
                case measure => have h1 := RS.out (by trivial); have e9 : (⟨rest.data⟩ : ByteArray).size = rest.size := rfl; simp [strLen]; omega
        · have tL : ((L : Int) == 0) = false := by rw [beq_eq_false_iff_ne]; omega
          have c1 := qcell XP.out 1 (.int .i64 G.rings) rfl
          have c2 := qcell XP.out 2 (.int .i64 G.sectors) rfl
          rw [parseGo_row (by rw [RZ.out]; exact Q3.out) HNE.out h0 HCL.out] at PE0
          by_cases b1 : (L : Int) ≤ G.rings
          · have tR : decide ((L : Int) ≤ G.rings) = true := decide_eq_true b1
            by_cases b2 : (line.size : Int) = G.sectors
            · have tS : ((line.size : Int) == G.sectors) = true := by rw [beq_iff_eq]; exact b2
              go_wp2_with fail
              refine (sh_trim line _ (by have := LS.out; omega)).mono ?_
              rintro e V2 ⟨rfl, b⟩
              replace BF := Lib.hid (BF.out.trans (b.mono BF.out.size))
              replace XZ := Lib.hid (qblk b XZ.out)
              replace XP := Lib.hid (qblk b XP.out)
              replace FO := Lib.hid (FO.out.below b)
              clear b
              obtain ⟨tb, htb⟩ : ∃ x, Hid ((⟨(Lib.trimS line.data.toList [46, 115, 102]).toArray⟩ : ByteArray) = x) := ⟨_, Lib.hid rfl⟩
              have TB : Hid ((tb.toList == ([] : List UInt8)) = line.data.toList.all isSign) := Lib.hid (by rw [← htb.out, ByteArray.toList_eq]; exact trim_signs _)
              rw [htb.out]
              clear c1 c2
              cases ha9 : line.data.toList.all isSign
              · have tb9 : (tb.toList == ([] : List UInt8)) = false := by rw [TB.out]; exact ha9
                have PE : Hid (parseP s.data.toList = (zeroF, 11, (L : Int) + 1)) := Lib.hid (by rw [PE0.out, if_neg (fun h => by have := h.1; unfold rowB at this; rw [ha9] at this; simp at this)])
                go_wp2_with (first
                  | (refine wpList_qstore rfl 28 _ _ rfl z (zeroF.cells none 0) (zeroF.cells none 0) 28 rfl rfl XZ.out (by exact qJF zeroF none 0) rfl (qone zeroF none 0) ?_; intro VZ hzz hgz; replace BF := Lib.hid (qstep BF.out hgz NG.out.2.2.1); replace XZ := Lib.hid hzz; clear hzz hgz)
                  | fail)
                (try simp only [Exit.inBlock, Exit.then])
                refine bodyPost_ret (results_ctt rfl _ VZ z 28 (zeroF.cells none 0) (0, 0) _ rfl XZ.out Tryz.underlying28 rfl (by exact qJF zeroF none 0)) rfl ?_
                refine ⟨⟨none, 0, ?_, ?_⟩, BF.out⟩
                · rw [PE.out]; rfl
                · rw [PE.out]; exact FOwn.nil _ _
              · have ALL := Lib.hid ha9
                have tb9 : (tb.toList == ([] : List UInt8)) = true := by rw [TB.out]; exact ha9
                cases ended
                · have PE : Hid (parseP s.data.toList = (zeroF, 11, (L : Int) + 1)) := Lib.hid (by rw [PE0.out, if_neg (fun h => by cases h.2)])
                  go_wp2_with (first
                    | (refine wpList_qstore rfl 28 _ _ rfl z (zeroF.cells none 0) (zeroF.cells none 0) 28 rfl rfl XZ.out (by exact qJF zeroF none 0) rfl (qone zeroF none 0) ?_; intro VZ hzz hgz; replace BF := Lib.hid (qstep BF.out hgz NG.out.2.2.1); replace XZ := Lib.hid hzz; clear hzz hgz)
                    | fail)
                  (try simp only [Exit.inBlock, Exit.then])
                  refine bodyPost_ret (results_ctt rfl _ VZ z 28 (zeroF.cells none 0) (0, 0) _ rfl XZ.out Tryz.underlying28 rfl (by exact qJF zeroF none 0)) rfl ?_
                  refine ⟨⟨none, 0, ?_, ?_⟩, BF.out⟩
                  · rw [PE.out]; rfl
                  · rw [PE.out]; exact FOwn.nil _ _
                · have RB : rowB L G line.data.toList = true := by
                    unfold rowB
                    rw [ha9, decide_eq_true b1, decide_eq_true (show ((line.data.toList.length : Nat) : Int) = G.sectors from b2)]
                    rfl
                  have PE : Hid (parseP s.data.toList = parseGo (m - 1) (L + 1) { G with kinds := G.kinds ++ line.data.toList.map kindOf } rest.data.toList) := Lib.hid (PE0.out.trans (if_pos ⟨RB, rfl⟩))
                  clear RB
                  clear ha9
                  obtain ⟨kk, hkk⟩ : ∃ k, Hid (V2.heap.size = k) := ⟨_, Lib.hid rfl⟩
                  have b : Below V2.heap.size V2 (V2.iter line 0) := zB V2 (.stringIter line 0)
                  have IT : Hid ((V2.iter line 0).heap[kk]? = some (.stringIter line 0)) := Lib.hid (by rw [← hkk.out]; exact World.iter_heap V2 line 0)
                  have KK : Hid (w.heap.size ≤ kk ∧ z ≠ kk ∧ p ≠ kk) := Lib.hid (by have h1 := hkk.out; have h2 := qlt XZ.out; have h3 := qlt XP.out; have h4 := BF.out.size; omega)
                  go_wp2_with fail
                  rw [hkk.out]
                  replace BF := Lib.hid (BF.out.trans (b.mono BF.out.size))
                  replace XZ := Lib.hid (qblk b XZ.out)
                  replace XP := Lib.hid (qblk b XP.out)
                  replace FO := Lib.hid (FO.out.below b)
                  clear b
                  generalize V2.iter line 0 = Y2 at *
                  rw [← kG_zero G line] at XP FO
                  go_loopw [] (fun wr => ∃ (i : Nat) (ha : Option Addr) (hn : Nat), i ≤ line.size ∧ Hid (wr.heap[kk]? = some (.stringIter line i)) ∧ Hid (Below w.heap.size w wr) ∧ Hid (wr.heap[z]? = some (.cells (zeroF.cells none 0) 28 (0, 0))) ∧ Hid (wr.heap[p]? = some (.cells ((kG G line i).cells ha hn) 28 (0, 0))) ∧ Hid (FOwn w wr (kG G line i) ha hn)) (fun wr => line.size - wr.iterPos kk)
                  case atStart => exact ⟨0, ga, gn, Nat.zero_le _, IT, BF, XZ, XP, FO⟩
                  case round =>
                    clear IT BF XZ XP FO
                    obtain ⟨i, ha, hn, hi, IT, BF, XZ, XP, FO⟩ := hrel
                    by_cases hil : i < line.size
                    · have IT0 := IT
                      have HIL := Lib.hid hil
                      obtain ⟨bb, hbb⟩ : ∃ b, Hid (line[i]'hil = b) := ⟨_, Lib.hid rfl⟩
                      have HB : Hid (line.data.toList[i]? = some bb) := Lib.hid (by rw [← hbb.out]; exact Lib.data_getElem? line i hil)
                      have SG : Hid (isSign bb = true) := Lib.hid (List.all_eq_true.1 ALL.out bb (List.mem_of_getElem? HB.out))
                      have HLT : Hid (bb.toNat < 128) := Lib.hid (by
                        have h := SG.out
                        unfold isSign at h
                        simp only [Bool.or_eq_true, beq_iff_eq] at h
                        rcases h with h | h | h <;> subst h <;> decide)
                      have hnx : ∀ ty, (Instr.next (.pointer (some ⟨kk, 0, none⟩)) true ty).run Tryz.prog wr = _ := fun ty => Lib.run_next_ascii_at wr kk line i ty IT.out hil (by rw [hbb.out]; exact HLT.out)
                      go_upto_region 19 with fail
                      clear hnx
                      replace BF := Lib.hid (Lib.below_iterAt BF.out KK.out.1 line (i + 1))
                      replace XZ := Lib.hid ((Lib.iterAt_other wr kk z line (i + 1) KK.out.2.1).trans XZ.out)
                      replace XP := Lib.hid ((Lib.iterAt_other wr kk p line (i + 1) KK.out.2.2).trans XP.out)
                      replace FO := Lib.hid (own_iter FO.out IT.out (i + 1))
                      replace IT := Lib.hid (Lib.iterAt_heap wr kk line i (i + 1) IT.out)
                      generalize wr.iterAt kk line (i + 1) = V4 at *
                      have KS := Lib.hid (kG_step (G := G) HB.out)
                      have KL := Lib.hid (kG_len G line i)
                      generalize kG G line i = K at *
                      have hd : Below V4.heap.size V4 V4.drew := (Below.refl _ _).drew
                      replace BF := Lib.hid (BF.out.trans (hd.mono BF.out.size))
                      replace XZ := Lib.hid (qblk hd XZ.out)
                      replace XP := Lib.hid (qblk hd XP.out)
                      replace FO := Lib.hid (FO.out.below hd)
                      replace IT := Lib.hid (qblk hd IT.out)
                      clear hd
                      refine bD 9 (fun W => Below w.heap.size w W ∧ W.heap[p]? = some (.cells (K.cells ha hn) 28 (0, 0))) ⟨BF.out, XP.out⟩ (fun hHeld => ?_)
                      generalize V4.drew = V5 at *
                      refine bW 0 rfl (.pointer (some ⟨p, 3, none⟩)) ?_
                      refine bS 1 rfl (.slice ha K.kinds.length hn) (fun W hW => by have c := qcell hW.2 3 (.slice ha K.kinds.length hn) rfl; go_simp) ?_
                      refine bW 2 rfl (.string line) ?_
                      refine bW 3 rfl (.int .i64 (i : Int)) ?_
                      refine bW 4 rfl (.int .u8 (bb.toNat : Int)) (hy := .inl ⟨by kernel_rfl, by intro W hW; have h1 := HIL.out; have h2 := hbb.out; go_simp; first | done | (intro h9; exfalso; have h8 := HIL.out; omega)⟩) ?_
                      refine bR 5 rfl (fun K2 hK => ?_)
                      go_simp
                      refine (sh_strings_IndexByte ⟨#[46, 115, 102]⟩ (bb.toNat : Int) _).mono ?_
                      rintro e V6 ⟨rfl, rfl⟩
                      have IX : Hid (Lib.indexByte [46, 115, 102] ((bb.toNat : Int).toNat.toUInt8) = kindOf bb) := Lib.hid (by rw [Int.toNat_natCast, show bb.toNat.toUInt8 = bb from by simp]; exact index_sign SG.out)
                      rw [IX.out]
                      try dsimp only
                      refine bK hK ⟨BF.out, XP.out⟩ (fun hHeld => ?_)
                      clear hK K2
                      refine bR 6 rfl (fun K2 hK => ?_)
                      rw [if_pos (by kernel_rfl)]
                      refine qbuild (w' := V6.alloc (.cells #[.int .i64 (kindOf bb)] 3)) (.slice (some ⟨V6.heap.size, 0, none⟩) 1 1) (by kernel_rfl) ?_
                      have LI := Lib.hid (lit_int V6 (kindOf bb))
                      have b := zB V6 (.cells #[.int .i64 (kindOf bb)] 3)
                      obtain ⟨y, hy⟩ : ∃ x, Hid (V6.heap.size = x) := ⟨_, Lib.hid rfl⟩
                      replace BF := Lib.hid (BF.out.trans (b.mono BF.out.size))
                      replace XZ := Lib.hid (qblk b XZ.out)
                      replace XP := Lib.hid (qblk b XP.out)
                      replace FO := Lib.hid (FO.out.below b)
                      replace IT := Lib.hid (qblk b IT.out)
                      clear b
                      rw [hy.out] at LI ⊢
                      generalize hV9 : V6.alloc (.cells #[.int .i64 (kindOf bb)] 3) = V7 at *
                      clear hV9
                      refine bK hK ⟨BF.out, XP.out⟩ (fun hHeld => ?_)
                      clear hK K2
                      refine bR 7 rfl (fun K2 hK => ?_)
                      rw [if_pos (by kernel_rfl)]
                      obtain ⟨ha2, hn2, V8, hrun, ho7, hk7, hb7⟩ := run_app_q V7 w.heap.size ha K.kinds.length hn K.kinds FO.out (some ⟨y, 0, none⟩) 1 1 [kindOf bb] LI.out (by have h1 := KL.out; have h2 := Q4.out; have h3 := HS.out; have h4 := LS.out; simp; omega) BF.out.size
                      refine qappend _ _ _ rfl _ _ _ rfl rfl hrun ?_
                      clear hrun
                      have OW := Lib.hid (show OwnI w V8 ha2 (K.kinds.length + 1) hn2 (K.kinds ++ [kindOf bb]) from ho7)
                      replace BF := Lib.hid (hb7 _ BF.out)
                      replace XZ := Lib.hid (hk7 _ _ XZ.out (by simp))
                      replace XP := Lib.hid (hk7 _ _ XP.out (by simp))
                      replace IT := Lib.hid (hk7 _ _ IT.out (by simp))
                      clear ho7 hk7 hb7 LI FO
                      refine bK hK ⟨BF.out, XP.out⟩ (fun hHeld => ?_)
                      clear hK K2
                      refine bW 8 rfl (.pointer (some ⟨p, 3, none⟩)) ?_
                      refine bL rfl (fun K2 hK => ?_)
                      have cz := qcell XP.out 3 (.slice ha K.kinds.length hn) rfl
                      have fz := qfroz XP.out 3
                      go_simp
                      clear cz fz
                      refine hK.out _ _ ?_
                      clear hK K2 hHeld
                      refine bE ?_
                      have HG := qput_grown V8 p 3 (.slice ha2 (K.kinds.length + 1) hn2)
                      have XG : Hid ((V8.setCell ⟨p, 3, none⟩ (.slice ha2 (K.kinds.length + 1) hn2)).heap[p]? = some (.cells ((kG G line (i + 1)).cells ha2 hn2) 28 (0, 0))) := Lib.hid (by rw [qput_at XP.out 3 _, KS.out]; unfold FaceV.cells; simp)
                      replace OW := Lib.hid (OW.out.kept HG XP.out (by decide))
                      replace BF := Lib.hid (qstep BF.out HG NG.out.2.1)
                      replace XZ := Lib.hid (qgrown HG XZ.out (fun e => NG.out.1 (Option.some.inj e)))
                      replace IT := Lib.hid (qgrown HG IT.out (fun e => KK.out.2.2 (Option.some.inj e).symm))
                      clear HG XP
                      generalize V8.setCell ⟨p, 3, none⟩ (.slice ha2 (K.kinds.length + 1) hn2) = V9 at *
                      go_wp2_with fail
                      go_roundw
                      case rel => exact ⟨i + 1, ha2, hn2, HIL.out, IT, BF, XZ, XG, Lib.hid (by rw [KS.out]; unfold FOwn; dsimp only; rw [List.length_append]; exact OW.out)⟩
                      case measure => have h8 := HIL.out; simp only [World.iterPos, IT.out, IT0.out]; omega
                    · have e : i = line.size := by omega
                      subst e
                      have hnx : ∀ ty, (Instr.next (.pointer (some ⟨kk, 0, none⟩)) true ty).run Tryz.prog wr = _ := fun ty => Lib.run_next_end_at wr kk line line.size ty IT.out (Nat.lt_irrefl _)
                      rw [kG_all] at XP FO
                      go_wp2_with fail
                      go_roundw
                      case rel => exact ⟨L + 1, rest, _, ha, hn, m - 1, by simp, rfl, by have h1 := LS.out; have h2 := Q1.out; have h3 := RS.out (by trivial); omega, fun h => absurd h (by omega), by have h1 := RS.out (by trivial); have h2 := Q3.out; omega, by have h1 := LS.out; have h2 := Q4.out; have h3 := RS.out (by trivial); have e1 : line.data.toList.length = line.size := rfl; simp; omega, PE, BF, XZ, XP, FO⟩
                      case measure => have h1 := RS.out (by trivial); have e9 : (⟨rest.data⟩ : ByteArray).size = rest.size := rfl; simp [strLen]; omega
            · have tS : ((line.size : Int) == G.sectors) = false := by rw [beq_eq_false_iff_ne]; exact b2
              have PE : Hid (parseP s.data.toList = (zeroF, 11, (L : Int) + 1)) := Lib.hid (by rw [PE0.out, if_neg (fun h => by have := h.1; unfold rowB at this; rw [decide_eq_false (show ¬ ((line.data.toList.length : Nat) : Int) = G.sectors from b2)] at this; simp at this)])
              go_wp2_with (first
                | (refine wpList_qstore rfl 28 _ _ rfl z (zeroF.cells none 0) (zeroF.cells none 0) 28 rfl rfl XZ.out (by exact qJF zeroF none 0) rfl (qone zeroF none 0) ?_; intro VZ hzz hgz; replace BF := Lib.hid (qstep BF.out hgz NG.out.2.2.1); replace XZ := Lib.hid hzz; clear hzz hgz)
                | fail)
              (try simp only [Exit.inBlock, Exit.then])
              refine bodyPost_ret (results_ctt rfl _ VZ z 28 (zeroF.cells none 0) (0, 0) _ rfl XZ.out Tryz.underlying28 rfl (by exact qJF zeroF none 0)) rfl ?_
              refine ⟨⟨none, 0, ?_, ?_⟩, BF.out⟩
              · rw [PE.out]; rfl
              · rw [PE.out]; exact FOwn.nil _ _
          · have tR : decide ((L : Int) ≤ G.rings) = false := decide_eq_false b1
            have PE : Hid (parseP s.data.toList = (zeroF, 11, (L : Int) + 1)) := Lib.hid (by rw [PE0.out, if_neg (fun h => by have := h.1; unfold rowB at this; rw [decide_eq_false b1] at this; simp at this)])
            go_wp2_with (first
              | (refine wpList_qstore rfl 28 _ _ rfl z (zeroF.cells none 0) (zeroF.cells none 0) 28 rfl rfl XZ.out (by exact qJF zeroF none 0) rfl (qone zeroF none 0) ?_; intro VZ hzz hgz; replace BF := Lib.hid (qstep BF.out hgz NG.out.2.2.1); replace XZ := Lib.hid hzz; clear hzz hgz)
              | fail)
            (try simp only [Exit.inBlock, Exit.then])
            refine bodyPost_ret (results_ctt rfl _ VZ z 28 (zeroF.cells none 0) (0, 0) _ rfl XZ.out Tryz.underlying28 rfl (by exact qJF zeroF none 0)) rfl ?_
            refine ⟨⟨none, 0, ?_, ?_⟩, BF.out⟩
            · rw [PE.out]; rfl
            · rw [PE.out]; exact FOwn.nil _ _
end Go.Proofs.YtimmadkbkimonaaGreatDoor
namespace Go.Proofs.YtimmadkbkimonaaGreatDoor
open Go.RowKit

def LoopAt (rec : LoopState → Option Code → Loop) (D : Nat) (st : LoopState) (pe : Option Code) (W : World) : Prop :=
  W.heap[D + 1]? = some (.loop (rec st pe)) ∧ W.heap[D]? = some (.deferred (some []))

theorem LoopAt.kept {rec : LoopState → Option Code → Loop} {D : Nat} {st : LoopState} {pe : Option Code} {W W' : World} (h : LoopAt rec D st pe W) (hk : KeepsFrom D W W') : LoopAt rec D st pe W' :=
  ⟨hk.same _ _ (by omega) h.1 rfl, hk.same _ _ (Nat.le_refl _) h.2 rfl⟩

def roundEnd (D : Nat) (B : World → Prop) (X : Code → World → Prop) (W : World) : Exit → Act → World → Prop
  | .normal, _, W' => KeepsFrom D W W' ∧ B W'
  | .ret, _, W' => KeepsFrom D W W' ∧ X .ret W'
  | .exit id, _, W' => KeepsFrom D W W' ∧ X (.exit id) W'
  | .goto t, _, W' => KeepsFrom D W W' ∧ X (.goto t) W'
  | .panic _, _, _ => False
  | .outgrown, _, _ => False

end Go.Proofs.YtimmadkbkimonaaGreatDoor
namespace Go.Proofs.YtimmadkbkimonaaGreatDoor
open Go.RowKit

def Wide (F : Fence) : Prop := F = Fence.wide ∨ ∃ l, F = Fence.wide.inRound l
theorem Wide.fn {F : Fence} (h : Wide F) (f : FuncId) : F.fn f := by
  rcases h with rfl | ⟨l, rfl⟩ <;> trivial
theorem Wide.depth {F : Fence} (h : Wide F) : F.depth.isSome = true → ∀ {p : Prop}, p := by
  rcases h with rfl | ⟨l, rfl⟩ <;> intro h' <;> simp [Fence.wide] at h'
theorem Wide.calls {F : Fence} (h : Wide F) {n : Nat} {P : Program} {f : FuncId} {args : Array Value} {w : World} {R : Ending → World → Prop} (hc : Calls P f args w R) : CallsIn F n P f args w R := by
  rcases h with rfl | ⟨l, rfl⟩
  · exact callsIn_wide.2 hc
  · exact CallsIn.inRound l (callsIn_wide.2 hc)
theorem Wide.rows {F : Fence} (h : Wide F) {n : Nat} {P : Program} {row : String} {args : Array Value} {w : World} {R : Value → World → Prop} (hc : Rows P row args w R) : RowsIn F n P row args w R := by
  rcases h with rfl | ⟨l, rfl⟩ <;> exact fun c cs _ => let ⟨v, w', r, s⟩ := hc c cs; ⟨v, w', r, stepsIn_wide.2 s⟩
theorem wpIn_of_wp {F : Fence} (hF : Wide F) {n : Nat} {P : Program} {o : Oper} {a : Act} {w : World} {K : Act → World → Prop} {Q : Exit → Act → World → Prop} (hnd : ∀ c, o.op ≠ .defer c) (h : o.wp P a w K Q) : o.wpIn F n P a w K Q := by
  refine ⟨fun f _ => hF.fn f, ?_⟩
  rw [Oper.semAt_plain F _ _ hnd]
  unfold Oper.wp at h
  generalize (execOp a.eval o).run P w = r at h
  unfold Oper.upon at h
  unfold Oper.uponIn
  cases r with
  | ok v w' =>
    cases v with
    | enter f args => exact ⟨fun h' => hF.depth h', hF.calls h⟩
    | row r args => exact ⟨fun h' => hF.depth h', hF.rows h⟩
    | round _ _ _ _ _ => exact (show False from h).elim
    | _ => exact h
  | halt s w' => cases s <;> exact h
def noDefer (l : List Oper) : Bool := l.all fun o => match o.op with | .defer _ => false | _ => true
theorem noDefer_at {l : List Oper} (h : noDefer l = true) {o : Oper} (ho : o ∈ l) : ∀ c, o.op ≠ .defer c := fun c e => by
  have := List.all_eq_true.1 h o ho
  rw [e] at this
  cases this
theorem wpListIn_of_wpList {F : Fence} (hF : Wide F) {n : Nat} {P : Program} {ops : Array Oper} {Q : Exit → Act → World → Prop} (hQ : ¬ LetsOut Q) : ∀ (l : List Oper) (a : Act) (w : World), noDefer l = true → wpList P ops Q l a w → wpListIn F n P ops Q l a w
  | [], a, w, _, h => h
  | o :: l, a, w, hnd, h => by
    have h1 : ∀ c, o.op ≠ .defer c := noDefer_at hnd (List.mem_cons_self ..)
    have h2 : noDefer l = true := (Bool.and_eq_true_iff.1 hnd).2
    unfold wpList at h
    unfold wpListIn
    split at h
    · rename_i hw
      rw [if_pos hw]
      rcases h with h | h
      · exact wpIn_of_wp hF h1 (Oper.wp_mono (fun a w hk => wpListIn_of_wpList hF hQ l a w h2 hk) h)
      · exact (hQ h.2).elim
    · rename_i hw
      rw [if_neg hw]
      exact ⟨fun f _ => hF.fn f, wpListIn_of_wpList hF hQ l _ w h2 h⟩
theorem wpIn_region_plain {F : Fence} (hF : Wide F) {n : Nat} {P : Program} {id : Nat} {l : List Oper} {a : Act} {w : World} {Q : Exit → Act → World → Prop} (hQ : ¬ LetsOut Q) (hnd : noDefer l = true) (h : wpList P l.toArray Q l a w) : (Code.region id l.toArray false).wpIn F n P Q a w :=
  wpIn_region_lit (wpListIn_of_wpList hF hQ l a w hnd h)
theorem wpOpIn_of_wpOp {F : Fence} (hF : Wide F) {n : Nat} {P : Program} {ops : Array Oper} {Q : Exit → Act → World → Prop} (hQ : ¬ LetsOut Q) (hnd : noDefer ops.toList = true) (i : Nat) {K : Act → World → Prop} {a : Act} {w : World} (h : wpOp P ops Q i K a w) : wpOpIn F n P ops Q i K a w := by
  unfold wpOp at h
  unfold wpOpIn
  cases ho : ops[i]? with
  | none => rw [ho] at h; exact h
  | some o =>
    rw [ho] at h
    dsimp only at h ⊢
    split at h
    · rename_i hw
      rw [if_pos hw]
      rcases h with h | h
      · exact wpIn_of_wp hF (noDefer_at hnd (by rw [Array.mem_toList_iff]; exact Array.mem_of_getElem? ho)) h
      · exact (hQ h.2).elim
    · rename_i hw
      rw [if_neg hw]
      exact ⟨fun f _ => hF.fn f, h⟩
theorem wpAnyIn_of_wpAny {F : Fence} (hF : Wide F) {n : Nat} {P : Program} {md : Region.Mode} {ops : Array Oper} {Q : Exit → Act → World → Prop} (hQ : ¬ LetsOut Q) (hnd : noDefer ops.toList = true) : ∀ (fuel : Nat) (listed : Array Bool) (a : Act) (w : World), wpAny P md ops Q fuel listed a w → wpAnyIn F n P md ops Q fuel listed a w
  | 0, _, _, _, h => h
  | fuel + 1, _, _, _, h => ⟨h.1, fun i hi => wpOpIn_of_wpOp hF hQ hnd i (wpOp_mono (fun a w hk => wpAnyIn_of_wpAny hF hQ hnd fuel _ a w hk) (h.2 i hi))⟩

section
variable {P : Program} {σ : Type} {n : Nat} {g : Operand} {ps : Array Tmp} {assign body : Code} {Q : Exit → Act → World → Prop} {a : Act} {w : World}
theorem wp_range_own2
    {gf : Nat} {lb : Array Value} (hg : a.eval g = .func (.func gf) #[] lb) (eg : ∀ args w, (callFunc gf args).run P w = .ok (.enter gf args) w)
    (encs : σ → Array Value) (hps : ∀ x, (encs x).size = ps.size)
    (A B : σ → World → Prop) (A' : σ → Act → World → Prop) (Done : World → Prop)
    (hA' : ∀ s a W o, A' s a W → (∃ r, W.heap[w.heap.size + 1]? = some (.loop r)) → A' s a (W.putObj (w.heap.size + 1) (.loop o)))
    (hB : ∀ s W o, B s W → (∃ r, W.heap[w.heap.size + 1]? = some (.loop r)) → B s (W.putObj (w.heap.size + 1) (.loop o)))
    (hDone : ∀ W o, Done W → (∃ r, W.heap[w.heap.size + 1]? = some (.loop r)) → Done (W.putObj (w.heap.size + 1) (.loop o)))
    (hassign : ∀ (s : σ) (W : World), A s W →
      assign.wpIn (Fence.wide.inRound (w.heap.size + 1)) (n - 1) P (Exit.then (fun a₁ W₁ => KeepsFrom w.heap.size W W₁ ∧ A' s a₁ W₁) (fun _ _ _ => False)) { tmps := (ps.zip (encs s)).foldl (fun t (p, v) => t.setIfInBounds p v) a.tmps, defers := [] } W)
    (hbody : ∀ (s : σ) (a₁ : Act) (W : World), A' s a₁ W → body.wpIn (Fence.wide.inRound (w.heap.size + 1)) (n - 1) P (roundEnd w.heap.size (B s) (fun _ _ => False) W) a₁ W)
    (hiter : ∀ (rec : LoopState → Option Code → Loop),
      LoopAt rec w.heap.size .ready none ((w.alloc (.deferred (some []))).alloc (.loop (rec .ready none))) →
      (∀ s W, A s W → LoopAt rec w.heap.size .ready none W → YieldAt Fence.wide (n - 1) P (w.heap.size + 1) (encs s) W fun e W' =>
        e = .returned (.bool true) ∧ B s W' ∧ LoopAt rec w.heap.size .ready none W') →
      CallsIn Fence.wide n P gf (#[.func (.yield (w.heap.size + 1)) #[] #[]] ++ lb) ((w.alloc (.deferred (some []))).alloc (.loop (rec .ready none))) fun e W' =>
        (∃ v, e = .returned v) ∧ Done W' ∧ LoopAt rec w.heap.size .ready none W')
    (hdone : ∀ (W : World), Done W → W.heap[w.heap.size]? = some (.deferred (some [])) → Q .normal { a with defers := { target := .collected w.heap.size, args := #[] } :: a.defers } W) :
    (Code.rangeFunc g ps assign body).wpIn Fence.wide (n + 1) P Q a w := by
  refine wpIn_rangeFunc ?_
  intro fn hfn
  obtain ⟨rec, hrec⟩ : ∃ rec : LoopState → Option Code → Loop, rec = fun st pe => { state := st, pending := pe, fn, tmps := a.tmps, params := ps, assign, body, defers := w.heap.size } := ⟨_, rfl⟩
  have hnew : LoopAt rec w.heap.size .ready none ((w.alloc (.deferred (some []))).alloc (.loop (rec .ready none))) := by
    refine ⟨?_, (Below.heap_alloc _ _ _ (by simp)).trans (World.alloc_heap_new w _)⟩
    have := World.alloc_heap_new (w.alloc (.deferred (some []))) (.loop (rec .ready none))
    rwa [World.size_alloc] at this
  have hput : ∀ (W : World) (st st' : LoopState) (pe pe' : Option Code), LoopAt rec w.heap.size st pe W → LoopAt rec w.heap.size st' pe' (W.putObj (w.heap.size + 1) (.loop (rec st' pe'))) :=
    fun W st st' pe pe' h => ⟨World.putObj_heap_same (Array.getElem?_eq_some_iff.1 h.1).1, (World.putObj_heap_other (by omega)).trans h.2⟩
  refine ⟨w.heap.size + 1, [{ target := .collected w.heap.size, args := #[] }], (w.alloc (.deferred (some []))).alloc (.loop (rec .ready none)), { target := .fn (.func gf) lb, args := #[.func (.yield (w.heap.size + 1)) #[] #[]] }, (w.alloc (.deferred (some []))).alloc (.loop (rec .ready none)), gf,
    #[.func (.yield (w.heap.size + 1)) #[] #[]] ++ lb, (w.alloc (.deferred (some []))).alloc (.loop (rec .ready none)), ?_, ?_, ?_, ?_, ?_, ?_⟩
  · rw [hrec]; exact run_enterLoop_outer _ _ _ _ _
  · simp only [resolve, hg]
    simp [go_sem]
  · intro f' _
    trivial
  · simp [invoke, go_sem, eg]
  · intro h
    simp [Fence.wide] at h
  · rw [Nat.add_sub_cancel]
    refine (hiter rec hnew ?_).mono ?_
    · intro s W hs hl
      have hy := run_yield (P := P) (args := encs s) hl.1 (by rw [hrec]; exact hps s)
      rw [hrec] at hy
      refine ⟨fn, _, assign, body, hy, roundIn_of_wpIn hfn (wpIn_mono (hassign s W hs) ?_)⟩
      rintro e a₁ W₁ hp
      cases e with
      | normal =>
        obtain ⟨hk1, hs1⟩ : KeepsFrom w.heap.size W W₁ ∧ A' s a₁ W₁ := hp
        have hl1 := hl.kept hk1
        refine ⟨_, run_beginRound hl1.1 (by rw [hrec]), ?_⟩
        have hbusy : ({ rec .ready none with state := .busy } : Loop) = rec .busy none := by rw [hrec]
        rw [hbusy]
        have hl2 := hput W₁ .ready .busy none none hl1
        refine wpIn_mono (hbody s a₁ _ (hA' s a₁ W₁ _ hs1 ⟨_, hl1.1⟩)) ?_
        have fin : ∀ (jump : Option Code) (W3 : World), KeepsFrom w.heap.size (W₁.putObj (w.heap.size + 1) (.loop (rec .busy none))) W3 →
            (Instr.endRound (w.heap.size + 1) jump).run P W3 = .ok (.bool jump.isNone) (W3.putObj (w.heap.size + 1) (.loop (rec (if jump.isNone then .ready else .done) jump))) ∧
            LoopAt rec w.heap.size .busy none W3 ∧ LoopAt rec w.heap.size (if jump.isNone then .ready else .done) jump (W3.putObj (w.heap.size + 1) (.loop (rec (if jump.isNone then .ready else .done) jump))) := fun jump W3 hk => by
          have h3 := hl2.kept hk
          have hr := run_endRound (P := P) jump h3.1
          rw [hrec] at hr ⊢
          exact ⟨hr, by rw [hrec] at h3; exact h3, by have := hput W3 .busy (if jump.isNone then .ready else .done) none jump h3; rw [hrec] at this; exact this⟩
        rintro e a3 W3 hp
        cases e with
        | normal =>
          obtain ⟨hk, hb⟩ := hp
          obtain ⟨hr, h3, h4⟩ := fin none W3 hk
          exact ⟨_, _, hr, rfl, hB s W3 _ hb ⟨_, h3.1⟩, h4⟩
        | ret => exact hp.2.elim
        | exit id => exact hp.2.elim
        | goto t => exact hp.2.elim
        | panic ch => exact hp.elim
        | outgrown => exact hp.elim
      | _ => exact hp.elim
    · rintro e W2 ⟨⟨v, rfl⟩, hd, hl⟩
      refine ⟨none, _, by have := run_endLoop (P := P) hl.1 (by rw [hrec]; simp); rw [hrec] at this; exact this, ?_⟩
      exact hdone _ (hDone W2 _ hd ⟨_, hl.1⟩) ((World.putObj_heap_other (by omega)).trans hl.2)
end
end Go.Proofs.YtimmadkbkimonaaGreatDoor
namespace Go.Proofs.YtimmadkbkimonaaGreatDoor
set_option linter.unusedSimpArgs false
set_option linter.unusedVariables false
open Go.RowKit
open Go.Maps (Keyed)

def I64q (z : Int) : Prop := -9223372036854775808 ≤ z ∧ z ≤ 9223372036854775807
theorem q_keyed : Keyed Tryz.prog 3 := Maps.int_keyed Tryz.underlying3
theorem q_wf {z : Int} (h : I64q z) : (Lit.int .i64 z).wf = true := by
  have h1 := h.1
  have h2 := h.2
  simp [Lit.wf, IntKind.min, IntKind.max, IntKind.signed, IntKind.bits]
  omega
theorem q_key {z : Int} (h : I64q z) : keyOf Tryz.prog 3 (.int .i64 z) = some (.int .i64 z) := Maps.keyOf_int_mk Tryz.underlying3 (q_wf h)
theorem q_zero (w : World) : (zeroValue 3).run Tryz.prog w = .ok (.int .i64 0) w := by kernel_rfl
def heldQ : Value → Option (DataW Value × List MemPlace) := fun v => some (.held v, [])
structure ReadsQ (D : DataW Value) (o : OfM) : Prop where
  ok : ∀ a, (o a).isSome = true → I64q a
  has : ∀ a, I64q a → Maps.has D (.int .i64 a) = (o a).isSome
  val : ∀ a x, o a = some x → ∀ z, D.atKey (.int .i64 a) z = .held (.int .i64 x)
def MapI (w : World) (b n : Nat) (o : OfM) : Prop := ∃ D, w.ownsMap Tryz.prog 3 heldQ b n D ∧ ReadsQ D o
theorem qlit_inj {a b : Int} (h : Lit.int .i64 a = Lit.int .i64 b) : a = b := by cases h; rfl
section
variable {D : DataW Value} {o : OfM} {w : World} {b n : Nat}
theorem ReadsQ.put (h : ReadsQ D o) (hm : Maps.IsMap D) {k : Int} (hk : I64q k) (x : Int) : ReadsQ (D.put (.int .i64 k) (.held (.int .i64 x))) (updM o k x) := by
  refine ⟨fun a ha => ?_, fun a ha => ?_, fun a y hy z => ?_⟩
  · unfold updM at ha
    split at ha
    · rename_i e; rw [e]; exact hk
    · exact h.ok a ha
  · unfold updM
    split
    · rename_i e; rw [e, Maps.has_put_same hm (show WideAt.IsKeyLit (.int .i64 k) from trivial)]; rfl
    · rename_i e; rw [Maps.has_put_other (fun he => e (qlit_inj he))]; exact h.has a ha
  · unfold updM at hy
    split at hy
    · rename_i e; cases hy; rw [e, Maps.atKey_put_same hm (show WideAt.IsKeyLit (.int .i64 k) from trivial)]
    · rename_i e; rw [Maps.atKey_put_other (fun he => e (qlit_inj he))]; exact h.val a y hy z
theorem MapI.made (w : World) : MapI (w.alloc (.map #[] 0)) w.heap.size 0 (fun _ => none) := ⟨_, World.ownsMap_made w _ _ _, ⟨by simp, fun a _ => rfl, by simp⟩⟩
theorem MapI.lt (h : MapI w b n o) : b < w.heap.size := by obtain ⟨D, h1, _⟩ := h; exact h1.lt
theorem MapI.of_block {w' : World} (h : MapI w b n o) (hb : w'.heap[b]? = w.heap[b]?) : MapI w' b n o := by
  obtain ⟨D, ⟨es, clock, h1, h2⟩, h3⟩ := h
  exact ⟨D, ⟨es, clock, hb.trans h1, h2⟩, h3⟩
theorem MapI.below {w' : World} (h : MapI w b n o) (hb : Below w.heap.size w w') : MapI w' b n o := h.of_block (hb.block b h.lt)
theorem MapI.blk (h : MapI w b n o) : ∃ es clock, w.heap[b]? = some (.map es clock) := by
  obtain ⟨D, ⟨es, clock, h1, _⟩, _⟩ := h
  exact ⟨es, clock, h1⟩
theorem MapI.step {w' : World} {r : Nat} (h : MapI w b n o) (hg : w.grownBy w' (some r)) (hne : b ≠ r) : MapI w' b n o := h.of_block (hg.block b h.lt (fun e => hne (Option.some.inj e)))
theorem run_getok_q (h : MapI w b n o) {t : TypeId} (ht : Tryz.prog.underlying t = some (.map 3 3)) {k : Int} (hk : I64q k) :
    (Instr.lookup t (.map (some b)) (.int .i64 k) true).run Tryz.prog w = .ok (.tuple #[.int .i64 ((o k).getD 0), .bool (o k).isSome]) w := by
  obtain ⟨D, h1, h2⟩ := h
  obtain ⟨v, ps, h3, h4⟩ := h1.look_ok q_keyed ht (q_zero w) (zd := .held (.int .i64 0)) (zp := []) rfl (q_key hk)
  rw [h2.has k hk] at h3
  simp only [heldQ, Option.some.injEq, Prod.mk.injEq] at h4
  refine h3.trans ?_
  cases hf : o k with
  | none =>
    rw [Maps.atKey_of_not_has (by rw [h2.has k hk, hf]; rfl)] at h4
    have := h4.1
    simp only [DataW.held.injEq] at this
    rw [this]; rfl
  | some y =>
    rw [h2.val k y hf] at h4
    have := h4.1
    simp only [DataW.held.injEq] at this
    rw [this]; rfl
theorem run_get_q (h : MapI w b n o) {t : TypeId} (ht : Tryz.prog.underlying t = some (.map 3 3)) {k : Int} (hk : I64q k) :
    (Instr.lookup t (.map (some b)) (.int .i64 k) false).run Tryz.prog w = .ok (.int .i64 ((o k).getD 0)) w := by
  obtain ⟨D, h1, h2⟩ := h
  obtain ⟨v, ps, h3, h4⟩ := h1.lookup q_keyed ht (q_zero w) (zd := .held (.int .i64 0)) (zp := []) rfl (q_key hk)
  simp only [heldQ, Option.some.injEq, Prod.mk.injEq] at h4
  refine h3.trans ?_
  cases hf : o k with
  | none =>
    rw [Maps.atKey_of_not_has (by rw [h2.has k hk, hf]; rfl)] at h4
    have := h4.1
    simp only [DataW.held.injEq] at this
    rw [this]; rfl
  | some y =>
    rw [h2.val k y hf] at h4
    have := h4.1
    simp only [DataW.held.injEq] at this
    rw [this]; rfl
end
theorem wpList_put_q {o : OfM} (w : World) {ops : Array Oper} {rest : List Oper} {op : Oper} {a : Act} {Q : Exit → Act → World → Prop} (hg : op.guard = none) (m x v : Operand) (t : TypeId) (hop : op.op = Op.mapUpdate t m x v) (ht : Tryz.prog.underlying t = some (.map 3 3)) (b n : Nat) (k y : Int)
    (hm : a.eval m = .map (some b)) (hmap : MapI w b n o) (hn : n < maxLen) (hx : a.eval x = .int .i64 k) (hk : I64q k) (hv : a.eval v = .int .i64 y)
    (hK : ∀ w', MapI w' b (n + 1) (updM o k y) → w.grownBy w' (some b) → wpList Tryz.prog ops Q rest (a.put op.dst undef) w') : wpList Tryz.prog ops Q (op :: rest) a w := by
  obtain ⟨D, h1, h2⟩ := hmap
  exact wpList_mapUpdate_own w hg m x v t hop 3 3 q_keyed ht heldQ b n D hm h1 hn (.int .i64 k) (.int .i64 y) (.int .i64 k) hx hv (q_key hk) (.held (.int .i64 y)) [] rfl
    (fun w' h3 h4 => hK w' ⟨_, h3, h2.put h1.isMap hk y⟩ h4)
def Marks (base : Nat) (ds : List Deferred) (W : World) : Prop := ds.Pairwise (fun d e => d.target ≠ e.target) ∧ ∀ d ∈ ds, ∃ r, d = { target := .collected r, args := #[] } ∧ W.heap[r]? = some (.deferred (some [])) ∧ base ≤ r
theorem Marks.kept {base : Nat} {ds : List Deferred} {W W' : World} (h : Marks base ds W) (hk : ∀ r : Nat, W.heap[r]? = some (.deferred (some [])) → W'.heap[r]? = some (.deferred (some []))) : Marks base ds W' :=
  ⟨h.1, fun d hd => by
    obtain ⟨r, e, hr, hb⟩ := h.2 d hd
    exact ⟨r, e, hk r hr, hb⟩⟩
theorem Marks.below {base : Nat} {ds : List Deferred} {W W' : World} (h : Marks base ds W) (hb : Below W.heap.size W W') : Marks base ds W' := h.kept fun r hr => qblk hb hr
theorem Marks.step {base : Nat} {ds : List Deferred} {W W' : World} {row : Option Nat} (h : Marks base ds W) (hg : W.grownBy W' row) (hr : ∀ r : Nat, row = some r → W.heap[r]? ≠ some (.deferred (some []))) : Marks base ds W' := h.kept fun r h1 => qgrown hg h1 (fun e => hr r e.symm h1)
theorem Marks.add {base : Nat} {ds : List Deferred} {W W' : World} {r : Nat} (h : Marks base ds W) (hs : W.heap.size ≤ r) (hbr : base ≤ r) (h' : Marks base ds W') (hr : W'.heap[r]? = some (.deferred (some []))) : Marks base ({ target := .collected r, args := #[] } :: ds) W' := by
  refine ⟨List.pairwise_cons.2 ⟨fun d hd e => ?_, h.1⟩, fun d hd => ?_⟩
  · obtain ⟨r2, rfl, h2, _⟩ := h.2 d hd
    have := qlt h2
    simp only [Target.collected.injEq] at e
    omega
  · rcases List.mem_cons.1 hd with rfl | hd
    · exact ⟨r, rfl, hr, hbr⟩
    · exact h'.2 d hd
theorem leaves_marks {F : Fence} {n : Nat} {P : Program} {fn : Func} {tmps : Array Value} {R : Ending → World → Prop} (base : Nat) (I : World → Prop) (hI : ∀ (W : World) (r : Nat), base ≤ r → I W → W.heap[r]? = some (.deferred (some [])) → I (W.putObj r (.deferred none)))
    (hR : ∀ W, I W → ∃ v, (results fn tmps).run P W = .ok v W ∧ R (.returned v) W) : ∀ (ds : List Deferred) (W : World), Marks base ds W → I W → LeavesInM F n P fn tmps R ds .returning W
  | [], W, _, h => hR W h
  | d :: ds, W, hm, h => by
    obtain ⟨r, rfl, hr, hbr⟩ := hm.2 d (List.mem_cons_self ..)
    refine ⟨by simp, .inl ⟨_, _, rfl, run_takeDeferred hr, ?_⟩⟩
    refine leaves_marks base I hI hR ds _ ⟨(List.pairwise_cons.1 hm.1).2, fun e he => ?_⟩ (hI W r hbr h hr)
    obtain ⟨r2, rfl, h2, hb2⟩ := hm.2 e (List.mem_cons_of_mem _ he)
    refine ⟨r2, rfl, (World.putObj_heap_other (fun e2 => ?_)).trans h2, hb2⟩
    exact (List.pairwise_cons.1 hm.1).1 _ he (by rw [e2])
end Go.Proofs.YtimmadkbkimonaaGreatDoor
namespace Go.Proofs.YtimmadkbkimonaaGreatDoor
set_option linter.unusedSimpArgs false
set_option linter.unusedVariables false
open Go.RowKit

structure AppK (v : Value) (v' : Value) (w w' : World) : Prop where
  rd : ∀ {s k n c : Nat} {xs : List Int}, RdI w (some ⟨s, k, none⟩) n c xs → some s ≠ v.ownBlock → RdI w' (some ⟨s, k, none⟩) n c xs
  no : ∀ s, v.ownBlock ≠ some s → s < w.heap.size → v'.ownBlock ≠ some s ∧ s < w'.heap.size
theorem run_app_at (w : World) (base : Nat) (sa : Option Addr) (sn sc : Nat) (xs : List Int) (hown : w.ownsRow base 3 1 (.slice sa sn sc) sn (xs.map intV)) (xa : Option Addr) (m xc : Nat) (ys : List Int) (hm : 0 < m) (hrd : RdI w xa m xc ys)
    (hbytes : (sn + m) * 8 ≤ 140737488355328) (hbase : base ≤ w.heap.size) :
    ∃ a' c' w', (Builtin.append_ #[26, 26] 26 #[.slice sa sn sc, .slice xa m xc]).run Tryz.prog w = .ok (.slice a' (sn + m) c') w' ∧ w'.ownsRow base 3 1 (.slice a' (sn + m) c') (sn + m) ((xs ++ ys).map intV) ∧
      (∀ (p : Nat) (ob : Obj), w.heap[p]? = some ob → (∀ cur, ob ≠ .cells cur 3 (0, 0)) → w'.heap[p]? = some ob) ∧ (∀ W, Below base W w → Below base W w') ∧ AppK (.slice sa sn sc) (.slice a' (sn + m) c') w w' ∧ w.grownBy w' (Value.ownBlock (.slice sa sn sc)) := by
  obtain ⟨i, hi, hz0, hz1, hz2⟩ := info_parts qinfoI
  obtain ⟨b, off, rfl, h4⟩ := RdA.at hrd hm
  obtain ⟨v', w', h1, h2, h3, _, h5⟩ := run_append_own_at (P := Tryz.prog) w base 26 26 3 i _ 1 8 Tryz.underlying26 hi hz0 hz1 hz2 rfl (by decide) (.slice sa sn sc) sn _ hown ⟨b, off, none⟩ m xc (ys.map intV) hrd.1 (fun j u hu => by have := h4 j u hu; unfold Addr.add; split <;> first | exact this | (rename_i e; rw [e] at this; exact this)) (intV_one _) (by unfold maxLen; omega) (by omega) hbase
  obtain ⟨a', c', rfl⟩ : ∃ a' c', v' = .slice a' (sn + m) c' := by
    rcases h2.2 with ⟨rfl, h⟩ | ⟨g, cap, cur, rfl, _⟩
    · exact ⟨none, 0, by rw [h]⟩
    · exact ⟨_, _, rfl⟩
  refine ⟨a', c', w', h1, by rw [List.map_append]; exact h2, fun p o hp ho => qgrown h3 hp (qown_no hown hp ho), fun W hb => hb.grown h3 hbase (fun k e => (hown.lt k e).1), ⟨fun {s k n c xs} hr hne => ?_, fun s hne hs => ?_⟩, h3⟩
  · refine RdA.of_cells hr fun b' hb hlt => ?_
    obtain ⟨o', e⟩ := hb
    cases e
    exact h3.block _ hlt hne
  · refine ⟨fun e => ?_, Nat.lt_of_lt_of_le hs h3.size⟩
    rcases h5 with h5 | h5
    · rw [h5] at e; exact hne e
    · rw [h5] at e
      have := Option.some.inj e
      omega
theorem appr_ints (w : World) {ops : Array Oper} {rest : List Oper} {o : Oper} {a : Act} {Q : Exit → Act → World → Prop} (hgd : o.guard = none) (s x : Operand)
    (ho : o.op = .call { callee := .builtin .append, args := #[s, x], argTypes := #[26, 26] }) (hty : o.type = 26) (base : Nat)
    (sa : Option Addr) (sn sc : Nat) (xs : List Int) (hs : a.eval s = .slice sa sn sc) (hown : w.ownsRow base 3 1 (.slice sa sn sc) sn (xs.map intV))
    (xa : Option Addr) (m xc : Nat) (ys : List Int) (hx : a.eval x = .slice xa m xc) (hm : 0 < m) (hrd : RdI w xa m xc ys) (hbytes : (sn + m) * 8 ≤ 140737488355328) (hbase : base ≤ w.heap.size)
    (h : ∀ a' c' w', w'.ownsRow base 3 1 (.slice a' (sn + m) c') (sn + m) ((xs ++ ys).map intV) → (∀ (p : Nat) (ob : Obj), w.heap[p]? = some ob → (∀ cur, ob ≠ .cells cur 3 (0, 0)) → w'.heap[p]? = some ob) → (∀ W, Below base W w → Below base W w') → AppK (.slice sa sn sc) (.slice a' (sn + m) c') w w' → wpList Tryz.prog ops Q rest (a.put o.dst (.slice a' (sn + m) c')) w') :
    wpList Tryz.prog ops Q (o :: rest) a w := by
  obtain ⟨a', c', w', h1, h2, h3, h4, h5, _⟩ := run_app_at w base sa sn sc xs hown xa m xc ys hm hrd hbytes hbase
  exact wpList_plain hgd fun _ hK => qappend s x 26 ho _ _ _ hs hx (by rw [hty]; exact h1) (hK _ _ (h a' c' w' h2 h3 h4 h5))
end Go.Proofs.YtimmadkbkimonaaGreatDoor
namespace Go.Proofs.YtimmadkbkimonaaGreatDoor
set_option linter.unusedSimpArgs false
set_option linter.unusedVariables false
open Go.RowKit

def ringAt (c : CellV) (j : Nat) : Int := if j = 0 then c.1 - 1 else c.1 + 1
def nbK (f : FaceV) (c : CellV) (k : Nat) : List Int := [indexF f c.1 (c.2 - 1), indexF f c.1 (c.2 + 1)] ++ (List.range k).flatMap fun j => if inB (ringAt c j) 0 (f.rings - 1) = true then [indexF f (ringAt c j) c.2] else []
theorem nbK_succ (f : FaceV) (c : CellV) (k : Nat) : nbK f c (k + 1) = nbK f c k ++ (if inB (ringAt c k) 0 (f.rings - 1) = true then [indexF f (ringAt c k) c.2] else []) := by
  unfold nbK
  rw [List.range_succ, List.flatMap_append, List.append_assoc]
  simp
theorem nbK_two (f : FaceV) (i : Int) : nbK f (cellF f i) 2 = neighL f i := by
  unfold nbK neighL ringAt
  simp [List.range_succ]
theorem nbK_len (f : FaceV) (c : CellV) (k : Nat) : 2 ≤ (nbK f c k).length ∧ (nbK f c k).length ≤ 2 + k := by
  induction k with
  | zero => simp [nbK]
  | succ k ih =>
    rw [nbK_succ, List.length_append]
    split <;> simp <;> omega
theorem LoopAt.kept2 {rec : LoopState → Option Code → Loop} {D : Nat} {st : LoopState} {pe : Option Code} {W W' : World} (h : LoopAt rec D st pe W) (hk : ∀ (p : Nat) (ob : Obj), W.heap[p]? = some ob → (∀ cur, ob ≠ .cells cur 3 (0, 0)) → W'.heap[p]? = some ob) : LoopAt rec D st pe W' :=
  ⟨hk _ _ h.1 (by simp), hk _ _ h.2 (by simp)⟩
theorem LoopAt.below2 {rec : LoopState → Option Code → Loop} {D : Nat} {st : LoopState} {pe : Option Code} {W W' : World} (h : LoopAt rec D st pe W) (hb : Below W.heap.size W W') : LoopAt rec D st pe W' := ⟨qblk hb h.1, qblk hb h.2⟩
def ItAt (L : List Int) (g lc : Nat) (W : World) : Prop := (∃ cur, W.heap[g]? = some (.cells cur 3 (0, 0))) ∧ RdI W (some ⟨g, 0, none⟩) L.length lc L
theorem ItAt.kept {L : List Int} {g lc : Nat} {W W' : World} (h : ItAt L g lc W) (hk : ∀ ob, W.heap[g]? = some ob → W'.heap[g]? = some ob) : ItAt L g lc W' := by
  obtain ⟨⟨cur, hc⟩, hr⟩ := h
  refine ⟨⟨cur, hk _ hc⟩, RdA.of_cells hr fun b hb _ => ?_⟩
  obtain ⟨off, e⟩ := hb
  cases e
  rw [hc]
  exact hk _ hc
theorem ItAt.below {L : List Int} {g lc : Nat} {W W' : World} (h : ItAt L g lc W) (hb : Below W.heap.size W W') : ItAt L g lc W' := h.kept fun _ h => qblk hb h
theorem ItAt.put {L : List Int} {g lc r : Nat} {W : World} {o : Obj} (h : ItAt L g lc W) (hl : ∃ l, W.heap[r]? = some (.loop l)) : ItAt L g lc (W.putObj r o) := by
  obtain ⟨l, hl⟩ := hl
  obtain ⟨⟨cur, hc⟩, hr⟩ := h
  exact ItAt.kept ⟨⟨cur, hc⟩, hr⟩ fun ob ho => (World.putObj_heap_other (fun e => by rw [e, hl] at hc; cases hc)).trans ho
set_option maxHeartbeats 4000000 in
set_option maxRecDepth 100000 in
theorem nbIter (m D p q : Nat) (f : FaceV) (a : Option Addr) (n : Nat) (i : Int) (w : World) (hp : w.heap[p]? = some (.cells (f.cells a n) 28 (0, 0))) (hq : w.heap[q]? = some (.cells #[.int .i64 i] 3 (0, 0))) (hv : f.valid = true) (hi : InF f i)
    (Con : Nat → List Int → World → Prop) (h0 : ∀ g W, w.heap.size ≤ g → g < W.heap.size → Below w.heap.size w W → Con g [] W)
    (rec : LoopState → Option Code → Loop) (hl : LoopAt rec D .ready none w)
    (hY : ∀ (g lc : Nat) (ks : List Int) (x : Int) (rest : List Int) (W : World), neighF f i = ks ++ x :: rest → Con g ks W → ItAt (neighF f i) g lc W → LoopAt rec D .ready none W → YieldAt Fence.wide (m - 1) Tryz.prog (D + 1) #[.int .i64 x] W fun e W' =>
        e = .returned (.bool true) ∧ Con g (ks ++ [x]) W' ∧ ItAt (neighF f i) g lc W' ∧ LoopAt rec D .ready none W') :
    CallsIn Fence.wide m Tryz.prog 129 #[.func (.yield (D + 1)) #[] #[], .pointer (some ⟨p, 0, none⟩), .pointer (some ⟨q, 0, none⟩)] w fun e W' =>
        (∃ v, e = .returned v) ∧ (∃ g, Con g (neighF f i) W') ∧ LoopAt rec D .ready none W' := by
  have HP := Lib.hid hp
  have HV := Lib.hid hv
  have IV := Lib.hid (FaceV.int hv)
  have HI := Lib.hid hi
  have H0 := Lib.hid h0
  have HYI := Lib.hid hY
  have L0 := Lib.hid hl
  have XF := Lib.hid hp
  have XI := Lib.hid hq
  have LL := Lib.hid (FaceV.len_le hv)
  have CH := Lib.hid (cellF_has hv hi)
  have CI := Lib.hid (hasF_iff.1 CH.out.1)
  have BF := Lib.hid (Below.refl w.heap.size w)
  clear hv hi h0 hY hl hp hq HP
  refine callsIn_of_wp Tryz.func129 rfl trivial ?_
  simp only [Tryz.ntmps129, List.size_toArray, List.length_cons, List.length_nil, Nat.reduceAdd, Nat.reduceSub, Array.replicate_succ, Array.replicate_zero, List.push_toArray, List.append_toArray, List.nil_append, List.cons_append]
  refine (wpIn_wide (n := m)).2 ?_
  have c0 := qcell XF.out 0 (.int .i64 f.eye) rfl
  have c1 := qcell XF.out 1 (.int .i64 f.rings) rfl
  have c2 := qcell XF.out 2 (.int .i64 f.sectors) rfl
  have c3 := qcell XF.out 3 (.slice a f.kinds.length n) rfl
  have d0 := qcell XI.out 0 (.int .i64 i) rfl
  go_wp2_with (first
    | (refine wpList_load_row rfl 28 _ rfl p rfl 28 (f.cells a n) (0, 0) _ XF.out Tryz.underlying28 rfl (by exact (qJF f a n)) ?_)
    | fail)
  refine (cellOf_any f a n i w (by have := IV.out; omega) (by have h1 := HI.out; have := LL.out; unfold InF at h1; omega)).mono ?_
  rintro e V1 ⟨rfl, b⟩
  replace L0 := Lib.hid (L0.out.below2 b)
  clear c0 c1 c2 c3 d0
  replace BF := Lib.hid (BF.out.trans (b.mono BF.out.size))
  replace XF := Lib.hid (qblk b XF.out)
  replace XI := Lib.hid (qblk b XI.out)
  clear b
  have c0 := qcell XF.out 0 (.int .i64 f.eye) rfl
  have c1 := qcell XF.out 1 (.int .i64 f.rings) rfl
  have c2 := qcell XF.out 2 (.int .i64 f.sectors) rfl
  have c3 := qcell XF.out 3 (.slice a f.kinds.length n) rfl
  have d0 := qcell XI.out 0 (.int .i64 i) rfl
  obtain ⟨c, hc⟩ : ∃ c, Hid (cellF f i = c) := ⟨_, Lib.hid rfl⟩
  rw [hc.out] at CH CI ⊢
  have SA := Lib.hid (show wrap64 (c.2 - 1) = c.2 - 1 by have := CI.out; have := IV.out; unfold wrap64; omega)
  have SB := Lib.hid (show wrap64 (c.2 + 1) = c.2 + 1 by have := CI.out; have := IV.out; unfold wrap64; omega)
  have SC := Lib.hid (show wrap64 (c.1 - 1) = c.1 - 1 by have := CI.out; have := IV.out; unfold wrap64; omega)
  have SD := Lib.hid (show wrap64 (c.1 + 1) = c.1 + 1 by have := CI.out; have := IV.out; unfold wrap64; omega)
  have SE := Lib.hid (show wrap64 (f.rings - 1) = f.rings - 1 by have := IV.out; unfold wrap64; omega)
  go_upto_region 1 with (first
    | (refine wpList_load_row rfl 28 _ rfl p rfl 28 (f.cells a n) (0, 0) _ XF.out Tryz.underlying28 rfl (by exact (qJF f a n)) ?_)
    | (refine wpList_store_new V1 rfl 41 _ _ rfl (cellA (0, 0)) (cellA c) rfl rfl (by exact qJC c) rfl (qoneC c) ?_)
    | fail)
  clear c0 c1 c2 c3 d0
  have AL := al1 V1 (.cells (cellA c) 41)
  replace BF := Lib.hid (BF.out.trans (AL.1.mono BF.out.size))
  replace XF := Lib.hid (qblk AL.1 XF.out)
  replace L0 := Lib.hid (L0.out.below2 AL.1)
  have XR := Lib.hid AL.2
  obtain ⟨r, hr0⟩ : ∃ r, Hid (V1.heap.size = r) := ⟨_, Lib.hid rfl⟩
  rw [hr0.out] at XR ⊢
  clear AL XI
  generalize V1.alloc (.cells (cellA c) 41) = V2 at *
  have hl0 : Below V2.heap.size V2 V2.drew := (Below.refl _ _).drew
  replace L0 := Lib.hid (L0.out.below2 hl0)
  clear hl0
  have c0 := qcell XF.out 0 (.int .i64 f.eye) rfl
  have c1 := qcell XF.out 1 (.int .i64 f.rings) rfl
  have c2 := qcell XF.out 2 (.int .i64 f.sectors) rfl
  have c3 := qcell XF.out 3 (.slice a f.kinds.length n) rfl
  have d0 := qcell XR.out 0 (.int .i64 c.1) rfl
  have d1 := qcell XR.out 1 (.int .i64 c.2) rfl
  clear c0 c1 c2 c3 d0 d1
  have hd : Below V2.heap.size V2 V2.drew := (Below.refl _ _).drew
  replace BF := Lib.hid (BF.out.drew)
  replace XF := Lib.hid (qblk hd XF.out)
  replace XR := Lib.hid (qblk hd XR.out)
  refine zD (fun W => Below w.heap.size w W ∧ W.heap[p]? = some (.cells (f.cells a n) 28 (0, 0)) ∧ W.heap[r]? = some (.cells (cellA c) 41 (0, 0))) ⟨BF.out, XF.out, XR.out⟩ (fun hHeld => ?_)
  clear hd
  generalize V2.drew = V3 at *
  refine zT 0 rfl (.agg (f.cells a n)) (qyrow (by kernel_rfl) 28 _ rfl p rfl _ 28 (0, 0) _ (fun W hW => hW.2.1) Tryz.underlying28 rfl (by exact (qJF f a n))) ?_
  refine zW 1 rfl (.pointer (some ⟨r, 0, none⟩)) ?_
  refine zS 2 rfl (.int .i64 c.1) (fun W hW => by have c := qcell hW.2.2 0 (.int .i64 c.1) rfl; go_simp) ?_
  refine zW 3 rfl (.pointer (some ⟨r, 1, none⟩)) ?_
  refine zS 4 rfl (.int .i64 c.2) (fun W hW => by have c := qcell hW.2.2 1 (.int .i64 c.2) rfl; go_simp) ?_
  refine zW 5 rfl (.int .i64 (c.2 - 1)) (hy := .inl ⟨by kernel_rfl, by intro W _; go_simp; exact (IntWalk.i64_left _).trans SA.out⟩) ?_
  refine zT 7 rfl (.agg (f.cells a n)) (qyrow (by kernel_rfl) 28 _ rfl p rfl _ 28 (0, 0) _ (fun W hW => hW.2.1) Tryz.underlying28 rfl (by exact (qJF f a n))) ?_
  refine zW 8 rfl (.pointer (some ⟨r, 0, none⟩)) ?_
  refine zS 9 rfl (.int .i64 c.1) (fun W hW => by have c := qcell hW.2.2 0 (.int .i64 c.1) rfl; go_simp) ?_
  refine zW 10 rfl (.pointer (some ⟨r, 1, none⟩)) ?_
  refine zS 11 rfl (.int .i64 c.2) (fun W hW => by have c := qcell hW.2.2 1 (.int .i64 c.2) rfl; go_simp) ?_
  refine zW 12 rfl (.int .i64 (c.2 + 1)) (hy := .inl ⟨by kernel_rfl, by intro W _; go_simp; exact (IntWalk.i64_left _).trans SB.out⟩) ?_
  refine zR 6 rfl (fun K hK => ?_)
  go_simp
  refine (index_any f a n c.1 (c.2 - 1) V3 (by have := IV.out; omega) (by have := CI.out; have := IV.out; omega)).mono ?_
  rintro e V4 ⟨rfl, b⟩
  replace L0 := Lib.hid (L0.out.below2 b)
  replace BF := Lib.hid (BF.out.trans (b.mono BF.out.size))
  replace XF := Lib.hid (qblk b XF.out)
  replace XR := Lib.hid (qblk b XR.out)
  clear b
  dsimp only
  refine zK hK ⟨BF.out, XF.out, XR.out⟩ (fun hHeld => ?_)
  clear hK K
  refine zR 13 rfl (fun K hK => ?_)
  go_simp
  refine (index_any f a n c.1 (c.2 + 1) V4 (by have := IV.out; omega) (by have := CI.out; have := IV.out; omega)).mono ?_
  rintro e V5 ⟨rfl, b⟩
  replace L0 := Lib.hid (L0.out.below2 b)
  replace BF := Lib.hid (BF.out.trans (b.mono BF.out.size))
  replace XF := Lib.hid (qblk b XF.out)
  replace XR := Lib.hid (qblk b XR.out)
  clear b
  dsimp only
  refine zK hK ⟨BF.out, XF.out, XR.out⟩ (fun hHeld => ?_)
  clear hK K
  refine zR 14 rfl (fun K hK => ?_)
  rw [if_pos (by kernel_rfl)]
  refine qbuild (w' := V5.alloc (.cells #[.int .i64 (indexF f c.1 (c.2 - 1)), .int .i64 (indexF f c.1 (c.2 + 1))] 3)) (.slice (some ⟨V5.heap.size, 0, none⟩) 2 2) (by kernel_rfl) ?_
  have OW : Hid ((V5.alloc (.cells #[.int .i64 (indexF f c.1 (c.2 - 1)), .int .i64 (indexF f c.1 (c.2 + 1))] 3)).ownsRow w.heap.size 3 1 (.slice (some ⟨V5.heap.size, 0, none⟩) (nbK f c 0).length 2) (nbK f c 0).length ((nbK f c 0).map intV)) := Lib.hid (World.ownsRow_lit (base := w.heap.size) (e := 3) (size := 1) V5 #[.int .i64 (indexF f c.1 (c.2 - 1)), .int .i64 (indexF f c.1 (c.2 + 1))] 2 BF.out.size (by unfold maxLen; omega) rfl)
  have AL := al1 V5 (.cells #[.int .i64 (indexF f c.1 (c.2 - 1)), .int .i64 (indexF f c.1 (c.2 + 1))] 3)
  replace BF := Lib.hid (BF.out.trans (AL.1.mono BF.out.size))
  replace XF := Lib.hid (qblk AL.1 XF.out)
  replace XR := Lib.hid (qblk AL.1 XR.out)
  replace L0 := Lib.hid (L0.out.below2 AL.1)
  clear AL
  obtain ⟨l0, hl0⟩ : ∃ l0, V5.heap.size = l0 := ⟨_, rfl⟩
  rw [hl0] at OW ⊢
  clear hl0
  generalize V5.alloc (.cells #[.int .i64 (indexF f c.1 (c.2 - 1)), .int .i64 (indexF f c.1 (c.2 + 1))] 3) = V6 at *
  refine zK hK ⟨BF.out, XF.out, XR.out⟩ (fun hHeld => ?_)
  clear hK K
  refine zW 15 rfl (.slice (some ⟨l0, 0, none⟩) 2 2) ?_
  refine zE ?_
  clear hHeld
  have sc := SC.out
  have sd := SD.out
  have c0 := qcell XF.out 0 (.int .i64 f.eye) rfl
  have c1 := qcell XF.out 1 (.int .i64 f.rings) rfl
  have c2 := qcell XF.out 2 (.int .i64 f.sectors) rfl
  have c3 := qcell XF.out 3 (.slice a f.kinds.length n) rfl
  have d0 := qcell XR.out 0 (.int .i64 c.1) rfl
  have d1 := qcell XR.out 1 (.int .i64 c.2) rfl
  go_wp2_with fail
  clear sc sd
  clear c0 c1 c2 c3 d0 d1
  have BB := Lib.hid BF.out
  have OL : Hid (l0 < V6.heap.size) := Lib.hid (by
    obtain ⟨_, h2⟩ := OW.out
    rcases h2 with ⟨h2, _⟩ | ⟨g', cap, cur, hv, hb, hg, _⟩
    · cases h2
    · simp only [Value.slice.injEq, Option.some.injEq, Addr.mk.injEq] at hv
      obtain ⟨⟨rfl, _⟩, _⟩ := hv
      exact qlt hg)
  have AL := al1 V6 (.cells #[.int .i64 (c.1 - 1), .int .i64 (c.1 + 1)] 3)
  replace BF := Lib.hid (BF.out.trans (AL.1.mono BF.out.size))
  replace XF := Lib.hid (qblk AL.1 XF.out)
  replace XR := Lib.hid (qblk AL.1 XR.out)
  replace L0 := Lib.hid (L0.out.below2 AL.1)
  replace OW := Lib.hid (own_below OW.out AL.1)
  have S1 := Lib.hid (show RdI (V6.alloc (.cells #[.int .i64 (c.1 - 1), .int .i64 (c.1 + 1)] 3)) (some ⟨V6.heap.size, 0, none⟩) 2 2 [c.1 - 1, c.1 + 1] from RdA.of_own (World.ownsRow_lit (base := w.heap.size) (e := 3) (size := 1) V6 #[.int .i64 (c.1 - 1), .int .i64 (c.1 + 1)] 2 (by first | exact (Nat.le_trans BB.out.size (Nat.le_refl _)) | omega) (by unfold maxLen; omega) rfl))
  clear AL
  obtain ⟨s, hs⟩ : ∃ s, Hid (V6.heap.size = s) := ⟨_, Lib.hid rfl⟩
  have SL : Hid (s < (V6.alloc (.cells #[.int .i64 (c.1 - 1), .int .i64 (c.1 + 1)] 3)).heap.size) := Lib.hid (by rw [World.size_alloc]; have := hs.out; omega)
  have NES : Hid (l0 ≠ s) := Lib.hid (by have h1 := OL.out; have h2 := hs.out; omega)
  rw [hs.out] at S1 ⊢
  generalize V6.alloc (.cells #[.int .i64 (c.1 - 1), .int .i64 (c.1 + 1)] 3) = V7 at *
  go_loopw [5, 36] (fun l v wr => ∃ (k : Nat) (oa : Option Addr) (oc : Nat), v = .int .i64 k ∧ l = .slice oa (nbK f c k).length oc ∧ k ≤ 2 ∧ Hid (wr.ownsRow w.heap.size 3 1 (.slice oa (nbK f c k).length oc) (nbK f c k).length ((nbK f c k).map intV)) ∧ Hid (Value.ownBlock (.slice oa (nbK f c k).length oc) ≠ some s ∧ s < wr.heap.size) ∧ Hid (Below w.heap.size w wr) ∧ Hid (wr.heap[p]? = some (.cells (f.cells a n) 28 (0, 0))) ∧ Hid (wr.heap[r]? = some (.cells (cellA c) 41 (0, 0))) ∧ Hid (RdI wr (some ⟨s, 0, none⟩) 2 2 [c.1 - 1, c.1 + 1]) ∧ Hid (LoopAt rec D .ready none wr)) (fun _ v _ => 2 - (intOf v).toNat)
  case atStart => exact ⟨0, some ⟨l0, 0, none⟩, 2, rfl, rfl, Nat.zero_le _, OW, Lib.hid ⟨fun e => NES.out (Option.some.inj e), SL.out⟩, BF, XF, XR, S1, L0⟩
  case round =>
    clear OW BF XF XR S1 L0
    obtain ⟨k, oa, oc, rfl, rfl, hk, OW, NO, BF, XF, XR, S1, L0⟩ := hrel
    by_cases hkn : k < 2
    · have t0 : decide ((k : Int) < 2) = true := by simp; omega
      have HX := Lib.hid (show [c.1 - 1, c.1 + 1][k]? = some (ringAt c k) by
        have : k = 0 ∨ k = 1 := by omega
        rcases this with e | e <;> subst e <;> rfl)
      obtain ⟨b0, off, e0, hx⟩ := S1.out.get HX.out
      cases e0
      rw [Nat.zero_add] at hx
      have se := SE.out
      have RA : Hid (-1 ≤ ringAt c k ∧ ringAt c k ≤ 30) := Lib.hid (by have := CI.out; have := IV.out; unfold ringAt; split <;> omega)
      obtain ⟨x, hxr⟩ : ∃ x, Hid (ringAt c k = x) := ⟨_, Lib.hid rfl⟩
      rw [hxr.out] at hx RA
      have c0 := qcell XF.out 0 (.int .i64 f.eye) rfl
      have c1 := qcell XF.out 1 (.int .i64 f.rings) rfl
      have c2 := qcell XF.out 2 (.int .i64 f.sectors) rfl
      have c3 := qcell XF.out 3 (.slice a f.kinds.length n) rfl
      have d0 := qcell XR.out 0 (.int .i64 c.1) rfl
      have d1 := qcell XR.out 1 (.int .i64 c.2) rfl
      go_wp2_with fail
      refine (within_any x 0 (f.rings - 1) wr).mono ?_
      rintro e V8 ⟨rfl, rfl⟩
      clear t0 hx se
      have hk2 := hkn
      cases hb : inB x 0 (f.rings - 1)
      · go_wp2_with (first
          | (refine wpList_load_row rfl 28 _ rfl p rfl 28 (f.cells a n) (0, 0) _ XF.out Tryz.underlying28 rfl (by exact (qJF f a n)) ?_)
          | (refine wpList_load_row rfl 41 _ rfl r rfl 41 (cellA c) (0, 0) _ XR.out Tryz.underlying41 rfl (by exact (qJC c)) ?_)
          | fail)
        go_roundw
        case rel =>
          have e : nbK f c (k + 1) = nbK f c k := by rw [nbK_succ, hxr.out, if_neg (by rw [hb]; decide), List.append_nil]
          refine ⟨k + 1, oa, oc, by simp, by rw [e], by omega, ?_, ?_, BF, XF, XR, S1, L0⟩
          · rw [e]; exact OW
          · rw [e]; exact NO
        case measure => simp [intOf]; omega
      · have HB := Lib.hid hb
        clear hb
        have NL := Lib.hid (nbK_len f c k)
        have K2 : Hid (k < 2) := Lib.hid hk2
        go_wp2_with (first
          | (refine wpList_load_row rfl 28 _ rfl p rfl 28 (f.cells a n) (0, 0) _ XF.out Tryz.underlying28 rfl (by exact (qJF f a n)) ?_)
          | (refine wpList_load_row rfl 41 _ rfl r rfl 41 (cellA c) (0, 0) _ XR.out Tryz.underlying41 rfl (by exact (qJC c)) ?_)
          | fail)
        refine (index_any f a n x c.2 V8 (by have := IV.out; omega) (by have := RA.out; omega)).mono ?_
        rintro e V9 ⟨rfl, b⟩
        replace L0 := Lib.hid (L0.out.below2 b)
        replace OW := Lib.hid (own_below OW.out b)
        replace S1 := Lib.hid (RdI.below S1.out b)
        replace NO := Lib.hid (And.intro NO.out.1 (Nat.lt_of_lt_of_le NO.out.2 b.size))
        clear c0 c1 c2 c3 d0 d1
        replace BF := Lib.hid (BF.out.trans (b.mono BF.out.size))
        replace XF := Lib.hid (qblk b XF.out)
        replace XR := Lib.hid (qblk b XR.out)
        clear b
        have c0 := qcell XF.out 0 (.int .i64 f.eye) rfl
        have c1 := qcell XF.out 1 (.int .i64 f.rings) rfl
        have c2 := qcell XF.out 2 (.int .i64 f.sectors) rfl
        have c3 := qcell XF.out 3 (.slice a f.kinds.length n) rfl
        have d0 := qcell XR.out 0 (.int .i64 c.1) rfl
        have d1 := qcell XR.out 1 (.int .i64 c.2) rfl
        go_wp2_with (first
          | (refine wpList_load_row rfl 28 _ rfl p rfl 28 (f.cells a n) (0, 0) _ XF.out Tryz.underlying28 rfl (by exact (qJF f a n)) ?_)
          | (refine wpList_load_row rfl 41 _ rfl r rfl 41 (cellA c) (0, 0) _ XR.out Tryz.underlying41 rfl (by exact (qJC c)) ?_)
          | (at_builtin; refine appr_ints _ rfl _ _ rfl rfl w.heap.size _ _ _ (nbK f c k) rfl (own_below OW.out (zB V9 _)) _ _ _ [indexF f x c.2] rfl (by decide) (lit_int V9 (indexF f x c.2)) (by have := NL.out; have := K2.out; omega) (Nat.le_trans BF.out.size (zB V9 _).size) ?_; intro oa2 oc2 V10 h1 h2 h3 h4; clear c0 c1 c2 c3 d0 d1; replace BF := Lib.hid (h3 _ (BF.out.trans ((zB V9 _).mono BF.out.size))); replace XF := Lib.hid (h2 _ _ (qblk (zB V9 _) XF.out) (by simp)); replace XR := Lib.hid (h2 _ _ (qblk (zB V9 _) XR.out) (by simp)); replace L0 := Lib.hid ((L0.out.below2 (zB V9 _)).kept2 h2); replace S1 := Lib.hid (h4.rd (RdI.below S1.out (zB V9 _)) (Ne.symm NO.out.1)); replace NO := Lib.hid (h4.no s NO.out.1 (Nat.lt_of_lt_of_le NO.out.2 (zB V9 _).size)); replace OW := Lib.hid h1; clear h1 h2 h3 h4; have c0 := qcell XF.out 0 (.int .i64 f.eye) rfl; have c1 := qcell XF.out 1 (.int .i64 f.rings) rfl; have c2 := qcell XF.out 2 (.int .i64 f.sectors) rfl; have c3 := qcell XF.out 3 (.slice a f.kinds.length n) rfl; have d0 := qcell XR.out 0 (.int .i64 c.1) rfl; have d1 := qcell XR.out 1 (.int .i64 c.2) rfl)
          | fail)
        go_roundw
        case rel =>
          have e : nbK f c (k + 1) = nbK f c k ++ [indexF f x c.2] := by rw [nbK_succ, hxr.out, if_pos HB.out]
          refine ⟨k + 1, oa2, oc2, by simp, by rw [e, List.length_append]; rfl, by have := K2.out; omega, ?_, ?_, BF, XF, XR, S1, L0⟩
          · rw [e, List.length_append]; exact OW
          · rw [e, List.length_append]; exact NO
        case measure => have := K2.out; simp [intOf]; omega
    · have t0 : decide ((k : Int) < 2) = false := by simp; omega
      have e : k = 2 := by omega
      subst e
      have EL : Hid (nbK f c 2 = neighL f i) := Lib.hid (by rw [← hc.out]; exact nbK_two f i)
      have NL := Lib.hid (nbK_len f c 2)
      rw [EL.out] at OW NL ⊢
      go_wp2_with fail
      refine (sortZ_any w.heap.size oa _ oc (neighL f i) wr OW.out (by have := NL.out; omega) (by have := NL.out; omega) BF.out.size).mono ?_
      rintro e V8 ⟨rfl, own, kept⟩
      replace OW := Lib.hid own
      replace BF := Lib.hid (kept.2 _ BF.out)
      replace L0 := Lib.hid (L0.out.kept2 kept.1)
      clear own kept t0 XF XR S1 NO
      go_wp2_with fail
      refine (compactZ_any w.heap.size oa _ oc _ V8 OW.out (by have := NL.out; omega) (by have := NL.out; omega) BF.out.size).mono ?_
      rintro e V9 ⟨rfl, own, kept⟩
      rw [sort_uniq] at own ⊢
      replace OW := Lib.hid own
      replace BF := Lib.hid (kept.2 _ BF.out)
      replace L0 := Lib.hid (L0.out.kept2 kept.1)
      clear own kept
      have EN : Hid (uniqS (neighL f i) = neighF f i) := Lib.hid rfl
      rw [EN.out] at OW ⊢
      have NN := Lib.hid (neigh_len HV.out i)
      obtain ⟨g, hg⟩ : ∃ g, oa = some ⟨g, 0, none⟩ := by
        rcases OW.out.2 with ⟨h1, h2⟩ | ⟨g', cap, cur, h1, _⟩
        · have := NN.out; omega
        · simp only [Value.slice.injEq] at h1; exact ⟨g', h1.1⟩
      subst hg
      have GE : Hid (w.heap.size ≤ g ∧ g < V9.heap.size) := Lib.hid (OW.out.lt g rfl)
      have C0 := Lib.hid (H0.out g V9 GE.out.1 GE.out.2 BF.out)
      have I0 : Hid (ItAt (neighF f i) g oc V9) := Lib.hid ⟨by
          obtain ⟨g', cap, cur, h1, _, h2, _⟩ := OW.out.2.resolve_left (fun h => by cases h.1)
          simp only [Value.slice.injEq, Option.some.injEq, Addr.mk.injEq] at h1
          obtain ⟨⟨rfl, _⟩, _⟩ := h1
          exact ⟨cur, h2⟩, RdA.of_own OW.out⟩
      clear OW
      obtain ⟨L, hL⟩ : ∃ L, Hid (neighF f i = L) := ⟨_, Lib.hid rfl⟩
      rw [hL.out] at I0 NN HYI ⊢
      go_wp2_with fail
      refine (wpIn_wide (n := m)).1 ?_
      gi_loopw [59] (fun v wr => ∃ k : Nat, v = .int .i64 k ∧ k ≤ L.length ∧ Hid (Con g (L.take k) wr) ∧ Hid (ItAt L g oc wr) ∧ Hid (LoopAt rec D .ready none wr)) (fun v _ => L.length - (intOf v).toNat)
      case atStart => exact ⟨0, rfl, Nat.zero_le _, C0, I0, L0⟩
      case round =>
        clear C0 I0 L0
        obtain ⟨k, rfl, hk, C0, I0, L0⟩ := hrel
        by_cases hkn : k < L.length
        · have t0 : decide ((k : Int) < (L.length : Int)) = true := by simp; omega
          obtain ⟨x, hx⟩ : ∃ x, L[k]? = some x := ⟨L[k], List.getElem?_eq_getElem hkn⟩
          obtain ⟨b0, off, e0, hc⟩ := I0.out.2.get hx
          cases e0
          rw [Nat.zero_add] at hc
          have hk64 : (k : Int) + 1 ≤ 9223372036854775807 := by have := NN.out; omega
          have ED := Lib.hid (show L = L.take k ++ x :: L.drop (k + 1) by
            have h1 := List.drop_eq_getElem_cons hkn
            rw [List.getElem?_eq_getElem hkn] at hx
            rw [Option.some.inj hx] at h1
            rw [← h1, List.take_append_drop])
          have ET := Lib.hid (show L.take (k + 1) = L.take k ++ [x] by rw [List.take_add_one, hx]; rfl)
          clear hx
          obtain ⟨fn, tmps, assign, body, hy, hRo⟩ := HYI.out g oc (L.take k) x (L.drop (k + 1)) wr ED.out C0.out I0.out L0.out
          gi_wp2
          refine ⟨fun h => by simp [Fence.wide] at h, ?_⟩
          refine hRo.mono ?_
          rintro e W6 ⟨rfl, hC, hI, hL6⟩
          rw [← ET.out] at hC
          replace C0 := Lib.hid hC
          replace I0 := Lib.hid hI
          replace L0 := Lib.hid hL6
          clear hRo hy hC hI hL6 hc t0
          gi_wp2
          go_roundw
          case rel => exact ⟨k + 1, by simp, by omega, C0, I0, L0⟩
          case measure => simp [intOf]; omega
        · have t0 : decide ((k : Int) < (L.length : Int)) = false := by simp; omega
          have e : k = L.length := by omega
          subst e
          rw [List.take_length] at C0
          gi_wp2
          go_end0
          exact ⟨⟨_, rfl⟩, ⟨g, by rw [hL.out]; exact C0.out⟩, L0.out⟩
end Go.Proofs.YtimmadkbkimonaaGreatDoor
namespace Go.Proofs.YtimmadkbkimonaaGreatDoor
set_option linter.unusedSimpArgs false
set_option linter.unusedVariables false
open Go.RowKit

theorem qwide_round (l : Nat) : Wide (Fence.wide.inRound l) := .inr ⟨l, rfl⟩
theorem qnot_lets {Q : Exit → Act → World → Prop} (h : ∀ a w, ¬ Q .outgrown a w) : ¬ LetsOut Q := fun ⟨a, w, hq⟩ => h a w hq
set_option maxHeartbeats 4000000 in
set_option maxRecDepth 100000 in
theorem neighbours_any (f : FaceV) (a : Option Addr) (n : Nat) (i : Int) (w : World) : Calls Tryz.prog 87 #[.agg (f.cells a n), .int .i64 i] w fun e w' => (∃ p q, e = .returned (.func (.func 129) #[] #[.pointer (some ⟨p, 0, none⟩), .pointer (some ⟨q, 0, none⟩)]) ∧ w'.heap[p]? = some (.cells (f.cells a n) 28 (0, 0)) ∧ w'.heap[q]? = some (.cells #[.int .i64 i] 3 (0, 0))) ∧ Below w.heap.size w w' := by
  have AL := Lib.hid (al2 w (.cells (f.cells a n) 28) (.cells #[.int .i64 i] 3))
  go_enter Tryz.func87, Tryz.ntmps87
  go_upto_region 1 with fail
  obtain ⟨p, hp⟩ : ∃ p, Hid (w.heap.size = p) := ⟨_, Lib.hid rfl⟩
  obtain ⟨q, hq⟩ : ∃ q, Hid (w.heap.size + 1 = q) := ⟨_, Lib.hid rfl⟩
  rw [hq.out] at AL ⊢
  rw [hp.out] at AL ⊢
  generalize ((w.alloc (.cells (f.cells a n) 28)).alloc (.cells #[.int .i64 i] 3)) = W0 at *
  have BF : Hid (Below w.heap.size w W0) := Lib.hid (by rw [hp.out]; exact AL.out.1)
  have XF : Hid (W0.heap[p]? = some (.cells (f.cells a n) 28 (0, 0))) := Lib.hid AL.out.2.1
  have XI : Hid (W0.heap[q]? = some (.cells #[.int .i64 i] 3 (0, 0))) := Lib.hid AL.out.2.2
  clear AL
  have c0 := qcell XF.out 0 (.int .i64 f.eye) rfl
  have c1 := qcell XF.out 1 (.int .i64 f.rings) rfl
  have c2 := qcell XF.out 2 (.int .i64 f.sectors) rfl
  have c3 := qcell XF.out 3 (.slice a f.kinds.length n) rfl
  have d0 := qcell XI.out 0 (.int .i64 i) rfl
  go_wp2_with (first
    | (refine wpList_load_row rfl 28 _ rfl p rfl 28 (f.cells a n) (0, 0) _ XF.out Tryz.underlying28 rfl (by exact (qJF f a n)) ?_)
    | fail)
  go_ret
  exact ⟨⟨p, q, rfl, XF.out, XI.out⟩, BF.out⟩
structure NbC (w : World) (p o : Nat) (f : FaceV) (a : Option Addr) (n : Nat) (ks : List Int) (W : World) : Prop where
  bel : Below w.heap.size w W
  pf : W.heap[p]? = some (.cells (f.cells a n) 28 (0, 0))
  blk : ∃ oa oc, W.heap[o]? = some (.cells #[.slice oa ks.length oc] 44 (0, 0)) ∧ W.ownsRow w.heap.size 41 2 (.slice oa ks.length oc) ks.length (cellsV (ks.map (cellF f)))
theorem NbC.below {w W W' : World} {p o : Nat} {f : FaceV} {a : Option Addr} {n : Nat} {ks : List Int} (h : NbC w p o f a n ks W) (hb : Below W.heap.size W W') : NbC w p o f a n ks W' := by
  obtain ⟨oa, oc, h1, h2⟩ := h.blk
  exact ⟨h.bel.trans (hb.mono h.bel.size), qblk hb h.pf, oa, oc, qblk hb h1, own_below h2 hb⟩
theorem NbC.put {w W : World} {p o r : Nat} {f : FaceV} {a : Option Addr} {n : Nat} {ks : List Int} {ob : Obj} (h : NbC w p o f a n ks W) (hl : ∃ l, W.heap[r]? = some (.loop l)) (hr : w.heap.size ≤ r) : NbC w p o f a n ks (W.putObj r ob) := by
  obtain ⟨l, hl⟩ := hl
  obtain ⟨oa, oc, h1, h2⟩ := h.blk
  have G := grownBy_putObj' W r ob
  have ne : ∀ {k : Nat} {A : Array Value} {t : TypeId} {fr : Nat × Nat}, W.heap[k]? = some (.cells A t fr) → some k ≠ some r := fun hk e => by rw [Option.some.inj e, hl] at hk; cases hk
  exact ⟨qstep h.bel G hr, qgrown G h.pf (ne h.pf), oa, oc, qgrown G h1 (ne h1), h2.kept G (.inr (qown_no h2 hl (by simp)).symm)⟩
end Go.Proofs.YtimmadkbkimonaaGreatDoor
namespace Go.Proofs.YtimmadkbkimonaaGreatDoor
set_option linter.unusedSimpArgs false
set_option linter.unusedVariables false
open Go.RowKit

structure FlAt (w : World) (ds : List Deferred) (p m b y c6 c9 : Nat) (f : FaceV) (a : Option Addr) (n : Nat) (i many : Int) (nm : Nat) (o : OfM) (work : List Int) (wa : Option Addr) (wc : Nat) (W : World) : Prop where
  bel : Below w.heap.size w W
  hp : W.heap[p]? = some (.cells (f.cells a n) 28 (0, 0))
  hm : W.heap[m]? = some (.cells #[.map (some b)] 115 (0, 0))
  hy : W.heap[y]? = some (.cells #[.int .i64 many] 3 (0, 0))
  hi : W.heap[c6]? = some (.cells #[.int .i64 i] 3 (0, 0))
  hk : W.heap[c9]? = some (.cells #[.slice wa work.length wc] 26 (0, 0))
  own : W.ownsRow w.heap.size 3 1 (.slice wa work.length wc) work.length (work.map intV)
  mp : MapI W b nm o
  ny : Value.ownBlock (.slice wa work.length wc) ≠ some y
  ni : Value.ownBlock (.slice wa work.length wc) ≠ some c6
  marks : Marks w.heap.size ds W
  ge : w.heap.size ≤ b ∧ w.heap.size ≤ y ∧ w.heap.size ≤ c9
section
variable {w W W' : World} {ds : List Deferred} {p m b y c6 c9 : Nat} {f : FaceV} {a : Option Addr} {n : Nat} {i many : Int} {nm : Nat} {o : OfM} {work : List Int} {wa : Option Addr} {wc : Nat}
theorem FlAt.below (h : FlAt w ds p m b y c6 c9 f a n i many nm o work wa wc W) (hb : Below W.heap.size W W') : FlAt w ds p m b y c6 c9 f a n i many nm o work wa wc W' :=
  ⟨h.bel.trans (hb.mono h.bel.size), qblk hb h.hp, qblk hb h.hm, qblk hb h.hy, qblk hb h.hi, qblk hb h.hk, own_below h.own hb, h.mp.below hb, h.ny, h.ni, h.marks.below hb, h.ge⟩
theorem FlAt.other {r : Nat} {ob : Obj} (h : FlAt w ds p m b y c6 c9 f a n i many nm o work wa wc W) (hr : W.heap[r]? = some ob) (hno : ∀ A t fr, ob ≠ .cells A t fr) (hd : ob ≠ .deferred (some [])) (hg : W.grownBy W' (some r)) (hge : w.heap.size ≤ r) (hmp : MapI W' b nm o) : FlAt w ds p m b y c6 c9 f a n i many nm o work wa wc W' := by
  have ne : ∀ {k : Nat} {A : Array Value} {t : TypeId} {fr : Nat × Nat}, W.heap[k]? = some (.cells A t fr) → some k ≠ some r := fun hk e => by
    rw [Option.some.inj e, hr] at hk
    exact hno _ _ _ (Option.some.inj hk)
  exact ⟨qstep h.bel hg hge, qgrown hg h.hp (ne h.hp), qgrown hg h.hm (ne h.hm), qgrown hg h.hy (ne h.hy), qgrown hg h.hi (ne h.hi), qgrown hg h.hk (ne h.hk), h.own.kept hg (.inr (qown_no h.own hr (fun cur e => hno _ _ _ e)).symm), hmp, h.ny, h.ni,
    h.marks.step hg (fun k e h1 => by cases e; rw [hr] at h1; exact hd (Option.some.inj h1)), h.ge⟩
theorem FlAt.put {r : Nat} {ob : Obj} (h : FlAt w ds p m b y c6 c9 f a n i many nm o work wa wc W) (hl : ∃ l, W.heap[r]? = some (.loop l)) (hge : w.heap.size ≤ r) : FlAt w ds p m b y c6 c9 f a n i many nm o work wa wc (W.putObj r ob) := by
  obtain ⟨l, hl⟩ := hl
  refine h.other hl (by simp) (by simp) (grownBy_putObj' W r ob) hge (h.mp.step (grownBy_putObj' W r ob) (fun e => ?_))
  obtain ⟨es, ck, hb⟩ := h.mp.blk
  rw [e, hl] at hb
  cases hb
theorem FlAt.upd {k v : Int} {nm' : Nat} (h : FlAt w ds p m b y c6 c9 f a n i many nm o work wa wc W) (hg : W.grownBy W' (some b)) (hm : MapI W' b nm' (updM o k v)) : FlAt w ds p m b y c6 c9 f a n i many nm' (updM o k v) work wa wc W' := by
  obtain ⟨es, ck, hb⟩ := h.mp.blk
  have ne : ∀ {k : Nat} {A : Array Value} {t : TypeId} {fr : Nat × Nat}, W.heap[k]? = some (.cells A t fr) → some k ≠ some b := fun hk e => by
    rw [Option.some.inj e, hb] at hk
    cases hk
  exact ⟨qstep h.bel hg h.ge.1, qgrown hg h.hp (ne h.hp), qgrown hg h.hm (ne h.hm), qgrown hg h.hy (ne h.hy), qgrown hg h.hi (ne h.hi), qgrown hg h.hk (ne h.hk), h.own.kept hg (.inr (qown_no h.own hb (by simp)).symm), hm, h.ny, h.ni,
    h.marks.step hg (fun k e h1 => by cases e; rw [hb] at h1; cases h1), h.ge⟩
theorem FlAt.cell {work' : List Int} {wa' : Option Addr} {wc' : Nat} {V : World} (h : FlAt w ds p m b y c6 c9 f a n i many nm o work wa wc W) (hk : ∀ (p : Nat) (ob : Obj), W.heap[p]? = some ob → (∀ cur, ob ≠ .cells cur 3 (0, 0)) → V.heap[p]? = some ob) (hbel : Below w.heap.size w V)
    (hy : V.heap[y]? = some (.cells #[.int .i64 many] 3 (0, 0))) (hi : V.heap[c6]? = some (.cells #[.int .i64 i] 3 (0, 0))) (hown : V.ownsRow w.heap.size 3 1 (.slice wa' work'.length wc') work'.length (work'.map intV))
    (hny : Value.ownBlock (.slice wa' work'.length wc') ≠ some y) (hni : Value.ownBlock (.slice wa' work'.length wc') ≠ some c6) : FlAt w ds p m b y c6 c9 f a n i many nm o work' wa' wc' (V.setCell ⟨c9, 0, none⟩ (.slice wa' work'.length wc')) := by
  have hk9 := hk _ _ h.hk (by simp)
  have hg := qput_grown V c9 0 (.slice wa' work'.length wc')
  obtain ⟨es, ck, hb⟩ := h.mp.blk
  have hbV := hk _ _ hb (by simp)
  have mpV : MapI V b nm o := h.mp.of_block (by rw [hbV, hb])
  have ne : ∀ {k : Nat} {A : Array Value} {t : TypeId}, V.heap[k]? = some (.cells A t (0, 0)) → t ≠ 26 → some k ≠ some c9 := fun hq ht e => by
    rw [Option.some.inj e, hk9] at hq
    simp only [Option.some.injEq, Obj.cells.injEq] at hq
    exact ht hq.2.1.symm
  refine ⟨qstep hbel hg h.ge.2.2, qgrown hg (hk _ _ h.hp (by simp)) (ne (hk _ _ h.hp (by simp)) (by decide)), qgrown hg (hk _ _ h.hm (by simp)) (ne (hk _ _ h.hm (by simp)) (by decide)), qgrown hg hy (ne hy (by decide)), qgrown hg hi (ne hi (by decide)), ?_, ?_, ?_, hny, hni, ?_, h.ge⟩
  · rw [qput_at hk9 0 _]; rfl
  · exact hown.kept hg (.inr (qown_no hown hk9 (by simp)).symm)
  · exact mpV.step hg (fun e => by rw [e, hk9] at hbV; cases hbV)
  · exact (h.marks.kept fun r hr => hk r _ hr (by simp)).step hg (fun r e h1 => by cases e; rw [hk9] at h1; cases h1)
theorem own_shrink {ws : List Int} {x : Int} (h : W.ownsRow w.heap.size 3 1 (.slice wa (ws ++ [x]).length wc) (ws ++ [x]).length ((ws ++ [x]).map intV)) : W.ownsRow w.heap.size 3 1 (.slice wa ws.length wc) ws.length (ws.map intV) ∧ ∃ g, wa = some ⟨g, 0, none⟩ ∧ W.cell? ⟨g, ws.length, none⟩ = some (.int .i64 x) ∧ ws.length + 1 ≤ wc := by
  obtain ⟨h1, h2⟩ := h
  rcases h2 with ⟨_, h2⟩ | ⟨g, cap, cur, hv, hb, hg, hn, hc, hs, ht⟩
  · simp at h2
  · simp only [Value.slice.injEq] at hv
    obtain ⟨rfl, _, rfl⟩ := hv
    rw [List.length_append, List.length_singleton] at hn ht
    refine ⟨⟨by simp, .inr ⟨g, wc, cur, rfl, hb, hg, by omega, hc, hs, ?_⟩⟩, g, rfl, ?_, hn⟩
    · have e : cur.toList.take (ws.length * 1) = (cur.toList.take ((ws.length + 1) * 1)).take (ws.length * 1) := by rw [List.take_take]; congr 1; omega
      rw [e, ht, List.map_append]
      rw [Nat.mul_one, List.take_left' (by simp)]
    · refine qcell hg ws.length _ ?_
      have e : (cur.toList.take ((ws.length + 1) * 1))[ws.length]? = ((ws ++ [x]).map intV)[ws.length]? := by rw [ht]
      rw [List.getElem?_take, if_pos (by omega), List.getElem?_map] at e
      simp at e
      simpa [intV] using e
theorem FlAt.pop {ws : List Int} {x : Int} (h : FlAt w ds p m b y c6 c9 f a n i many nm o (ws ++ [x]) wa wc W) : FlAt w ds p m b y c6 c9 f a n i many nm o ws wa wc (W.setCell ⟨c9, 0, none⟩ (.slice wa ws.length wc)) := by
  have e : Value.ownBlock (.slice wa (ws ++ [x]).length wc) = Value.ownBlock (.slice wa ws.length wc) := by cases wa <;> rfl
  exact h.cell (fun _ _ hp _ => hp) h.bel h.hy h.hi (own_shrink h.own).1 (e ▸ h.ny) (e ▸ h.ni)
end
end Go.Proofs.YtimmadkbkimonaaGreatDoor
