/- Parts of the proof, in this order: floor, cut of stones; Dress of stones; Normal of stones; awake of law01; Rows of ints of the call's own, as values; The reference's marks in memory: a row of numbers, a work list; Dead of stones; marks of the reference; Regions of the reference; Drains of stones; Dead, Drains of the reference. -/
import Derived.Laws.MakeOwn
import Derived.Deep.Cut
import Derived.Deep.LoopGhost
import Derived.Test.YtimmadkbkimonaaGreatDoorKPsx4
set_option linter.unusedSimpArgs false
set_option linter.unusedVariables false
open List renaming getElem_toArray → lq0, getElem_cons_succ → lq1, getElem_cons_zero → lq2, setIfInBounds_toArray → lq3, set_cons_zero → lq4, set_cons_succ → lq5
namespace Go.Proofs.YtimmadkbkimonaaGreatDoor
set_option linter.unusedSimpArgs false
set_option linter.unusedVariables false
open Go.RowKit

theorem kept_below {base : Nat} {w w' : World} (hb : Below w.heap.size w w') (h : base ≤ w.heap.size) : KeptBut base w w' := ⟨fun p ob hp _ => qblk hb hp, fun W hW => hW.trans (hb.mono h)⟩
theorem KeptBut.trans {base : Nat} {w w' w'' : World} (h : KeptBut base w w') (h' : KeptBut base w' w'') : KeptBut base w w'' := ⟨fun p ob hp hn => h'.1 p ob (h.1 p ob hp hn) hn, fun W hW => h'.2 W (h.2 W hW)⟩
theorem KeptBut.refl (base : Nat) (w : World) : KeptBut base w w := ⟨fun _ _ h _ => h, fun _ h => h⟩
theorem kept_put {base g i : Nat} {w : World} {v : Value} {cur : Array Value} (hg : w.heap[g]? = some (.cells cur 3 (0, 0))) (hb : base ≤ g) (h : base ≤ w.heap.size) : KeptBut base w (w.setCell ⟨g, i, none⟩ v) :=
  ⟨fun p ob hp hn => qgrown (qput_grown w g i v) hp (fun e => by
    cases (Option.some.inj e)
    rw [hg] at hp
    cases hp
    exact hn _ rfl), fun W hW => hW.grown (qput_grown w g i v) h (fun k e => by cases e; exact hb)⟩
theorem own_block {w : World} {base g n c : Nat} {xs : List Value} (h : w.ownsRow base 3 1 (.slice (some ⟨g, 0, none⟩) n c) n xs) : ∃ cur, w.heap[g]? = some (.cells cur 3 (0, 0)) := by
  obtain ⟨h1, h2⟩ := h
  rcases h2 with ⟨h2, _⟩ | ⟨g', cap, cur, hv, hb, hg, _⟩
  · cases h2
  · simp only [Value.slice.injEq, Option.some.injEq, Addr.mk.injEq] at hv
    obtain ⟨⟨rfl, _, _⟩, _, rfl⟩ := hv
    exact ⟨cur, hg⟩
structure CuAt (base : Nat) (w : World) (p q : Nat) (f : FaceV) (a : Option Addr) (n : Nat) (x : FurV) (l : List Int) (W : World) : Prop where
  kept : KeptBut base w W
  le : base ≤ W.heap.size
  xf : W.heap[p]? = some (.cells (f.cells a n) 28 (0, 0))
  xu : W.heap[q]? = some (.cells (furA x) 76 (0, 0))
  own : W.ownsRow base 3 1 (.slice a f.kinds.length n) f.kinds.length (l.map intV)
theorem CuAt.below {base : Nat} {w : World} {p q : Nat} {f : FaceV} {a : Option Addr} {n : Nat} {x : FurV} {l : List Int} {W W' : World} (h : CuAt base w p q f a n x l W) (hb : Below W.heap.size W W') : CuAt base w p q f a n x l W' :=
  ⟨h.kept.trans (kept_below hb h.le), Nat.le_trans h.le hb.size, qblk hb h.xf, qblk hb h.xu, own_below h.own hb⟩
theorem CuAt.put {base : Nat} {w : World} {p q : Nat} {f : FaceV} {g n : Nat} {x : FurV} {l : List Int} {W : World} (h : CuAt base w p q f (some ⟨g, 0, none⟩) n x l W) {i : Nat} (hi : i < f.kinds.length) (v : Int) :
    CuAt base w p q f (some ⟨g, 0, none⟩) n x (l.set i v) (W.setCell ⟨g, i, none⟩ (.int .i64 v)) ∧ W.cell? ⟨g, i, none⟩ = some (.int .i64 (l[i]?.getD 0)) ∧ W.frozen? ⟨g, i, none⟩ = false := by
  obtain ⟨cur, hc⟩ := own_block h.own
  obtain ⟨o1, o2, o3, o4⟩ := own_put h.own hi v
  have K := kept_put (i := i) (v := .int .i64 v) hc o4 h.le
  exact ⟨⟨h.kept.trans K, (by have := (K.2 W (Below.refl _ _)).size; have := h.le; omega), K.1 _ _ h.xf (by simp), K.1 _ _ h.xu (by simp), o1⟩, o2, o3⟩
set_option maxHeartbeats 4000000 in
set_option maxRecDepth 100000 in
theorem floor_any (a b : Int) (w : World) (ha : -1000000 ≤ a ∧ a ≤ 1000000) (hb : 1 ≤ b ∧ b ≤ 1000000) : Calls Tryz.prog 111 #[.int .i64 a, .int .i64 b] w fun e w' => e = .returned (.int .i64 (a / b)) ∧ w' = w := by
  have HA := Lib.hid (floor_eq a b (by omega))
  have HR : Hid (0 ≤ around a b ∧ around a b < b) := Lib.hid (by unfold around; exact ⟨Int.emod_nonneg _ (by omega), Int.emod_lt_of_pos _ (by omega)⟩)
  have ws : wrap64 (a - around a b) = a - around a b := by have := HR.out; unfold wrap64; omega
  have HQ : Hid (-2000000 ≤ a / b ∧ a / b ≤ 2000000) := Lib.hid (by
    constructor
    · exact (Int.le_ediv_iff_mul_le (by omega)).2 (by omega)
    · have := Int.ediv_le_ediv (show 0 < b by omega) (show a ≤ 2000000 by omega)
      have h2 := Int.ediv_le_self (b := b) (show (0 : Int) ≤ 2000000 by omega) 
      omega)
  have wd : wrap64 (Int.tdiv (a - around a b) b) = a / b := by rw [HA.out]; have := HQ.out; unfold wrap64; omega
  have h0 : (b == 0) = false := by simp; omega
  have h0' : b ≠ 0 := by omega
  have AR := Lib.hid (around_any a b w ⟨hb.1, by omega⟩)
  clear ha hb
  go_enter Tryz.func111, Tryz.ntmps111
  go_wp2_with fail
  refine AR.out.mono ?_
  rintro e V1 ⟨rfl, rfl⟩
  go_wp2_with fail
  go_ret
  exact ⟨by first | rfl | (rw [← wd]; rfl) | (rw [wd]), rfl⟩
set_option maxHeartbeats 4000000 in
set_option maxRecDepth 100000 in
theorem cut_any (f : FaceV) (a : Option Addr) (n : Nat) (x : FurV) (ring first : Int) (base : Nat) (w : World) (hv : f.valid = true) (hx : (0 ≤ x.at_ ∧ x.at_ ≤ 96) ∧ (1 ≤ x.leans ∧ x.leans ≤ 96) ∧ (1 ≤ x.steep ∧ x.steep ≤ 96) ∧ 0 ≤ x.feather ∧ x.feather ≤ 96) (hr : 0 ≤ ring ∧ ring ≤ f.rings - 1) (hf : 0 ≤ first ∧ first ≤ 10000) (hl : -2304 ≤ (f.rings - 1 - ring) * x.lean ∧ (f.rings - 1 - ring) * x.lean ≤ 2304) (hown : w.ownsRow base 3 1 (.slice a f.kinds.length n) f.kinds.length (f.kinds.map intV)) (hbase : base ≤ w.heap.size) :
    Calls Tryz.prog 65 #[.agg (f.cells a n), .agg (furA x), .int .i64 ring, .int .i64 first] w fun e w' => e = .returned (.tuple #[]) ∧ w'.ownsRow base 3 1 (.slice a f.kinds.length n) f.kinds.length ((cutK f x ring first f.kinds (wideF x)).map intV) ∧ KeptBut base w w' := by
  have HV := Lib.hid hv
  have IV := Lib.hid (FaceV.int hv)
  have LL := Lib.hid (FaceV.len_le hv)
  have HX := Lib.hid hx
  have HRG := Lib.hid hr
  have HF := Lib.hid hf
  have HLN := Lib.hid hl
  have OWN := Lib.hid hown
  have HBS := Lib.hid hbase
  clear hv hx hr hf hl hown hbase
  have AL := Lib.hid (al2 w (.cells (f.cells a n) 28) (.cells (furA x) 76))
  go_enter Tryz.func65, Tryz.ntmps65
  go_upto_region 1 with fail
  obtain ⟨p, hp⟩ : ∃ p, Hid (w.heap.size = p) := ⟨_, Lib.hid rfl⟩
  obtain ⟨q, hq⟩ : ∃ q, Hid (w.heap.size + 1 = q) := ⟨_, Lib.hid rfl⟩
  rw [hq.out] at AL ⊢
  rw [hp.out] at AL ⊢
  generalize ((w.alloc (.cells (f.cells a n) 28)).alloc (.cells (furA x) 76)) = W0 at *
  have BF : Hid (Below w.heap.size w W0) := Lib.hid (by rw [hp.out]; exact AL.out.1)
  have XF : Hid (W0.heap[p]? = some (.cells (f.cells a n) 28 (0, 0))) := Lib.hid AL.out.2.1
  have XU : Hid (W0.heap[q]? = some (.cells (furA x) 76 (0, 0))) := Lib.hid AL.out.2.2
  clear AL
  have c0 := qcell XF.out 0 (.int .i64 f.eye) rfl
  have c1 := qcell XF.out 1 (.int .i64 f.rings) rfl
  have c2 := qcell XF.out 2 (.int .i64 f.sectors) rfl
  have c3 := qcell XF.out 3 (.slice a f.kinds.length n) rfl
  have u0 := qcell XU.out 0 (.int .i64 x.at_) rfl
  have u1 := qcell XU.out 1 (.int .i64 x.from_) rfl
  have u2 := qcell XU.out 2 (.int .i64 x.lean) rfl
  have u3 := qcell XU.out 3 (.int .i64 x.leans) rfl
  have u4 := qcell XU.out 4 (.int .i64 x.steep) rfl
  have u5 := qcell XU.out 5 (.int .i64 x.feather) rfl
  have W1 := Lib.hid (show wrap64 (first + x.at_) = first + x.at_ by have := HF.out; have := HX.out; unfold wrap64; omega)
  have W2 := Lib.hid (show wrap64 (f.rings - 1) = f.rings - 1 by have := IV.out; unfold wrap64; omega)
  have W3 := Lib.hid (show wrap64 (f.rings - 1 - ring) = f.rings - 1 - ring by have := IV.out; have := HRG.out; unfold wrap64; omega)
  have W4 := Lib.hid (show wrap64 ((f.rings - 1 - ring) * x.lean) = (f.rings - 1 - ring) * x.lean by have := HLN.out; unfold wrap64; omega)
  have LQ : Hid (-2304 ≤ leanF f.rings x ring ∧ leanF f.rings x ring ≤ 2304) := Lib.hid (by
    have h1 := HLN.out
    have h2 := HX.out.2.1
    unfold leanF
    constructor
    · exact (Int.le_ediv_iff_mul_le (by omega)).2 (by omega)
    · have := Int.ediv_le_ediv (show 0 < x.leans by omega) h1.2
      have h2 := Int.ediv_le_self (b := x.leans) (show (0 : Int) ≤ 2304 by omega)
      omega)
  have W5 := Lib.hid (show wrap64 (first + x.at_ + leanF f.rings x ring) = first + x.at_ + leanF f.rings x ring by have := HF.out; have := HX.out; have := LQ.out; unfold wrap64; omega)
  have C0 := Lib.hid (show CuAt base w p q f a n x (cutK f x ring first f.kinds 0) W0 from ⟨kept_below BF.out HBS.out, Nat.le_trans HBS.out BF.out.size, XF.out, XU.out, own_below OWN.out BF.out⟩)
  clear c0 c1 c2 c3 u0 u1 u2 u3 u4 u5
  have hd : Below W0.heap.size W0 W0.drew := (Below.refl _ _).drew
  replace C0 := Lib.hid (C0.out.below hd)
  clear hd BF XF XU
  refine zD (fun W => CuAt base w p q f a n x (cutK f x ring first f.kinds 0) W) C0.out (fun hHeld => ?_)
  generalize W0.drew = V0 at *
  refine zW 0 rfl (.int .i64 first) ?_
  refine zW 1 rfl (.pointer (some ⟨q, 0, none⟩)) ?_
  refine zS 2 rfl (.int .i64 x.at_) (fun W hW => by have c := qcell hW.xu 0 (.int .i64 x.at_) rfl; go_simp) ?_
  refine zW 3 rfl (.int .i64 (first + x.at_)) (hy := .inl ⟨by kernel_rfl, by intro W _; go_simp; exact (IntWalk.i64_left _).trans W1.out⟩) ?_
  refine zW 4 rfl (.pointer (some ⟨p, 1, none⟩)) ?_
  refine zS 5 rfl (.int .i64 f.rings) (fun W hW => by have c := qcell hW.xf 1 (.int .i64 f.rings) rfl; go_simp) ?_
  refine zW 6 rfl (.int .i64 (f.rings - 1)) (hy := .inl ⟨by kernel_rfl, by intro W _; go_simp; exact (IntWalk.i64_left _).trans W2.out⟩) ?_
  refine zW 7 rfl (.int .i64 ring) ?_
  refine zW 8 rfl (.int .i64 (f.rings - 1 - ring)) (hy := .inl ⟨by kernel_rfl, by intro W _; go_simp; exact (IntWalk.i64_left _).trans W3.out⟩) ?_
  refine zW 9 rfl (.pointer (some ⟨q, 2, none⟩)) ?_
  refine zS 10 rfl (.int .i64 x.lean) (fun W hW => by have c := qcell hW.xu 2 (.int .i64 x.lean) rfl; go_simp) ?_
  refine zW 11 rfl (.int .i64 ((f.rings - 1 - ring) * x.lean)) (hy := .inl ⟨by kernel_rfl, by intro W _; go_simp; exact (IntWalk.i64_left _).trans W4.out⟩) ?_
  refine zW 12 rfl (.pointer (some ⟨q, 3, none⟩)) ?_
  refine zS 13 rfl (.int .i64 x.leans) (fun W hW => by have c := qcell hW.xu 3 (.int .i64 x.leans) rfl; go_simp) ?_
  refine zR 14 rfl (fun K hK => ?_)
  go_simp
  refine (floor_any ((f.rings - 1 - ring) * x.lean) x.leans V0 (by have := HLN.out; omega) (by have := HX.out.2.1; omega)).mono ?_
  rintro e V1 ⟨rfl, rfl⟩
  dsimp only
  refine zK hK C0.out (fun hHeld => ?_)
  clear hK K
  have eL : ((f.rings - 1 - ring) * x.lean) / x.leans = leanF f.rings x ring := rfl
  rw [eL]
  clear eL
  refine zW 15 rfl (.int .i64 (first + x.at_ + leanF f.rings x ring)) (hy := .inl ⟨by kernel_rfl, by intro W _; go_simp; exact (IntWalk.i64_left _).trans W5.out⟩) ?_
  refine zW 16 rfl (.int .i64 (first + x.at_ + leanF f.rings x ring)) ?_
  refine zE ?_
  clear hHeld
  obtain ⟨fr, hfr⟩ : ∃ fr, Hid (first + x.at_ + leanF f.rings x ring = fr) := ⟨_, Lib.hid rfl⟩
  have FR : Hid (-3000 ≤ fr ∧ fr ≤ 14000) := Lib.hid (by have := HF.out; have := HX.out; have := LQ.out; have := hfr.out; omega)
  rw [hfr.out]
  clear W1 W2 W3 W4 W5 LQ
  obtain ⟨N, hN⟩ : ∃ N, Hid (wideF x = N) := ⟨_, Lib.hid rfl⟩
  have HN : Hid (x.steep + x.feather = (N : Int) ∧ N ≤ 200) := Lib.hid (by have h1 := HX.out; have h2 := hN.out; unfold wideF at h2; omega)
  have ws : wrap64 (x.steep + x.feather) = (N : Int) := by have := HN.out; unfold wrap64; omega
  have u4 := qcell C0.out.xu 4 (.int .i64 x.steep) rfl
  have u5 := qcell C0.out.xu 5 (.int .i64 x.feather) rfl
  go_wp2_with fail
  (try rw [ws])
  clear u4 u5 ws
  go_loopw [32] (fun v wr => ∃ k : Nat, v = .int .i64 k ∧ k ≤ N ∧ Hid (CuAt base w p q f a n x (cutK f x ring first f.kinds k) wr)) (fun v _ => N - (intOf v).toNat)
  case atStart => exact ⟨0, rfl, Nat.zero_le _, C0⟩
  case round =>
    clear C0
    obtain ⟨k, rfl, hk, C0⟩ := hrel
    by_cases hkn : k < N
    · have t0 : decide ((k : Int) < (N : Int)) = true := by simp; omega
      have hk64 : (k : Int) + 1 ≤ 9223372036854775807 := by have := HN.out; omega
      have wf : wrap64 (fr + (k : Int)) = fr + (k : Int) := by have := FR.out; have := HN.out; unfold wrap64; omega
      have HK64 := Lib.hid hk64
      clear hk64
      have XF := Lib.hid C0.out.xf
      have IL := Lib.hid (index_lt HV.out HRG.out (fr + (k : Int)))
      go_upto_region 5 with fail
      clear t0
      go_wp2_with (first | (refine wpList_load_row rfl 28 _ rfl p rfl 28 (f.cells a n) (0, 0) _ XF.out Tryz.underlying28 rfl (by exact qJF f a n) ?_) | fail)
      refine (index_any f a n ring (fr + (k : Int)) _ (by have := IV.out; omega) (by have := HRG.out; have := IV.out; omega)).mono ?_
      rintro e V4 ⟨rfl, b⟩
      replace C0 := Lib.hid (C0.out.below b)
      clear b XF wf
      obtain ⟨i, hi⟩ : ∃ i, Hid ((indexF f ring (fr + (k : Int))).toNat = i) := ⟨_, Lib.hid rfl⟩
      have HI : Hid (indexF f ring (fr + (k : Int)) = (i : Int)) := Lib.hid (by have := IL.out; have := hi.out; omega)
      have HL : Hid (i < f.kinds.length) := Lib.hid (by have := IL.out; have := hi.out; omega)
      rw [HI.out]
      obtain ⟨g, hg⟩ : ∃ g, a = some ⟨g, 0, none⟩ := by
        rcases C0.out.own.2 with ⟨h1, h2⟩ | ⟨g', cap, cur, h1, _⟩
        · have := HL.out; omega
        · simp only [Value.slice.injEq] at h1; exact ⟨g', h1.1⟩
      subst hg
      obtain ⟨l, hl⟩ : ∃ l, Hid (cutK f x ring first f.kinds k = l) := ⟨_, Lib.hid rfl⟩
      have LP := Lib.hid (cutK_succ f x ring first f.kinds k)
      rw [hfr.out, HI.out] at LP
      rw [hl.out] at C0 LP
      unfold putE at LP
      dsimp only at LP
      rw [Int.toNat_natCast] at LP
      have hlt : i < f.kinds.length := HL.out
      have C1 := Lib.hid (C0.out.put HL.out 1)
      obtain ⟨y, hy⟩ : ∃ y, Hid (l[i]?.getD 0 = y) := ⟨_, Lib.hid rfl⟩
      rw [hy.out] at LP C1
      have cc := C1.out.2.1
      have cf := C1.out.2.2
      have c3 := qcell C0.out.xf 3 (.slice (some ⟨g, 0, none⟩) f.kinds.length n) rfl
      cases he : (y == 0)
      · have HE : Hid (y ≠ 0) := Lib.hid (by simpa using he)
        go_upto_region 10 with fail
        have hk64 := HK64.out
        go_wp2_with fail
        go_roundw
        case rel => exact ⟨k + 1, by simp, by omega, Lib.hid (by rw [LP.out, if_neg HE.out]; exact C0.out)⟩
        case measure => simp [intOf]; omega
      · have HE : Hid (y = 0) := Lib.hid (by simpa using he)
        go_upto_region 8 with fail
        clear cc cf c3
        replace C0 := Lib.hid C1.out.1
        clear C1
        generalize wSet : V4.setCell ⟨g, i, none⟩ (.int .i64 1) = V5 at *
        clear wSet
        have C2 := Lib.hid (C0.out.put HL.out 2)
        have cc := C2.out.2.1
        have cf := C2.out.2.2
        have c3 := qcell C0.out.xf 3 (.slice (some ⟨g, 0, none⟩) f.kinds.length n) rfl
        have u4 := qcell C0.out.xu 4 (.int .i64 x.steep) rfl
        cases hs : decide (x.steep ≤ (k : Int))
        · have HS : Hid ((k : Int) < x.steep) := Lib.hid (by have := of_decide_eq_false hs; omega)
          go_upto_region 10 with fail
          have hk64 := HK64.out
          go_wp2_with fail
          go_roundw
          case rel => exact ⟨k + 1, by simp, by omega, Lib.hid (by rw [LP.out, if_pos HE.out, if_pos HS.out]; exact C0.out)⟩
          case measure => simp [intOf]; omega
        · have HS : Hid (¬ (k : Int) < x.steep) := Lib.hid (by have := of_decide_eq_true hs; omega)
          go_upto_region 10 with fail
          clear cc cf c3 u4
          replace C0 := Lib.hid C2.out.1
          rw [List.set_set] at C0
          clear C2
          generalize wSet : V5.setCell ⟨g, i, none⟩ (.int .i64 2) = V6 at *
          clear wSet
          have hk64 := HK64.out
          go_wp2_with fail
          go_roundw
          case rel => exact ⟨k + 1, by simp, by omega, Lib.hid (by rw [LP.out, if_pos HE.out, if_neg HS.out]; exact C0.out)⟩
          case measure => simp [intOf]; omega
    · have t0 : decide ((k : Int) < (N : Int)) = false := by simp; omega
      have e : k = N := by omega
      subst e
      go_wp2_with fail
      go_end0
      exact ⟨rfl, by rw [hN.out]; exact C0.out.own, C0.out.kept⟩
end Go.Proofs.YtimmadkbkimonaaGreatDoor
namespace Go.Proofs.YtimmadkbkimonaaGreatDoor
set_option linter.unusedSimpArgs false
set_option linter.unusedVariables false
open Go.RowKit

def faceA (p : PatV) (a : Option Addr) (N : Nat) : Array Value := #[.int .i64 p.eye, .int .i64 p.rings, .int .i64 (p.harps * p.wide), .slice a N N]
def fk (p : PatV) (l : List Int) : FaceV := { patF p with kinds := l }
theorem fk_cells (p : PatV) (l : List Int) (a : Option Addr) (N : Nat) (h : l.length = N) : (fk p l).cells a N = faceA p a N := by subst h; rfl
theorem qJA (p : PatV) (a : Option Addr) (N : Nat) : (Tryz.prog.info? 28).map (·.size) = some (faceA p a N).size := by kernel_rfl
theorem qoneA (p : PatV) (a : Option Addr) (N : Nat) : (faceA p a N).all (·.oneCell') = true := by simp [faceA, Value.oneCell']
theorem made_ints (n : Nat) : madeCells (Value.int .i64 0).cells n = ((List.replicate n (0 : Int)).map intV).toArray := by
  unfold madeCells
  apply Array.ext
  · simp
  · intro i h1 h2
    simp [Value.cells, Nat.mod_one, intV]
theorem run_make_ints (n : Nat) (hn : n ≤ 1000000) (w : World) : (Instr.makeSlice 26 (.int .i64 (n : Int)) (.int .i64 (n : Int))).run Tryz.prog w = .ok (.slice (some ⟨w.heap.size, 0, none⟩) n n) (w.alloc (.cells ((List.replicate n (0 : Int)).map intV).toArray 3)) := by
  obtain ⟨i, hi, hz0, hz1, hz2⟩ := info_parts qinfoI
  have h := run_make (P := Tryz.prog) w 26 3 i (.int .i64 0) Tryz.underlying26 hi hz0 .i64 .i64 n n (by omega) (Int.le_refl _) (by rw [hz2]; omega) (by omega)
  simp only [Int.toNat_natCast, hz1, Nat.mul_one] at h
  rw [made_ints] at h
  exact h
theorem own_ints (n : Nat) (hn : n ≤ 1000000) (w : World) (base : Nat) (hb : base ≤ w.heap.size) : (w.alloc (.cells ((List.replicate n (0 : Int)).map intV).toArray 3)).ownsRow base 3 1 (.slice (some ⟨w.heap.size, 0, none⟩) n n) n ((List.replicate n (0 : Int)).map intV) :=
  ⟨by simp, .inr ⟨w.heap.size, n, _, rfl, hb, heap_alloc_new w _, Nat.le_refl _, by unfold maxLen; omega, by simp, by simp⟩⟩
theorem cut_w3 {A1 A2 A3 : Type} {P T : A1 → A2 → A3 → Prop} {G : Prop} (h1 : (∀ x1 x2 x3, P x1 x2 x3 → T x1 x2 x3) → G) (h2 : ∀ x1 x2 x3, P x1 x2 x3 → T x1 x2 x3) : G := h1 h2
structure DrAt (w : World) (q z o g N : Nat) (p : PatV) (fa : Option Addr) (fn : Nat) (l : List Int) (W : World) : Prop where
  bel : Below w.heap.size w W
  xp : W.heap[q]? = some (.cells (patA p fa fn) 24 (0, 0))
  xz : W.heap[z]? = some (.cells (zeroF.cells none 0) 28 (0, 0))
  xo : W.heap[o]? = some (.cells (faceA p (some ⟨g, 0, none⟩) N) 28 (0, 0))
  own : W.ownsRow w.heap.size 3 1 (.slice (some ⟨g, 0, none⟩) N N) N (l.map intV)
theorem DrAt.below {w : World} {q z o g N : Nat} {p : PatV} {fa : Option Addr} {fn : Nat} {l : List Int} {W W' : World} (h : DrAt w q z o g N p fa fn l W) (hb : Below W.heap.size W W') : DrAt w q z o g N p fa fn l W' :=
  ⟨h.bel.trans (hb.mono h.bel.size), qblk hb h.xp, qblk hb h.xz, qblk hb h.xo, own_below h.own hb⟩
theorem DrAt.cut {w : World} {q z o g N : Nat} {p : PatV} {fa : Option Addr} {fn : Nat} {l l' : List Int} {W W' : World} (h : DrAt w q z o g N p fa fn l W) (ho : W'.ownsRow w.heap.size 3 1 (.slice (some ⟨g, 0, none⟩) N N) N (l'.map intV)) (hk : KeptBut w.heap.size W W') : DrAt w q z o g N p fa fn l' W' :=
  ⟨hk.2 w h.bel, hk.1 _ _ h.xp (by simp), hk.1 _ _ h.xz (by simp), hk.1 _ _ h.xo (by simp), ho⟩
theorem cutD_any (p : PatV) (hp : p.valid = true) (x : FurV) (hx : x ∈ p.furs) (ring : Int) (hr : 0 ≤ ring ∧ ring ≤ p.rings - 1) (h : Nat) (hh : h < p.harps.toNat) (l : List Int) (N g base : Nat) (w : World) (hlv : (fk p l).valid = true) (hl : l.length = N)
    (hown : w.ownsRow base 3 1 (.slice (some ⟨g, 0, none⟩) N N) N (l.map intV)) (hbase : base ≤ w.heap.size) :
    Calls Tryz.prog 65 #[.agg (faceA p (some ⟨g, 0, none⟩) N), .agg (furA x), .int .i64 ring, .int .i64 (h * p.wide)] w fun e w' => e = .returned (.tuple #[]) ∧ w'.ownsRow base 3 1 (.slice (some ⟨g, 0, none⟩) N N) N ((cutK (patF p) x ring (h * p.wide) l (wideF x)).map intV) ∧ KeptBut base w w' := by
  obtain ⟨⟨h1, h2, h3, h4, h5, _⟩, hf⟩ := PatV.valid_iff.1 hp
  obtain ⟨x1, x2, x3, x4, x5, x6, x7⟩ := hf x hx
  subst hl
  have c := cut_any (fk p l) (some ⟨g, 0, none⟩) l.length x ring (h * p.wide) base w hlv ⟨by omega, by omega, by omega, by omega⟩ hr
    ⟨Int.mul_nonneg (by omega) (by omega), by have := Int.mul_le_mul (show (h : Int) ≤ 96 by omega) h4.2 (by omega) (by omega); omega⟩ (lean_bound hp hx hr) hown hbase
  exact c
set_option maxHeartbeats 4000000 in
set_option maxRecDepth 100000 in
theorem dressP_any (p : PatV) (fa : Option Addr) (fn : Nat) (w : World) (hr : RdFu w fa p.furs.length fn p.furs) :
    Calls Tryz.prog 12 #[.agg (patA p fa fn)] w fun e w' => (∃ a' n', e = .returned (.tuple #[.agg ((dressP p).1.cells a' n'), .int .i64 (dressP p).2]) ∧ FOwn w w' (dressP p).1 a' n') ∧ Below w.heap.size w w' := by
  have HR := Lib.hid (fun W (hb : Below w.heap.size w W) => hr.below hb)
  have VA := Lib.hid (fun W (hb : Below w.heap.size w W) => validP_any p fa fn W (hr.below hb))
  clear hr
  have AL := Lib.hid (al2 w (.cells (patA p fa fn) 24) (.cells #[.int .i64 0, .int .i64 0, .int .i64 0, .slice none 0 0] 28))
  go_enter Tryz.func12, Tryz.ntmps12
  go_upto_region 1 with fail
  obtain ⟨q, hq⟩ : ∃ q, Hid (w.heap.size = q) := ⟨_, Lib.hid rfl⟩
  obtain ⟨z, hz⟩ : ∃ z, Hid (w.heap.size + 1 = z) := ⟨_, Lib.hid rfl⟩
  rw [hz.out] at AL ⊢
  rw [hq.out] at AL ⊢
  generalize ((w.alloc (.cells (patA p fa fn) 24)).alloc (.cells #[.int .i64 0, .int .i64 0, .int .i64 0, .slice none 0 0] 28)) = W0 at *
  have BF : Hid (Below w.heap.size w W0) := Lib.hid (by rw [hq.out]; exact AL.out.1)
  have XP : Hid (W0.heap[q]? = some (.cells (patA p fa fn) 24 (0, 0))) := Lib.hid AL.out.2.1
  have XZ : Hid (W0.heap[z]? = some (.cells (zeroF.cells none 0) 28 (0, 0))) := Lib.hid AL.out.2.2
  clear AL
  have c0 := qcell XP.out 0 (.int .i64 p.eye) rfl
  have c1 := qcell XP.out 1 (.int .i64 p.rings) rfl
  have c2 := qcell XP.out 2 (.int .i64 p.harps) rfl
  have c3 := qcell XP.out 3 (.int .i64 p.wide) rfl
  have c4 := qcell XP.out 4 (.slice fa p.furs.length fn) rfl
  go_wp2_with (first
    | (refine wpList_load_row rfl 24 _ rfl q rfl 24 (patA p fa fn) (0, 0) _ XP.out Tryz.underlying24 rfl (by exact (qJP p fa fn)) ?_)
    | (refine wpList_load_row rfl 28 _ rfl z rfl 28 (zeroF.cells none 0) (0, 0) _ XZ.out Tryz.underlying28 rfl (by exact (qJF zeroF none 0)) ?_)
    | fail)
  refine (VA.out W0 BF.out).mono ?_
  rintro e V1 ⟨rfl, b⟩
  clear c0 c1 c2 c3 c4
  replace BF := Lib.hid (BF.out.trans (b.mono BF.out.size))
  replace XP := Lib.hid (qblk b XP.out)
  replace XZ := Lib.hid (qblk b XZ.out)
  clear b
  have c0 := qcell XP.out 0 (.int .i64 p.eye) rfl
  have c1 := qcell XP.out 1 (.int .i64 p.rings) rfl
  have c2 := qcell XP.out 2 (.int .i64 p.harps) rfl
  have c3 := qcell XP.out 3 (.int .i64 p.wide) rfl
  have c4 := qcell XP.out 4 (.slice fa p.furs.length fn) rfl
  cases hv : p.valid
  · go_wp2_with (first
      | (refine wpList_load_row rfl 24 _ rfl q rfl 24 (patA p fa fn) (0, 0) _ XP.out Tryz.underlying24 rfl (by exact (qJP p fa fn)) ?_)
      | (refine wpList_load_row rfl 28 _ rfl z rfl 28 (zeroF.cells none 0) (0, 0) _ XZ.out Tryz.underlying28 rfl (by exact (qJF zeroF none 0)) ?_)
      | (refine wpList_qstore rfl 28 _ _ rfl z (zeroF.cells none 0) (zeroF.cells none 0) 28 rfl rfl XZ.out (by exact (qJF zeroF none 0)) rfl (qone zeroF none 0) ?_; intro VZ hzz hgz; clear c0 c1 c2 c3 c4; replace BF := Lib.hid (qstep BF.out hgz (by have h1 := hz.out; omega)); replace XP := Lib.hid (qgrown hgz XP.out (fun e => by have h1 := hq.out; have h2 := hz.out; have := Option.some.inj e; omega)); replace XZ := Lib.hid hzz; clear hzz hgz; have c0 := qcell XP.out 0 (.int .i64 p.eye) rfl; have c1 := qcell XP.out 1 (.int .i64 p.rings) rfl; have c2 := qcell XP.out 2 (.int .i64 p.harps) rfl; have c3 := qcell XP.out 3 (.int .i64 p.wide) rfl; have c4 := qcell XP.out 4 (.slice fa p.furs.length fn) rfl)
      | fail)
    (try simp only [Exit.inBlock, Exit.then])
    refine bodyPost_ret (results_ct rfl _ VZ z 28 (zeroF.cells none 0) (0, 0) _ rfl XZ.out Tryz.underlying28 rfl (by exact (qJF zeroF none 0))) rfl ?_
    unfold dressP
    rw [if_neg (by rw [hv]; decide)]
    exact ⟨⟨none, 0, rfl, FOwn.nil _ _⟩, BF.out⟩
  · have HV := Lib.hid hv
    have PV := Lib.hid (PatV.valid_iff.1 hv)
    have FV := Lib.hid (patF_valid hv)
    clear hv
    obtain ⟨N, hN⟩ : ∃ N, Hid ((patF p).kinds.length = N) := ⟨_, Lib.hid rfl⟩
    have HN : Hid (p.rings * p.harps * p.wide = (N : Int)) := Lib.hid (by
      have h0 := hN.out
      have h1 : (patF p).kinds.length = (p.rings * p.harps * p.wide).toNat := List.length_replicate
      have h2 := PV.out.1
      have h3 : 0 ≤ p.rings * p.harps * p.wide := Int.mul_nonneg (Int.mul_nonneg (by omega) (by omega)) (by omega)
      omega)
    have NL : Hid (N ≤ 2304) := Lib.hid (by have := FaceV.len_le FV.out; have := hN.out; omega)
    have HE : Hid ((patF p).kinds = List.replicate N 0) := Lib.hid (by have h1 := HN.out; show List.replicate (p.rings * p.harps * p.wide).toNat 0 = _; rw [h1, Int.toNat_natCast])
    have W1 := Lib.hid (show wrap64 (p.harps * p.wide) = p.harps * p.wide by have := PV.out.1; unfold wrap64; omega)
    have HB2 : Hid (0 ≤ p.rings * p.harps ∧ p.rings * p.harps ≤ 24 * 96) := Lib.hid (by have := PV.out.1; exact ⟨Int.mul_nonneg (by omega) (by omega), Int.mul_le_mul (by omega) (by omega) (by omega) (by omega)⟩)
    have W2 := Lib.hid (show wrap64 (p.rings * p.harps) = p.rings * p.harps by have := HB2.out; unfold wrap64; omega)
    have W3 := Lib.hid (show wrap64 (p.rings * p.harps * p.wide) = (N : Int) by have := HN.out; have := NL.out; unfold wrap64; omega)
    go_upto_region 3 with fail
    clear c0 c1 c2 c3 c4
    apply cut_w3 (P := (fun (W : World) (o g : Nat) => Hid (DrAt w q z o g N p fa fn (patK p 0) W ∧ w.heap.size ≤ o ∧ o ≠ q ∧ o ≠ z)))
    · intro REST
      have hd : Below V1.heap.size V1 V1.drew := (Below.refl _ _).drew
      replace BF := Lib.hid (BF.out.drew)
      replace XP := Lib.hid (qblk hd XP.out)
      replace XZ := Lib.hid (qblk hd XZ.out)
      refine zD (fun W => Below w.heap.size w W ∧ W.heap[q]? = some (.cells (patA p fa fn) 24 (0, 0)) ∧ W.heap[z]? = some (.cells (zeroF.cells none 0) 28 (0, 0))) ⟨BF.out, XP.out, XZ.out⟩ (fun hHeld => ?_)
      clear hd
      generalize V1.drew = V2 at *
      refine zW 0 rfl (.pointer (some ⟨q, 0, none⟩)) ?_
      refine zS 1 rfl (.int .i64 p.eye) (fun W hW => by have c := qcell hW.2.1 0 (.int .i64 p.eye) rfl; go_simp) ?_
      refine zW 2 rfl (.pointer (some ⟨q, 1, none⟩)) ?_
      refine zS 3 rfl (.int .i64 p.rings) (fun W hW => by have c := qcell hW.2.1 1 (.int .i64 p.rings) rfl; go_simp) ?_
      refine zW 4 rfl (.pointer (some ⟨q, 2, none⟩)) ?_
      refine zS 5 rfl (.int .i64 p.harps) (fun W hW => by have c := qcell hW.2.1 2 (.int .i64 p.harps) rfl; go_simp) ?_
      refine zW 6 rfl (.pointer (some ⟨q, 3, none⟩)) ?_
      refine zS 7 rfl (.int .i64 p.wide) (fun W hW => by have c := qcell hW.2.1 3 (.int .i64 p.wide) rfl; go_simp) ?_
      refine zW 8 rfl (.int .i64 (p.harps * p.wide)) (hy := .inl ⟨by kernel_rfl, by intro W _; go_simp; exact (IntWalk.i64_left _).trans W1.out⟩) ?_
      refine zW 9 rfl (.pointer (some ⟨q, 1, none⟩)) ?_
      refine zS 10 rfl (.int .i64 p.rings) (fun W hW => by have c := qcell hW.2.1 1 (.int .i64 p.rings) rfl; go_simp) ?_
      refine zW 11 rfl (.pointer (some ⟨q, 2, none⟩)) ?_
      refine zS 12 rfl (.int .i64 p.harps) (fun W hW => by have c := qcell hW.2.1 2 (.int .i64 p.harps) rfl; go_simp) ?_
      refine zW 13 rfl (.int .i64 (p.rings * p.harps)) (hy := .inl ⟨by kernel_rfl, by intro W _; go_simp; exact (IntWalk.i64_left _).trans W2.out⟩) ?_
      refine zW 14 rfl (.pointer (some ⟨q, 3, none⟩)) ?_
      refine zS 15 rfl (.int .i64 p.wide) (fun W hW => by have c := qcell hW.2.1 3 (.int .i64 p.wide) rfl; go_simp) ?_
      refine zW 16 rfl (.int .i64 ((N : Int))) (hy := .inl ⟨by kernel_rfl, by intro W _; go_simp; exact (IntWalk.i64_left _).trans W3.out⟩) ?_
      have B0 : Hid (w.heap.size ≤ V2.heap.size) := Lib.hid BF.out.size
      have GE := Lib.hid (show q < V2.heap.size ∧ z < V2.heap.size from ⟨qlt XP.out, qlt XZ.out⟩)
      have KE : Hid (patK p 0 = List.replicate N 0) := Lib.hid HE.out
      refine zM [17, 19] rfl (fun K hK => ?_) (zn (i := 19) (fun K hK => ?_))
      · rw [if_pos (by kernel_rfl)]
        have hmk := run_make_ints N (by have := NL.out; omega) V2
        refine qbuild (w' := V2.alloc (.cells ((List.replicate N (0 : Int)).map intV).toArray 3)) (.slice (some ⟨V2.heap.size, 0, none⟩) N N) (by go_simp) ?_
        clear hmk
        have OW := Lib.hid (own_ints N (by have := NL.out; omega) V2 w.heap.size BF.out.size)
        have b := zB V2 (.cells ((List.replicate N (0 : Int)).map intV).toArray 3)
        obtain ⟨g, hg⟩ : ∃ x, Hid (V2.heap.size = x) := ⟨_, Lib.hid rfl⟩
        replace BF := Lib.hid (BF.out.trans (b.mono BF.out.size))
        replace XP := Lib.hid (qblk b XP.out)
        replace XZ := Lib.hid (qblk b XZ.out)
        (try replace XO := Lib.hid (qblk b XO.out))
        rw [hg.out] at OW ⊢
        have SZg : Hid (V2.heap.size < V2.heap.size + 1) := Lib.hid (Nat.lt_succ_self _)
        clear b
        have LSg : Hid ((V2.alloc (.cells ((List.replicate N (0 : Int)).map intV).toArray 3)).heap.size = V2.heap.size + 1) := Lib.hid (by simp)
        generalize hV9 : V2.alloc (.cells ((List.replicate N (0 : Int)).map intV).toArray 3) = V3 at *
        clear hV9
        refine zK hK ⟨BF.out, XP.out, XZ.out⟩ (fun hHeld => ?_)
        clear hK K
        refine zW 18 rfl (.agg (faceA p (some ⟨g, 0, none⟩) N)) (hy := .inl ⟨by kernel_rfl, by intro W _; go_simp; rfl⟩) ?_
        refine zR 19 rfl (fun K hK => ?_)
        rw [if_pos (by kernel_rfl)]
        refine qbuild (w' := V3.alloc (.cells #[.int .i64 0, .int .i64 0, .int .i64 0, .slice none 0 0] 28)) (.pointer (some ⟨V3.heap.size, 0, none⟩)) (by kernel_rfl) ?_
        have XO := Lib.hid (al1 V3 (.cells #[.int .i64 0, .int .i64 0, .int .i64 0, .slice none 0 0] 28)).2
        have b := zB V3 (.cells #[.int .i64 0, .int .i64 0, .int .i64 0, .slice none 0 0] 28)
        obtain ⟨o, ho⟩ : ∃ x, Hid (V3.heap.size = x) := ⟨_, Lib.hid rfl⟩
        replace BF := Lib.hid (BF.out.trans (b.mono BF.out.size))
        replace XP := Lib.hid (qblk b XP.out)
        replace XZ := Lib.hid (qblk b XZ.out)
        (try replace OW := Lib.hid (own_below OW.out b))
        rw [ho.out] at XO ⊢
        have SZo : Hid (V3.heap.size < V3.heap.size + 1) := Lib.hid (Nat.lt_succ_self _)
        clear b
        have LSo : Hid ((V3.alloc (.cells #[.int .i64 0, .int .i64 0, .int .i64 0, .slice none 0 0] 28)).heap.size = V3.heap.size + 1) := Lib.hid (by simp)
        generalize hV9 : V3.alloc (.cells #[.int .i64 0, .int .i64 0, .int .i64 0, .slice none 0 0] 28) = V4 at *
        clear hV9
        refine zK hK ⟨BF.out, XP.out, XZ.out⟩ (fun hHeld => ?_)
        clear hK K
        refine zR 20 rfl (fun K hK => ?_)
        rw [if_pos (by kernel_rfl)]
        refine qstore 28 _ _ rfl o #[.int .i64 0, .int .i64 0, .int .i64 0, .slice none 0 0] (faceA p (some ⟨g, 0, none⟩) N) 28 rfl rfl XO.out (by exact qJA p (some ⟨g, 0, none⟩) N) rfl (qoneA p (some ⟨g, 0, none⟩) N) ?_
        intro X h8 hg8 hs8
        have NE : Hid (w.heap.size ≤ o ∧ o ≠ q ∧ o ≠ z) := Lib.hid (by have h1 := GE.out; have h2 := ho.out; have h3 := B0.out; have h4 := hq.out; first | omega | (have h5 := LSg.out; omega))
        replace BF := Lib.hid (qstep BF.out hg8 NE.out.1)
        replace XP := Lib.hid (qgrown hg8 XP.out (fun e => NE.out.2.1 (Option.some.inj e).symm))
        replace XZ := Lib.hid (qgrown hg8 XZ.out (fun e => NE.out.2.2 (Option.some.inj e).symm))
        replace OW := Lib.hid (OW.out.kept hg8 (.inr (qown_no OW.out XO.out (by simp)).symm))
        refine zK hK ⟨BF.out, XP.out, XZ.out⟩ (fun hHeld => ?_)
        clear hK K
        refine zE ?_
        exact REST X o g (Lib.hid ⟨⟨BF.out, XP.out, XZ.out, h8, by rw [KE.out]; exact OW.out⟩, NE.out⟩)
      · rw [if_pos (by kernel_rfl)]
        refine qbuild (w' := V2.alloc (.cells #[.int .i64 0, .int .i64 0, .int .i64 0, .slice none 0 0] 28)) (.pointer (some ⟨V2.heap.size, 0, none⟩)) (by kernel_rfl) ?_
        have XO := Lib.hid (al1 V2 (.cells #[.int .i64 0, .int .i64 0, .int .i64 0, .slice none 0 0] 28)).2
        have b := zB V2 (.cells #[.int .i64 0, .int .i64 0, .int .i64 0, .slice none 0 0] 28)
        obtain ⟨o, ho⟩ : ∃ x, Hid (V2.heap.size = x) := ⟨_, Lib.hid rfl⟩
        replace BF := Lib.hid (BF.out.trans (b.mono BF.out.size))
        replace XP := Lib.hid (qblk b XP.out)
        replace XZ := Lib.hid (qblk b XZ.out)
        (try replace OW := Lib.hid (own_below OW.out b))
        rw [ho.out] at XO ⊢
        have SZo : Hid (V2.heap.size < V2.heap.size + 1) := Lib.hid (Nat.lt_succ_self _)
        clear b
        have LSo : Hid ((V2.alloc (.cells #[.int .i64 0, .int .i64 0, .int .i64 0, .slice none 0 0] 28)).heap.size = V2.heap.size + 1) := Lib.hid (by simp)
        generalize hV9 : V2.alloc (.cells #[.int .i64 0, .int .i64 0, .int .i64 0, .slice none 0 0] 28) = V3 at *
        clear hV9
        refine zK hK ⟨BF.out, XP.out, XZ.out⟩ (fun hHeld => ?_)
        clear hK K
        refine zR 17 rfl (fun K hK => ?_)
        rw [if_pos (by kernel_rfl)]
        have hmk := run_make_ints N (by have := NL.out; omega) V3
        refine qbuild (w' := V3.alloc (.cells ((List.replicate N (0 : Int)).map intV).toArray 3)) (.slice (some ⟨V3.heap.size, 0, none⟩) N N) (by go_simp) ?_
        clear hmk
        have OW := Lib.hid (own_ints N (by have := NL.out; omega) V3 w.heap.size BF.out.size)
        have b := zB V3 (.cells ((List.replicate N (0 : Int)).map intV).toArray 3)
        obtain ⟨g, hg⟩ : ∃ x, Hid (V3.heap.size = x) := ⟨_, Lib.hid rfl⟩
        replace BF := Lib.hid (BF.out.trans (b.mono BF.out.size))
        replace XP := Lib.hid (qblk b XP.out)
        replace XZ := Lib.hid (qblk b XZ.out)
        (try replace XO := Lib.hid (qblk b XO.out))
        rw [hg.out] at OW ⊢
        have SZg : Hid (V3.heap.size < V3.heap.size + 1) := Lib.hid (Nat.lt_succ_self _)
        clear b
        have LSg : Hid ((V3.alloc (.cells ((List.replicate N (0 : Int)).map intV).toArray 3)).heap.size = V3.heap.size + 1) := Lib.hid (by simp)
        generalize hV9 : V3.alloc (.cells ((List.replicate N (0 : Int)).map intV).toArray 3) = V4 at *
        clear hV9
        refine zK hK ⟨BF.out, XP.out, XZ.out⟩ (fun hHeld => ?_)
        clear hK K
        refine zW 18 rfl (.agg (faceA p (some ⟨g, 0, none⟩) N)) (hy := .inl ⟨by kernel_rfl, by intro W _; go_simp; rfl⟩) ?_
        refine zR 20 rfl (fun K hK => ?_)
        rw [if_pos (by kernel_rfl)]
        refine qstore 28 _ _ rfl o #[.int .i64 0, .int .i64 0, .int .i64 0, .slice none 0 0] (faceA p (some ⟨g, 0, none⟩) N) 28 rfl rfl XO.out (by exact qJA p (some ⟨g, 0, none⟩) N) rfl (qoneA p (some ⟨g, 0, none⟩) N) ?_
        intro X h8 hg8 hs8
        have NE : Hid (w.heap.size ≤ o ∧ o ≠ q ∧ o ≠ z) := Lib.hid (by have h1 := GE.out; have h2 := ho.out; have h3 := B0.out; have h4 := hq.out; first | omega | (have h5 := LSg.out; omega))
        replace BF := Lib.hid (qstep BF.out hg8 NE.out.1)
        replace XP := Lib.hid (qgrown hg8 XP.out (fun e => NE.out.2.1 (Option.some.inj e).symm))
        replace XZ := Lib.hid (qgrown hg8 XZ.out (fun e => NE.out.2.2 (Option.some.inj e).symm))
        replace OW := Lib.hid (OW.out.kept hg8 (.inr (qown_no OW.out XO.out (by simp)).symm))
        refine zK hK ⟨BF.out, XP.out, XZ.out⟩ (fun hHeld => ?_)
        clear hK K
        refine zE ?_
        exact REST X o g (Lib.hid ⟨⟨BF.out, XP.out, XZ.out, h8, by rw [KE.out]; exact OW.out⟩, NE.out⟩)
    · intro X o g HD
      have DA := Lib.hid HD.out.1
      have OE := Lib.hid HD.out.2
      clear HD BF XP XZ W1 W2 W3 HB2
      have c4 := qcell DA.out.xp 4 (.slice fa p.furs.length fn) rfl
      go_wp2_with fail
      clear c4
      have FL := Lib.hid (show p.furs.length ≤ 16 from PV.out.1.2.2.2.2.2)
      go_loopw [35] (fun v wr => ∃ k : Nat, v = .int .i64 k ∧ k ≤ p.furs.length ∧ Hid (DrAt w q z o g N p fa fn (patK p k) wr)) (fun v _ => p.furs.length - (intOf v).toNat)
      case atStart => exact ⟨0, rfl, Nat.zero_le _, DA⟩
      case round =>
        clear DA
        obtain ⟨k, rfl, hk, DA⟩ := hrel
        by_cases hkn : k < p.furs.length
        · have t0 : decide ((k : Int) < (p.furs.length : Int)) = true := by simp; omega
          have HK64 : Hid ((k : Int) + 1 ≤ 9223372036854775807) := Lib.hid (by have := FL.out; omega)
          obtain ⟨x, hx⟩ : ∃ x, p.furs[k]? = some x := ⟨_, List.getElem?_eq_getElem hkn⟩
          have HX := Lib.hid hx
          have HM := Lib.hid (List.mem_of_getElem? hx)
          obtain ⟨b, off, hfa, x0, x1, x2, x3, x4, x5⟩ := (HR.out wr DA.out.bel).get hx
          subst hfa
          obtain ⟨o1, ho1⟩ : ∃ o1, Hid (off + k * 6 = o1) := ⟨_, Lib.hid rfl⟩
          rw [ho1.out] at x0 x1 x2 x3 x4 x5
          have I6 : (Tryz.prog.info? 76).map (·.size) = some 6 := by kernel_rfl
          have hi := fun W => qidx (W := W) (c := fn) (b := b) Tryz.underlying22 I6 hkn ho1.out
          clear hx
          go_upto_region 7 with fail
          clear x0 x1 x2 x3 x4 x5 hi t0 I6
          have AL := al1 wr (.cells (furA x) 76)
          replace DA := Lib.hid (DA.out.below AL.1)
          have XU : Hid ((wr.alloc (.cells (furA x) 76)).heap[wr.heap.size]? = some (.cells (furA x) 76 (0, 0))) := Lib.hid AL.2
          clear AL
          unfold furA at XU DA
          generalize wr.alloc (.cells #[.int .i64 x.at_, .int .i64 x.from_, .int .i64 x.lean, .int .i64 x.leans, .int .i64 x.steep, .int .i64 x.feather] 76) = X1 at *
          generalize wr.heap.size = u at *
          have XU2 : Hid (X1.heap[u]? = some (.cells (furA x) 76 (0, 0))) := Lib.hid XU.out
          clear XU
          have x1 := qcell XU2.out 1 (.int .i64 x.from_) rfl
          go_wp2_with fail
          clear x1
          have FB := Lib.hid (PV.out.2 x HM.out)
          obtain ⟨R, hR⟩ : ∃ R : Nat, Hid ((p.rings - x.from_).toNat = R) := ⟨_, Lib.hid rfl⟩
          have HRR : Hid (x.from_ + (R : Int) = p.rings ∧ R ≤ 24) := Lib.hid (by have h1 := FB.out; have h2 := PV.out.1; have h3 := hR.out; omega)
          have PK := Lib.hid (patK_ok HV.out k)
          have PL := Lib.hid (show (patK p k).length = N from (patK_len p k).trans hN.out)
          generalize wr = Y1 at *
          go_loopw [7] (fun v wr => ∃ j : Nat, v = .int .i64 (x.from_ + (j : Int)) ∧ j ≤ R ∧ Hid (DrAt w q z o g N p (some ⟨b, off, none⟩) fn (furK (patF p) p x (patK p k) j) wr) ∧ Hid (wr.heap[u]? = some (.cells (furA x) 76 (0, 0)))) (fun v _ => (p.rings - intOf v).toNat)
          case atStart => exact ⟨0, by simp, Nat.zero_le _, DA, XU2⟩
          case round =>
            clear DA XU2
            obtain ⟨j, rfl, hj, DA, XU⟩ := hrel
            have c1 := qcell DA.out.xp 1 (.int .i64 p.rings) rfl
            have c2 := qcell DA.out.xp 2 (.int .i64 p.harps) rfl
            by_cases hjr : j < R
            · have t0 : decide (x.from_ + (j : Int) < p.rings) = true := by have := HRR.out; simp; omega
              go_wp2_with fail
              clear t0 c1 c2
              obtain ⟨ring, hring⟩ : ∃ ring, Hid (x.from_ + (j : Int) = ring) := ⟨_, Lib.hid rfl⟩
              have RG : Hid (0 ≤ ring ∧ ring ≤ p.rings - 1) := Lib.hid (by have h1 := hring.out; have h2 := HRR.out; have h3 := FB.out; omega)
              have KS := Lib.hid (furK_succ (patF p) p x (patK p k) j)
              obtain ⟨l, hl⟩ : ∃ l, Hid (furK (patF p) p x (patK p k) j = l) := ⟨_, Lib.hid rfl⟩
              have LV : Hid (fk p l).valid := Lib.hid (by rw [← hl.out]; exact furK_ok PK.out j)
              have LN : Hid (l.length = N) := Lib.hid (by rw [← hl.out, furK_len]; exact PL.out)
              rw [hl.out] at DA KS
              rw [hring.out] at KS
              obtain ⟨H, hH⟩ : ∃ H : Nat, Hid (p.harps.toNat = H) := ⟨_, Lib.hid rfl⟩
              have HH : Hid (p.harps = (H : Int) ∧ H ≤ 96) := Lib.hid (by have h2 := PV.out.1; have h3 := hH.out; omega)
              rw [hH.out] at KS
              try rw [hring.out]
              generalize wr = Y2 at *
              go_loopw [49] (fun v wr => ∃ h : Nat, v = .int .i64 (h : Int) ∧ h ≤ H ∧ Hid (DrAt w q z o g N p (some ⟨b, off, none⟩) fn (ringK (patF p) p x ring l h) wr) ∧ Hid (wr.heap[u]? = some (.cells (furA x) 76 (0, 0)))) (fun v _ => H - (intOf v).toNat)
              case atStart => exact ⟨0, rfl, Nat.zero_le _, DA, XU⟩
              case round =>
                clear DA XU
                obtain ⟨h, rfl, hh, DA, XU⟩ := hrel
                by_cases hhn : h < H
                · have t0 : decide ((h : Int) < p.harps) = true := by have := HH.out; simp; omega
                  have HH64 : Hid ((h : Int) + 1 ≤ 9223372036854775807) := Lib.hid (by have := HH.out; omega)
                  have HHN := Lib.hid hhn
                  go_upto_region 13 with fail
                  clear t0
                  have c3 := qcell DA.out.xp 3 (.int .i64 p.wide) rfl
                  have ww : wrap64 ((h : Int) * p.wide) = (h : Int) * p.wide := by
                    have h1 := PV.out.1
                    have h2 := HH.out
                    have h3 := HHN.out
                    have h4 := Int.mul_nonneg (show (0 : Int) ≤ (h : Int) by omega) (show 0 ≤ p.wide by omega)
                    have h5 := Int.mul_le_mul (show (h : Int) ≤ 96 by omega) (show p.wide ≤ 96 by omega) (by omega) (by omega)
                    unfold wrap64
                    omega
                  go_wp2_with (first
                    | (refine wpList_load_row rfl 28 _ rfl o rfl 28 (faceA p (some ⟨g, 0, none⟩) N) (0, 0) _ DA.out.xo Tryz.underlying28 rfl (by exact qJA p (some ⟨g, 0, none⟩) N) ?_)
                    | (refine wpList_load_row rfl 76 _ rfl u rfl 76 (furA x) (0, 0) _ XU.out Tryz.underlying76 rfl (by exact qJU x) ?_)
                    | fail)
                  have LS := Lib.hid (ringK_succ (patF p) p x ring l h)
                  have RV := Lib.hid (show (fk p (ringK (patF p) p x ring l h)).valid = true from ringK_ok LV.out h)
                  have RL := Lib.hid (show (ringK (patF p) p x ring l h).length = N by rw [ringK_len]; exact LN.out)
                  refine (cutD_any p HV.out x HM.out ring RG.out h (by rw [hH.out]; exact HHN.out) (ringK (patF p) p x ring l h) N g w.heap.size _ RV.out RL.out DA.out.own DA.out.bel.size).mono ?_
                  rintro e X5 ⟨rfl, own, kb⟩
                  replace XU := Lib.hid (kb.1 _ _ XU.out (by simp))
                  replace DA := Lib.hid (DA.out.cut own kb)
                  clear own kb c3 ww
                  rw [← LS.out] at DA
                  go_upto_region 14 with fail
                  have hh64 := HH64.out
                  go_wp2_with fail
                  go_roundw
                  case rel => exact ⟨h + 1, by simp, by omega, DA, XU⟩
                  case measure => simp [intOf]; omega
                · have t0 : decide ((h : Int) < p.harps) = false := by have := HH.out; simp; omega
                  have e : h = H := by omega
                  subst e
                  rw [← KS.out] at DA
                  have wj : wrap64 (ring + 1) = x.from_ + ((j + 1 : Nat) : Int) := by have h1 := hring.out; have h2 := HRR.out; have h3 := FB.out; have h4 := RG.out; have h5 := PV.out.1; unfold wrap64; omega
                  go_wp2_with fail
                  go_roundw
                  case rel => exact ⟨j + 1, by first | rfl | (rw [wj]), by omega, DA, XU⟩
                  case measure => have h1 := hring.out; have h2 := HRR.out; have h3 := RG.out; (try rw [wj]); simp [intOf]; omega
            · have t0 : decide (x.from_ + (j : Int) < p.rings) = false := by have := HRR.out; simp; omega
              have e : j = R := by omega
              subst e
              have KS := Lib.hid (patK_succ p HX.out)
              rw [hR.out] at KS
              rw [← KS.out] at DA
              go_upto_region 15 with fail
              have hk64 := HK64.out
              go_wp2_with fail
              go_roundw
              case rel => exact ⟨k + 1, by simp, by omega, DA⟩
              case measure => simp [intOf]; omega
        · have t0 : decide ((k : Int) < (p.furs.length : Int)) = false := by simp; omega
          have e : k = p.furs.length := by omega
          have DE := Lib.hid (show fk p (patK p k) = dressF p by rw [e]; exact patK_all p)
          have DL := Lib.hid (show (patK p k).length = N from (patK_len p k).trans hN.out)
          clear hk hkn
          subst e
          go_upto_region 16 with fail
          go_wp2_with (first
            | (refine wpList_load_row rfl 28 _ rfl o rfl 28 (faceA p (some ⟨g, 0, none⟩) N) (0, 0) _ DA.out.xo Tryz.underlying28 rfl (by exact qJA p (some ⟨g, 0, none⟩) N) ?_)
            | (refine wpList_qstore rfl 28 _ _ rfl z (zeroF.cells none 0) (faceA p (some ⟨g, 0, none⟩) N) 28 rfl rfl DA.out.xz (by exact qJA p (some ⟨g, 0, none⟩) N) rfl (qoneA p (some ⟨g, 0, none⟩) N) ?_; intro VZ hzz hgz; have OW := Lib.hid (DA.out.own.kept hgz (.inr (qown_no DA.out.own DA.out.xz (by simp)).symm)); have BF := Lib.hid (qstep DA.out.bel hgz (by have h1 := hz.out; omega)); clear DA; have XZ := Lib.hid hzz; clear hzz hgz)
            | fail)
          (try simp only [Exit.inBlock, Exit.then])
          refine bodyPost_ret (results_ct rfl _ VZ z 28 (faceA p (some ⟨g, 0, none⟩) N) (0, 0) _ rfl XZ.out Tryz.underlying28 rfl (by exact qJA p (some ⟨g, 0, none⟩) N)) rfl ?_
          unfold dressP
          rw [if_pos HV.out, ← DE.out]
          refine ⟨⟨some ⟨g, 0, none⟩, N, ?_, ?_⟩, BF.out⟩
          · rw [fk_cells p _ _ _ DL.out]
            rfl
          · have := OW.out
            unfold FOwn
            show VZ.ownsRow _ _ _ (.slice _ (patK p p.furs.length).length N) (patK p p.furs.length).length ((patK p p.furs.length).map intV)
            rw [DL.out]
            exact this
end Go.Proofs.YtimmadkbkimonaaGreatDoor
namespace Go.Proofs.YtimmadkbkimonaaGreatDoor
set_option linter.unusedSimpArgs false
set_option linter.unusedVariables false
open Go.RowKit

def norK (f : FaceV) (k : Nat) : FaceV := (List.range k).foldl (fun least (b : Nat) => if cmpZ (turnF f b).kinds least.kinds < 0 then turnF f b else least) f
theorem norK_succ (f : FaceV) (k : Nat) : norK f (k + 1) = if cmpZ (turnF f k).kinds (norK f k).kinds < 0 then turnF f k else norK f k := by
  unfold norK
  rw [List.range_succ, List.foldl_append]
  rfl
def KOk (W : World) (L : Nat) (a : Option Addr) (n c : Nat) (l : List Int) : Prop := RdI W a n c l ∧ ∀ b off, a = some ⟨b, off, none⟩ → b ≠ L
theorem KOk.below {W W' : World} {L : Nat} {a : Option Addr} {n c : Nat} {l : List Int} (h : KOk W L a n c l) (hb : Below W.heap.size W W') : KOk W' L a n c l := ⟨h.1.below hb, h.2⟩
theorem KOk.step {W W' : World} {L : Nat} {a : Option Addr} {n c : Nat} {l : List Int} (h : KOk W L a n c l) (hg : W.grownBy W' (some L)) : KOk W' L a n c l :=
  ⟨RdA.of_cells h.1 (fun b hb hlt => by
    obtain ⟨off, e⟩ := hb
    exact hg.block b hlt (fun e2 => h.2 b off e (Option.some.inj e2))), h.2⟩
theorem KOk.own {w W : World} {g : FaceV} {a : Option Addr} {n L : Nat} {A : Array Value} (h : FOwn w W g a n) (hL : W.heap[L]? = some (.cells A 28 (0, 0))) : KOk W L a g.kinds.length n g.kinds :=
  ⟨h.rd, fun b off e e2 => by
    have h1 := qown_no h hL (by simp)
    rw [e] at h1
    exact h1 (by rw [← e2]; rfl)⟩
set_option maxHeartbeats 4000000 in
set_option maxRecDepth 100000 in
theorem normalP_any (f : FaceV) (a : Option Addr) (n : Nat) (w : World) (hr : RdI w a f.kinds.length n f.kinds) :
    Calls Tryz.prog 44 #[.agg (f.cells a n)] w fun e w' => (∃ a' n', e = .returned (.tuple #[.agg ((normalP f).1.cells a' n'), .int .i64 (normalP f).2]) ∧ FOwn w w' (normalP f).1 a' n') ∧ Below w.heap.size w w' := by
  have AV := Lib.hid (fun W (hb : Below w.heap.size w W) => valid2_any f a n W (hr.below hb))
  have HR := Lib.hid (fun W (hb : Below w.heap.size w W) => hr.below hb)
  clear hr
  have AL := Lib.hid (al2 w (.cells (f.cells a n) 28) (.cells #[.int .i64 0, .int .i64 0, .int .i64 0, .slice none 0 0] 28))
  go_enter Tryz.func44, Tryz.ntmps44
  go_upto_region 1 with fail
  obtain ⟨p, hp⟩ : ∃ p, Hid (w.heap.size = p) := ⟨_, Lib.hid rfl⟩
  obtain ⟨z, hz⟩ : ∃ z, Hid (w.heap.size + 1 = z) := ⟨_, Lib.hid rfl⟩
  rw [hz.out] at AL ⊢
  rw [hp.out] at AL ⊢
  generalize ((w.alloc (.cells (f.cells a n) 28)).alloc (.cells #[.int .i64 0, .int .i64 0, .int .i64 0, .slice none 0 0] 28)) = W0 at *
  have BF : Hid (Below w.heap.size w W0) := Lib.hid (by rw [hp.out]; exact AL.out.1)
  have XF : Hid (W0.heap[p]? = some (.cells (f.cells a n) 28 (0, 0))) := Lib.hid AL.out.2.1
  have XZ : Hid (W0.heap[z]? = some (.cells (zeroF.cells none 0) 28 (0, 0))) := Lib.hid AL.out.2.2
  clear AL
  have c0 := qcell XF.out 0 (.int .i64 f.eye) rfl
  have c1 := qcell XF.out 1 (.int .i64 f.rings) rfl
  have c2 := qcell XF.out 2 (.int .i64 f.sectors) rfl
  have c3 := qcell XF.out 3 (.slice a f.kinds.length n) rfl
  go_wp2_with (first
    | (refine wpList_load_row rfl 28 _ rfl p rfl 28 (f.cells a n) (0, 0) _ XF.out Tryz.underlying28 rfl (by exact (qJF f a n)) ?_)
    | (refine wpList_load_row rfl 28 _ rfl z rfl 28 (zeroF.cells none 0) (0, 0) _ XZ.out Tryz.underlying28 rfl (by exact (qJF zeroF none 0)) ?_)
    | fail)
  refine (AV.out W0 BF.out).mono ?_
  rintro e V1 ⟨rfl, b⟩
  clear c0 c1 c2 c3
  replace BF := Lib.hid (BF.out.trans (b.mono BF.out.size))
  replace XF := Lib.hid (qblk b XF.out)
  replace XZ := Lib.hid (qblk b XZ.out)
  clear b
  have c0 := qcell XF.out 0 (.int .i64 f.eye) rfl
  have c1 := qcell XF.out 1 (.int .i64 f.rings) rfl
  have c2 := qcell XF.out 2 (.int .i64 f.sectors) rfl
  have c3 := qcell XF.out 3 (.slice a f.kinds.length n) rfl
  cases hv : f.valid
  · go_wp2_with (first
      | (refine wpList_load_row rfl 28 _ rfl p rfl 28 (f.cells a n) (0, 0) _ XF.out Tryz.underlying28 rfl (by exact (qJF f a n)) ?_)
      | (refine wpList_load_row rfl 28 _ rfl z rfl 28 (zeroF.cells none 0) (0, 0) _ XZ.out Tryz.underlying28 rfl (by exact (qJF zeroF none 0)) ?_)
      | (refine wpList_qstore rfl 28 _ _ rfl z (zeroF.cells none 0) (zeroF.cells none 0) 28 rfl rfl XZ.out (by exact (qJF zeroF none 0)) rfl (qone zeroF none 0) ?_; intro VZ hzz hgz; clear c0 c1 c2 c3; replace BF := Lib.hid (qstep BF.out hgz (by have h1 := hz.out; omega)); replace XF := Lib.hid (qgrown hgz XF.out (fun e => by have h1 := hp.out; have h2 := hz.out; have := Option.some.inj e; omega)); replace XZ := Lib.hid hzz; clear hzz hgz; have c0 := qcell XF.out 0 (.int .i64 f.eye) rfl; have c1 := qcell XF.out 1 (.int .i64 f.rings) rfl; have c2 := qcell XF.out 2 (.int .i64 f.sectors) rfl; have c3 := qcell XF.out 3 (.slice a f.kinds.length n) rfl)
      | fail)
    (try simp only [Exit.inBlock, Exit.then])
    refine bodyPost_ret (results_ct rfl _ VZ z 28 (zeroF.cells none 0) (0, 0) _ rfl XZ.out Tryz.underlying28 rfl (by exact (qJF zeroF none 0))) rfl ?_
    unfold normalP
    rw [hv]
    exact ⟨⟨none, 0, rfl, FOwn.nil _ _⟩, BF.out⟩
  · have HV := Lib.hid hv
    have NV := Lib.hid (FaceV.nat hv)
    clear hv
    have LZ : Hid (p < V1.heap.size ∧ z < V1.heap.size) := Lib.hid ⟨qlt XF.out, qlt XZ.out⟩
    go_upto_region 4 with (first
      | (refine wpList_load_row rfl 28 _ rfl p rfl 28 (f.cells a n) (0, 0) _ XF.out Tryz.underlying28 rfl (by exact (qJF f a n)) ?_)
      | (refine wpList_load_row rfl 28 _ rfl z rfl 28 (zeroF.cells none 0) (0, 0) _ XZ.out Tryz.underlying28 rfl (by exact (qJF zeroF none 0)) ?_)
      | (refine wpList_store_new V1 rfl 28 _ _ rfl (zeroF.cells none 0) (f.cells a n) rfl rfl (by exact qJF f a n) rfl (qone f a n) ?_)
      | fail)
    clear c0 c1 c2 c3
    have KW : Hid (∀ b off, a = some ⟨b, off, none⟩ → b < w.heap.size) := Lib.hid (fun b off e => by
      obtain ⟨b0, off0, e2, h2⟩ := (HR.out w (Below.refl _ _)).get (FaceV.kat_at (f := f) (k := 0) (by have := NV.out; have h3 := Nat.mul_pos (show 0 < f.R by omega) (show 0 < f.S by omega); omega))
      rw [e2] at e
      cases e
      exact World.block_lt_of_cell? w _ h2)
    have AL := al1 V1 (.cells (f.cells a n) 28)
    replace BF := Lib.hid (BF.out.trans (AL.1.mono BF.out.size))
    replace XF := Lib.hid (qblk AL.1 XF.out)
    replace XZ := Lib.hid (qblk AL.1 XZ.out)
    have XL := Lib.hid AL.2
    obtain ⟨L, hL⟩ : ∃ L, Hid (V1.heap.size = L) := ⟨_, Lib.hid rfl⟩
    have LG : Hid (w.heap.size ≤ L ∧ L ≠ p ∧ L ≠ z ∧ w.heap.size = p ∧ w.heap.size + 1 = z) := Lib.hid (by have h1 := qlt XF.out; have h2 := hL.out; have h3 := BF.out.size; have h4 := hp.out; have h5 := hz.out; have h6 := V1.size_alloc (.cells (f.cells a n) 28); have h7 := LZ.out; omega)
    rw [hL.out] at XL ⊢
    clear AL
    have KK := Lib.hid (show KOk (V1.alloc (.cells (f.cells a n) 28)) L a f.kinds.length n f.kinds from ⟨HR.out _ BF.out, fun b off e e2 => by have h1 := KW.out b off e; have h2 := LG.out; omega⟩)
    generalize V1.alloc (.cells (f.cells a n) 28) = V2 at *
    have c0 := qcell XF.out 0 (.int .i64 f.eye) rfl
    have c1 := qcell XF.out 1 (.int .i64 f.rings) rfl
    have c2 := qcell XF.out 2 (.int .i64 f.sectors) rfl
    have c3 := qcell XF.out 3 (.slice a f.kinds.length n) rfl
    go_wp2_with fail
    clear c0 c1 c2 c3
    have eS := NV.out.2.1
    rw [eS]
    clear eS
    go_loopw [14] (fun i wr => ∃ (k : Nat) (la : Option Addr) (ln : Nat), i = .int .i64 k ∧ k ≤ f.S ∧ Hid (KOk wr L la (norK f k).kinds.length ln (norK f k).kinds) ∧ Hid (Below w.heap.size w wr) ∧ Hid (wr.heap[p]? = some (.cells (f.cells a n) 28 (0, 0))) ∧ Hid (wr.heap[z]? = some (.cells (zeroF.cells none 0) 28 (0, 0))) ∧ Hid (wr.heap[L]? = some (.cells ((norK f k).cells la ln) 28 (0, 0)))) (fun i _ => f.S - (intOf i).toNat)
    case atStart => exact ⟨0, a, n, rfl, Nat.zero_le _, KK, BF, XF, XZ, XL⟩
    case round =>
      clear KK BF XF XZ XL
      obtain ⟨k, la, ln, rfl, hk, KK, BF, XF, XZ, XL⟩ := hrel
      by_cases hkn : k < f.S
      · have t0 : decide ((k : Int) < (f.S : Int)) = true := by simp; omega
        have HK64 : Hid ((k : Int) + 1 ≤ 9223372036854775807) := Lib.hid (by have := NV.out; omega)
        have c0 := qcell XF.out 0 (.int .i64 f.eye) rfl
        have c1 := qcell XF.out 1 (.int .i64 f.rings) rfl
        have c2 := qcell XF.out 2 (.int .i64 f.sectors) rfl
        have c3 := qcell XF.out 3 (.slice a f.kinds.length n) rfl
        have l3 := qcell XL.out 3 (.slice la (norK f k).kinds.length ln) rfl
        go_wp2_with (first
          | (refine wpList_load_row rfl 28 _ rfl p rfl 28 (f.cells a n) (0, 0) _ XF.out Tryz.underlying28 rfl (by exact (qJF f a n)) ?_)
          | (refine wpList_load_row rfl 28 _ rfl z rfl 28 (zeroF.cells none 0) (0, 0) _ XZ.out Tryz.underlying28 rfl (by exact (qJF zeroF none 0)) ?_)
          | (refine wpList_load_row rfl 28 _ rfl L rfl 28 ((norK f k).cells la ln) (0, 0) _ XL.out Tryz.underlying28 rfl (by exact (qJF (norK f k) la ln)) ?_)
          | fail)
        refine (turned_any f a n k wr HV.out (HR.out wr BF.out)).mono ?_
        rintro e V3 ⟨⟨a', n', rfl, own⟩, b⟩
        have BB := Lib.hid BF.out
        replace KK := Lib.hid (KK.out.below b)
        clear c0 c1 c2 c3 l3
        replace BF := Lib.hid (BF.out.trans (b.mono BF.out.size))
        replace XF := Lib.hid (qblk b XF.out)
        replace XZ := Lib.hid (qblk b XZ.out)
        replace XL := Lib.hid (qblk b XL.out)
        clear b
        have c0 := qcell XF.out 0 (.int .i64 f.eye) rfl
        have c1 := qcell XF.out 1 (.int .i64 f.rings) rfl
        have c2 := qcell XF.out 2 (.int .i64 f.sectors) rfl
        have c3 := qcell XF.out 3 (.slice a f.kinds.length n) rfl
        have l3 := qcell XL.out 3 (.slice la (norK f k).kinds.length ln) rfl
        have OW := Lib.hid (own.mono BB.out.size)
        clear own t0
        go_upto_region 8 with (first
          | (refine wpList_load_row rfl 28 _ rfl p rfl 28 (f.cells a n) (0, 0) _ XF.out Tryz.underlying28 rfl (by exact (qJF f a n)) ?_)
          | (refine wpList_load_row rfl 28 _ rfl z rfl 28 (zeroF.cells none 0) (0, 0) _ XZ.out Tryz.underlying28 rfl (by exact (qJF zeroF none 0)) ?_)
          | (refine wpList_load_row rfl 28 _ rfl L rfl 28 ((norK f k).cells la ln) (0, 0) _ XL.out Tryz.underlying28 rfl (by exact (qJF (norK f k) la ln)) ?_)
          | (refine wpList_store_new V3 rfl 28 _ _ rfl (zeroF.cells none 0) ((turnF f k).cells a' n') rfl rfl (by exact qJF (turnF f k) a' n') rfl (qone (turnF f k) a' n') ?_)
          | fail)
        clear c0 c1 c2 c3 l3
        have AL := al1 V3 (.cells ((turnF f k).cells a' n') 28)
        replace BF := Lib.hid (BF.out.trans (AL.1.mono BF.out.size))
        replace XF := Lib.hid (qblk AL.1 XF.out)
        replace XZ := Lib.hid (qblk AL.1 XZ.out)
        replace KK := Lib.hid (KK.out.below AL.1)
        replace OW := Lib.hid (OW.out.below AL.1)
        have GL : Hid (V3.heap.size ≠ L) := Lib.hid (by have := qlt XL.out; omega)
        replace XL := Lib.hid (qblk AL.1 XL.out)
        have XG := Lib.hid AL.2
        obtain ⟨g, hg⟩ : ∃ g, Hid (V3.heap.size = g) := ⟨_, Lib.hid rfl⟩
        rw [hg.out] at XG GL ⊢
        clear AL
        generalize V3.alloc (.cells ((turnF f k).cells a' n') 28) = V4 at *
        have c0 := qcell XF.out 0 (.int .i64 f.eye) rfl
        have c1 := qcell XF.out 1 (.int .i64 f.rings) rfl
        have c2 := qcell XF.out 2 (.int .i64 f.sectors) rfl
        have c3 := qcell XF.out 3 (.slice a f.kinds.length n) rfl
        have l3 := qcell XL.out 3 (.slice la (norK f k).kinds.length ln) rfl
        have g3 := qcell XG.out 3 (.slice a' (turnF f k).kinds.length n') rfl
        go_wp2_with (first
          | (refine wpList_load_row rfl 28 _ rfl p rfl 28 (f.cells a n) (0, 0) _ XF.out Tryz.underlying28 rfl (by exact (qJF f a n)) ?_)
          | (refine wpList_load_row rfl 28 _ rfl z rfl 28 (zeroF.cells none 0) (0, 0) _ XZ.out Tryz.underlying28 rfl (by exact (qJF zeroF none 0)) ?_)
          | (refine wpList_load_row rfl 28 _ rfl L rfl 28 ((norK f k).cells la ln) (0, 0) _ XL.out Tryz.underlying28 rfl (by exact (qJF (norK f k) la ln)) ?_)
          | (refine wpList_load_row rfl 28 _ rfl g rfl 28 ((turnF f k).cells a' n') (0, 0) _ XG.out Tryz.underlying28 rfl (by exact (qJF (turnF f k) a' n')) ?_)
          | fail)
        refine (cmpZ_any a' _ n' _ la _ ln _ V4 OW.out.rd KK.out.1).mono ?_
        rintro e V5 ⟨rfl, rfl⟩
        cases hc : decide (cmpZ (turnF f k).kinds (norK f k).kinds < 0)
        · have E : Hid (norK f (k + 1) = norK f k) := Lib.hid (by rw [norK_succ, if_neg (of_decide_eq_false hc)])
          have hk64 := HK64.out
          go_wp2_with (first
            | (refine wpList_load_row rfl 28 _ rfl p rfl 28 (f.cells a n) (0, 0) _ XF.out Tryz.underlying28 rfl (by exact (qJF f a n)) ?_)
            | (refine wpList_load_row rfl 28 _ rfl z rfl 28 (zeroF.cells none 0) (0, 0) _ XZ.out Tryz.underlying28 rfl (by exact (qJF zeroF none 0)) ?_)
            | (refine wpList_load_row rfl 28 _ rfl L rfl 28 ((norK f k).cells la ln) (0, 0) _ XL.out Tryz.underlying28 rfl (by exact (qJF (norK f k) la ln)) ?_)
            | (refine wpList_load_row rfl 28 _ rfl g rfl 28 ((turnF f k).cells a' n') (0, 0) _ XG.out Tryz.underlying28 rfl (by exact (qJF (turnF f k) a' n')) ?_)
            | fail)
          go_roundw
          case rel =>
            refine ⟨k + 1, la, ln, by simp, by omega, ?_, BF, XF, XZ, ?_⟩
            · rw [E.out]; exact KK
            · rw [E.out]; exact XL
          case measure => simp [intOf]; omega
        · have E : Hid (norK f (k + 1) = turnF f k) := Lib.hid (by rw [norK_succ, if_pos (of_decide_eq_true hc)])
          go_upto_region 10 with (first
            | (refine wpList_load_row rfl 28 _ rfl p rfl 28 (f.cells a n) (0, 0) _ XF.out Tryz.underlying28 rfl (by exact (qJF f a n)) ?_)
            | (refine wpList_load_row rfl 28 _ rfl z rfl 28 (zeroF.cells none 0) (0, 0) _ XZ.out Tryz.underlying28 rfl (by exact (qJF zeroF none 0)) ?_)
            | (refine wpList_load_row rfl 28 _ rfl L rfl 28 ((norK f k).cells la ln) (0, 0) _ XL.out Tryz.underlying28 rfl (by exact (qJF (norK f k) la ln)) ?_)
            | (refine wpList_load_row rfl 28 _ rfl g rfl 28 ((turnF f k).cells a' n') (0, 0) _ XG.out Tryz.underlying28 rfl (by exact (qJF (turnF f k) a' n')) ?_)
            | (refine wpList_qstore rfl 28 _ _ rfl L ((norK f k).cells la ln) ((turnF f k).cells a' n') 28 rfl rfl XL.out (by exact (qJF (turnF f k) a' n')) rfl (qone (turnF f k) a' n') ?_; intro V6 hzz hgz; clear c0 c1 c2 c3 l3 g3; replace BF := Lib.hid (qstep BF.out hgz (by have h1 := LG.out; omega)); replace XF := Lib.hid (qgrown hgz XF.out (fun e => by have h1 := LG.out; have := Option.some.inj e; omega)); replace XZ := Lib.hid (qgrown hgz XZ.out (fun e => by have h1 := LG.out; have := Option.some.inj e; omega)); replace XG := Lib.hid (qgrown hgz XG.out (fun e => by exact GL.out (Option.some.inj e))); replace OW := Lib.hid (OW.out.kept hgz XL.out); replace XL := Lib.hid hzz; clear hzz hgz; have c0 := qcell XF.out 0 (.int .i64 f.eye) rfl; have c1 := qcell XF.out 1 (.int .i64 f.rings) rfl; have c2 := qcell XF.out 2 (.int .i64 f.sectors) rfl; have c3 := qcell XF.out 3 (.slice a f.kinds.length n) rfl; have g3 := qcell XG.out 3 (.slice a' (turnF f k).kinds.length n') rfl)
            | fail)
          have hk64 := HK64.out
          go_wp2_with fail
          go_roundw
          case rel =>
            refine ⟨k + 1, a', n', by simp, by omega, ?_, BF, XF, XZ, ?_⟩
            · rw [E.out]; exact Lib.hid (KOk.own OW.out XL.out)
            · rw [E.out]; exact XL
          case measure => simp [intOf]; omega
      · have t0 : decide ((k : Int) < (f.S : Int)) = false := by simp; omega
        have e : k = f.S := by omega
        subst e
        have EN : Hid (norK f f.S = normalF f) := Lib.hid rfl
        rw [EN.out] at KK XL
        have NL := Lib.hid (FaceV.len_le (normal_valid HV.out))
        go_upto_region 11 with fail
        have hz0 : Below wr.heap.size wr wr.drew := (Below.refl _ _).drew
        replace XZ := Lib.hid (qblk hz0 XZ.out)
        replace KK := Lib.hid (KK.out.below hz0)
        clear hz0 XF t0
        have l3 := qcell XL.out 3 (.slice la (normalF f).kinds.length ln) rfl
        clear l3
        have hd : Below wr.heap.size wr wr.drew := (Below.refl _ _).drew
        replace BF := Lib.hid (BF.out.drew)
        replace XL := Lib.hid (qblk hd XL.out)
        refine zD (fun W => Below w.heap.size w W ∧ W.heap[L]? = some (.cells ((normalF f).cells la ln) 28 (0, 0))) ⟨BF.out, XL.out⟩ (fun hHeld => ?_)
        clear hd
        generalize wr.drew = V3 at *
        refine zT 0 rfl (.agg ((normalF f).cells la ln)) (qyrow (by kernel_rfl) 28 _ rfl L rfl _ 28 (0, 0) _ (fun W hW => hW.2) Tryz.underlying28 rfl (by exact (qJF (normalF f) la ln))) ?_
        refine zW 1 rfl (.pointer (some ⟨L, 3, none⟩)) ?_
        refine zS 2 rfl (.slice la (normalF f).kinds.length ln) (fun W hW => by have c := qcell hW.2 3 (.slice la (normalF f).kinds.length ln) rfl; go_simp) ?_
        refine zR 3 rfl (fun K hK => ?_)
        go_simp
        refine (cloneZ_any la (normalF f).kinds.length ln (normalF f).kinds V3 (by have := NL.out; omega) KK.out.1).mono ?_
        rintro e V4 ⟨a', n', rfl, own, b⟩
        have OW := Lib.hid (own_mono own BF.out.size)
        clear own
        replace XZ := Lib.hid (qblk b XZ.out)
        replace BF := Lib.hid (BF.out.trans (b.mono BF.out.size))
        replace XL := Lib.hid (qblk b XL.out)
        clear b
        dsimp only
        refine zK hK ⟨BF.out, XL.out⟩ (fun hHeld => ?_)
        clear hK K
        refine zR 4 rfl (fun K hK => ?_)
        go_simp
        refine (with_any (normalF f) la ln (normalF f).kinds a' (normalF f).kinds.length n' V4 rfl).mono ?_
        rintro e V5 ⟨rfl, b⟩
        replace XZ := Lib.hid (qblk b XZ.out)
        replace OW := Lib.hid (own_below OW.out b)
        replace BF := Lib.hid (BF.out.trans (b.mono BF.out.size))
        replace XL := Lib.hid (qblk b XL.out)
        clear b
        dsimp only
        refine zK hK ⟨BF.out, XL.out⟩ (fun hHeld => ?_)
        clear hK K
        have eW : withF (normalF f) (normalF f).kinds = normalF f := rfl
        rw [eW]
        clear eW
        refine zR 5 rfl (fun K hK => ?_)
        rw [if_pos (by kernel_rfl)]
        refine qstore 28 _ _ rfl z (zeroF.cells none 0) ((normalF f).cells a' n') 28 rfl rfl XZ.out (by exact qJF (normalF f) a' n') rfl (qone (normalF f) a' n') ?_
        intro X h8 hg8 hs8
        replace BF := Lib.hid (qstep BF.out hg8 (by have := LG.out; omega))
        replace XL := Lib.hid (qgrown hg8 XL.out (fun e => by have h1 := LG.out; have := Option.some.inj e; omega))
        have OW2 : Hid (FOwn w X (normalF f) a' n') := Lib.hid (FOwn.kept OW.out hg8 XZ.out)
        replace XZ := Lib.hid h8
        clear h8 hg8 hs8
        refine zK hK ⟨BF.out, XL.out⟩ (fun hHeld => ?_)
        clear hK K
        refine zW 6 rfl (.int .i64 0) ?_
        refine zE ?_
        clear hHeld
        go_wp2_with fail
        (try simp only [Exit.inBlock, Exit.then])
        refine bodyPost_ret (results_ct rfl _ X z 28 ((normalF f).cells a' n') (0, 0) _ rfl XZ.out Tryz.underlying28 rfl (by exact (qJF (normalF f) a' n'))) rfl ?_
        unfold normalP
        rw [HV.out]
        exact ⟨⟨a', n', rfl, OW2.out⟩, BF.out⟩
end Go.Proofs.YtimmadkbkimonaaGreatDoor
namespace Go.Proofs.YtimmadkbkimonaaGreatDoor
set_option linter.unusedSimpArgs false
set_option linter.unusedVariables false
open Go.RowKit

theorem lit_ints (W : World) (l : List Int) (h : l.length ≤ 1000000) : RdI (W.alloc (.cells (l.map intV).toArray 3)) (some ⟨W.heap.size, 0, none⟩) l.length l.length l := by
  have := RdA.of_own (World.ownsRow_lit (base := W.heap.size) (e := 3) (size := 1) W (l.map intV).toArray l.length (Nat.le_refl _) (by unfold maxLen; omega) (by simp))
  exact this
theorem lit_fur (W : World) (x : FurV) : RdFu (W.alloc (.cells (furA x) 76)) (some ⟨W.heap.size, 0, none⟩) 1 1 [x] :=
  RdA.of_own (World.ownsRow_lit (base := W.heap.size) (e := 76) (size := 6) W (furA x) 1 (Nat.le_refl _) (by unfold maxLen; omega) rfl)
theorem lit_lists (W : World) (a b : Addr) (l m : List Int) (h1 : RdI W (some a) l.length l.length l) (h2 : RdI W (some b) m.length m.length m) : RdLL (W.alloc (.cells #[.slice (some a) l.length l.length, .slice (some b) m.length m.length] 26)) (some ⟨W.heap.size, 0, none⟩) 2 2 [l, m] := by
  have AL := al1 W (.cells #[.slice (some a) l.length l.length, .slice (some b) m.length m.length] 26)
  refine ⟨rfl, Nat.le_refl _, by unfold maxLen; omega, fun j x hj => ?_⟩
  match j, hj with
  | 0, hj => cases hj; exact ⟨W.heap.size, 0, some a, l.length, rfl, qcell AL.2 0 _ rfl, h1.below AL.1⟩
  | 1, hj => cases hj; exact ⟨W.heap.size, 0, some b, m.length, rfl, qcell AL.2 1 _ rfl, h2.below AL.1⟩
  | j + 2, hj => simp at hj
theorem sameInts2_any (a : Option Addr) (n c : Nat) (l : List Int) (a' : Option Addr) (n' c' : Nat) (l' : List Int) (w : World) (hr : RdI w a n c l) (hr' : RdI w a' n' c' l') :
    Calls Tryz.prog 34 #[.slice a n c, .slice a' n' c'] w fun e w' => e = .returned (.bool (decide (l = l'))) ∧ Below w.heap.size w w' := by
  refine (sameInts_any a n c l a' n' c' l' w hr hr').mono ?_
  rintro e V ⟨rfl, q, rfl⟩
  exact ⟨rfl, rfl, rfl, rfl, Nat.le_refl _, fun _ _ => rfl⟩
theorem smp_cut : Lib.cut [102, 97, 99, 101, 32, 49, 32, 50, 32, 48, 52, 10] [10] = ([102, 97, 99, 101, 32, 49, 32, 50, 32, 48, 52], [], true) := by decide +kernel
theorem smp_hdr : (hdrF ⟨#[102, 97, 99, 101, 32, 49, 32, 50, 32, 48, 52]⟩).2 = false := by decide +kernel
set_option maxHeartbeats 4000000 in
set_option maxRecDepth 100000 in
theorem awake_any (w : World) (he : EnvW w) : Calls Tryz.prog 11 #[] w fun e w' => e = .returned (.bool true) ∧ Below w.heap.size w w' := by
  have EV := Lib.hid (fun W (hb : Below w.heap.size w W) => he.below hb)
  clear he
  have BF := Lib.hid (Below.refl w.heap.size w)
  go_enter Tryz.func11, Tryz.ntmps11
  go_upto_region 1 with fail
  refine yB ?_
  refine yR (fun K hK => ?_)
  go_simp
  refine (sample_any _).mono ?_
  rintro e U1 ⟨⟨aS1, nS1, rfl, own⟩, b⟩
  have S1 := Lib.hid own.rd
  clear own
  replace BF := Lib.hid (BF.out.trans (b.mono BF.out.size))
  clear b
  try dsimp only
  refine yK hK ?_
  clear hK K
  refine yR (fun K hK => ?_)
  go_simp
  refine (areaP_any sampleF aS1 nS1 0 _ S1.out).mono ?_
  rintro e U2 ⟨rfl, b⟩
  rw [smp_area]
  replace BF := Lib.hid (BF.out.trans (b.mono BF.out.size))
  replace S1 := Lib.hid (S1.out.below b)
  clear b
  try dsimp only
  refine yK hK ?_
  clear hK K
  refine yM (.tuple #[.int .i64 19, .int .i64 0]) ?_
  refine yM (.int .i64 19) ?_
  refine yM (.int .i64 0) ?_
  refine yM (.int .i64 19) ?_
  refine yM (.int .i64 0) ?_
  refine yE ?_
  clear S1
  go_upto_region 2 with fail
  refine yB ?_
  refine yR (fun K hK => ?_)
  go_simp
  refine (sample_any _).mono ?_
  rintro e U3 ⟨⟨aS2, nS2, rfl, own⟩, b⟩
  have S2 := Lib.hid own.rd
  clear own
  replace BF := Lib.hid (BF.out.trans (b.mono BF.out.size))
  clear b
  try dsimp only
  refine yK hK ?_
  clear hK K
  refine yR (fun K hK => ?_)
  go_simp
  refine (regionsP_any sampleF aS2 nS2 _ S2.out).mono ?_
  rintro e U4 ⟨⟨oa, oc, rfl, ll⟩, b⟩
  have LL := Lib.hid ll
  clear ll
  rw [show (regionsP sampleF).2 = 0 by rw [smp_regions]]
  replace BF := Lib.hid (BF.out.trans (b.mono BF.out.size))
  replace S2 := Lib.hid (S2.out.below b)
  clear b
  obtain ⟨rl, hrl⟩ : ∃ x, Hid ((regionsP sampleF).1.length = x) := ⟨_, Lib.hid rfl⟩
  rw [hrl.out] at LL ⊢
  try dsimp only
  refine yK hK ?_
  clear hK K
  refine yM (.tuple #[.slice oa rl oc, .int .i64 0]) ?_
  refine yM (.slice oa rl oc) ?_
  refine yM (.int .i64 0) ?_
  refine yM (.slice oa rl oc) ?_
  refine yM (.int .i64 0) ?_
  refine yE ?_
  clear S2
  go_upto_region 3 with fail
  refine yB ?_
  refine yR (fun K hK => ?_)
  go_simp
  refine (sample_any _).mono ?_
  rintro e U5 ⟨⟨aS3, nS3, rfl, own⟩, b⟩
  have S3 := Lib.hid own.rd
  clear own
  replace BF := Lib.hid (BF.out.trans (b.mono BF.out.size))
  replace LL := Lib.hid (LL.out.below b)
  clear b
  try dsimp only
  refine yK hK ?_
  clear hK K
  refine yR (fun K hK => ?_)
  go_simp
  refine (turnP_any sampleF aS3 nS3 1 _ S3.out).mono ?_
  rintro e U6 ⟨⟨bA, mA, rfl, own⟩, b⟩
  have RA := Lib.hid own.rd
  clear own
  rw [show (turnP sampleF 1).2 = 0 by rw [smp_turn]]
  replace BF := Lib.hid (BF.out.trans (b.mono BF.out.size))
  replace LL := Lib.hid (LL.out.below b)
  replace S3 := Lib.hid (S3.out.below b)
  clear b
  obtain ⟨TA, hTA⟩ : ∃ T, Hid ((turnP sampleF 1).1 = T) := ⟨_, Lib.hid rfl⟩
  rw [hTA.out] at RA ⊢
  try dsimp only
  refine yK hK ?_
  clear hK K
  refine yM (.tuple #[.agg (TA.cells bA mA), .int .i64 0]) ?_
  refine yM (.agg (TA.cells bA mA)) ?_
  refine yM (.int .i64 0) ?_
  refine yR (fun K hK => ?_)
  refine qbuild (w' := U6.alloc (.cells #[.int .i64 0, .int .i64 0, .int .i64 0, .slice none 0 0] 28)) (.pointer (some ⟨U6.heap.size, 0, none⟩)) (by kernel_rfl) ?_
  obtain ⟨x5, hx5⟩ : ∃ x, Hid (U6.heap.size = x) := ⟨_, Lib.hid rfl⟩
  have AL := Lib.hid (al1 U6 (.cells #[.int .i64 0, .int .i64 0, .int .i64 0, .slice none 0 0] 28))
  rw [hx5.out] at AL ⊢
  refine yK hK ?_
  clear hK K
  refine yR (fun K hK => ?_)
  refine qstore 28 _ _ rfl x5 #[.int .i64 0, .int .i64 0, .int .i64 0, .slice none 0 0] (TA.cells bA mA) 28 rfl rfl AL.out.2 (by exact qJF TA bA mA) rfl (qone TA bA mA) ?_
  intro U7 h8 hg8 hs8
  have b : Below U6.heap.size U6 U7 := qstep (by have h1 := AL.out.1; rw [← hx5.out] at h1; exact h1) hg8 (Nat.le_of_eq hx5.out)
  replace BF := Lib.hid (BF.out.trans (b.mono BF.out.size))
  replace LL := Lib.hid (LL.out.below b)
  replace S3 := Lib.hid (S3.out.below b)
  replace RA := Lib.hid (RA.out.below b)
  clear b
  have XA := Lib.hid h8
  clear h8 hg8 hs8 AL
  refine yK hK ?_
  clear hK K
  refine yM (.int .i64 0) ?_
  refine yE ?_
  clear S3
  go_upto_region 4 with fail
  refine yB ?_
  refine yR (fun K hK => ?_)
  go_simp
  refine (sample_any _).mono ?_
  rintro e U8 ⟨⟨aS4, nS4, rfl, own⟩, b⟩
  have S4 := Lib.hid own.rd
  clear own
  replace BF := Lib.hid (BF.out.trans (b.mono BF.out.size))
  replace LL := Lib.hid (LL.out.below b)
  replace RA := Lib.hid (RA.out.below b)
  replace XA := Lib.hid (qblk b XA.out)
  clear b
  try dsimp only
  refine yK hK ?_
  clear hK K
  refine yR (fun K hK => ?_)
  go_simp
  refine (normalP_any sampleF aS4 nS4 _ S4.out).mono ?_
  rintro e U9 ⟨⟨bB, mB, rfl, own⟩, b⟩
  have RB := Lib.hid own.rd
  clear own
  rw [show (normalP sampleF).2 = 0 by rw [smp_normal]]
  replace BF := Lib.hid (BF.out.trans (b.mono BF.out.size))
  replace LL := Lib.hid (LL.out.below b)
  replace RA := Lib.hid (RA.out.below b)
  replace S4 := Lib.hid (S4.out.below b)
  replace XA := Lib.hid (qblk b XA.out)
  clear b
  obtain ⟨TB, hTB⟩ : ∃ T, Hid ((normalP sampleF).1 = T) := ⟨_, Lib.hid rfl⟩
  rw [hTB.out] at RB ⊢
  try dsimp only
  refine yK hK ?_
  clear hK K
  refine yM (.tuple #[.agg (TB.cells bB mB), .int .i64 0]) ?_
  refine yM (.agg (TB.cells bB mB)) ?_
  refine yM (.int .i64 0) ?_
  refine yR (fun K hK => ?_)
  refine qbuild (w' := U9.alloc (.cells #[.int .i64 0, .int .i64 0, .int .i64 0, .slice none 0 0] 28)) (.pointer (some ⟨U9.heap.size, 0, none⟩)) (by kernel_rfl) ?_
  obtain ⟨x7, hx7⟩ : ∃ x, Hid (U9.heap.size = x) := ⟨_, Lib.hid rfl⟩
  have AL := Lib.hid (al1 U9 (.cells #[.int .i64 0, .int .i64 0, .int .i64 0, .slice none 0 0] 28))
  rw [hx7.out] at AL ⊢
  refine yK hK ?_
  clear hK K
  refine yR (fun K hK => ?_)
  refine qstore 28 _ _ rfl x7 #[.int .i64 0, .int .i64 0, .int .i64 0, .slice none 0 0] (TB.cells bB mB) 28 rfl rfl AL.out.2 (by exact qJF TB bB mB) rfl (qone TB bB mB) ?_
  intro U10 h8 hg8 hs8
  have b : Below U9.heap.size U9 U10 := qstep (by have h1 := AL.out.1; rw [← hx7.out] at h1; exact h1) hg8 (Nat.le_of_eq hx7.out)
  replace BF := Lib.hid (BF.out.trans (b.mono BF.out.size))
  replace LL := Lib.hid (LL.out.below b)
  replace RA := Lib.hid (RA.out.below b)
  replace S4 := Lib.hid (S4.out.below b)
  replace RB := Lib.hid (RB.out.below b)
  replace XA := Lib.hid (qblk b XA.out)
  clear b
  have XB := Lib.hid h8
  clear h8 hg8 hs8 AL
  refine yK hK ?_
  clear hK K
  refine yM (.int .i64 0) ?_
  refine yE ?_
  clear S4
  go_upto_region 5 with fail
  refine yB ?_
  refine yW (.agg #[.int .i64 0, .int .i64 1, .int .i64 1, .int .i64 1, .int .i64 1, .int .i64 0]) ?_ (.inl ⟨by kernel_rfl, by intro W hW; kernel_rfl⟩)
  refine yR (fun K hK => ?_)
  refine qbuild (w' := U10.alloc (.cells #[.int .i64 0, .int .i64 1, .int .i64 1, .int .i64 1, .int .i64 1, .int .i64 0] 76)) (.slice (some ⟨U10.heap.size, 0, none⟩) 1 1) (by kernel_rfl) ?_
  have LI := lit_fur U10 ⟨0, 1, 1, 1, 1, 0⟩
  have b := zB U10 (.cells #[.int .i64 0, .int .i64 1, .int .i64 1, .int .i64 1, .int .i64 1, .int .i64 0] 76)
  have RF : Hid (RdFu (U10.alloc (.cells #[.int .i64 0, .int .i64 1, .int .i64 1, .int .i64 1, .int .i64 1, .int .i64 0] 76)) (some ⟨U10.heap.size, 0, none⟩) sampleP.furs.length 1 sampleP.furs) := Lib.hid LI
  clear LI
  replace BF := Lib.hid (BF.out.trans (b.mono BF.out.size))
  replace LL := Lib.hid (LL.out.below b)
  replace RA := Lib.hid (RA.out.below b)
  replace RB := Lib.hid (RB.out.below b)
  replace XA := Lib.hid (qblk b XA.out)
  replace XB := Lib.hid (qblk b XB.out)
  clear b
  obtain ⟨fb, hfb⟩ : ∃ x, Hid (U10.heap.size = x) := ⟨_, Lib.hid rfl⟩
  rw [hfb.out] at RF ⊢
  generalize U10.alloc (.cells #[.int .i64 0, .int .i64 1, .int .i64 1, .int .i64 1, .int .i64 1, .int .i64 0] 76) = U11 at *
  refine yK hK ?_
  clear hK K
  refine yW (.agg (patA sampleP (some ⟨fb, 0, none⟩) 1)) ?_ (.inl ⟨by kernel_rfl, by intro W hW; kernel_rfl⟩)
  refine yR (fun K hK => ?_)
  go_simp
  refine (dressP_any sampleP (some ⟨fb, 0, none⟩) 1 _ RF.out).mono ?_
  rintro e U12 ⟨⟨bD, mD, rfl, own⟩, b⟩
  have RD := Lib.hid own.rd
  clear own
  rw [show (dressP sampleP).2 = 0 by rw [smp_dress]]
  replace BF := Lib.hid (BF.out.trans (b.mono BF.out.size))
  replace LL := Lib.hid (LL.out.below b)
  replace RA := Lib.hid (RA.out.below b)
  replace RB := Lib.hid (RB.out.below b)
  replace RF := Lib.hid (RF.out.below b)
  replace XA := Lib.hid (qblk b XA.out)
  replace XB := Lib.hid (qblk b XB.out)
  clear b
  obtain ⟨TD, hTD⟩ : ∃ T, Hid ((dressP sampleP).1 = T) := ⟨_, Lib.hid rfl⟩
  rw [hTD.out] at RD ⊢
  try dsimp only
  refine yK hK ?_
  clear hK K
  refine yM (.tuple #[.agg (TD.cells bD mD), .int .i64 0]) ?_
  refine yM (.agg (TD.cells bD mD)) ?_
  refine yM (.int .i64 0) ?_
  refine yR (fun K hK => ?_)
  refine qbuild (w' := U12.alloc (.cells #[.int .i64 0, .int .i64 0, .int .i64 0, .slice none 0 0] 28)) (.pointer (some ⟨U12.heap.size, 0, none⟩)) (by kernel_rfl) ?_
  obtain ⟨x9, hx9⟩ : ∃ x, Hid (U12.heap.size = x) := ⟨_, Lib.hid rfl⟩
  have AL := Lib.hid (al1 U12 (.cells #[.int .i64 0, .int .i64 0, .int .i64 0, .slice none 0 0] 28))
  rw [hx9.out] at AL ⊢
  refine yK hK ?_
  clear hK K
  refine yR (fun K hK => ?_)
  refine qstore 28 _ _ rfl x9 #[.int .i64 0, .int .i64 0, .int .i64 0, .slice none 0 0] (TD.cells bD mD) 28 rfl rfl AL.out.2 (by exact qJF TD bD mD) rfl (qone TD bD mD) ?_
  intro U13 h8 hg8 hs8
  have b : Below U12.heap.size U12 U13 := qstep (by have h1 := AL.out.1; rw [← hx9.out] at h1; exact h1) hg8 (Nat.le_of_eq hx9.out)
  replace BF := Lib.hid (BF.out.trans (b.mono BF.out.size))
  replace LL := Lib.hid (LL.out.below b)
  replace RA := Lib.hid (RA.out.below b)
  replace RB := Lib.hid (RB.out.below b)
  replace RF := Lib.hid (RF.out.below b)
  replace RD := Lib.hid (RD.out.below b)
  replace XA := Lib.hid (qblk b XA.out)
  replace XB := Lib.hid (qblk b XB.out)
  clear b
  have XD := Lib.hid h8
  clear h8 hg8 hs8 AL
  refine yK hK ?_
  clear hK K
  refine yM (.int .i64 0) ?_
  refine yE ?_
  clear RF
  go_upto_region 6 with fail
  refine yB ?_
  refine yR (fun K hK => ?_)
  go_simp
  refine (parseX_any ⟨#[102, 97, 99, 101, 32, 49, 32, 50, 32, 48, 52, 10]⟩ ⟨#[102, 97, 99, 101, 32, 49, 32, 50, 32, 48, 52]⟩ ⟨#[]⟩ true _ (by decide) (EV.out _ BF.out) (by decide) smp_cut ⟨by decide, by decide, smp_hdr⟩).mono ?_
  rintro e U14 ⟨rfl, b⟩
  replace BF := Lib.hid (BF.out.trans (b.mono BF.out.size))
  replace LL := Lib.hid (LL.out.below b)
  replace RA := Lib.hid (RA.out.below b)
  replace RB := Lib.hid (RB.out.below b)
  replace RD := Lib.hid (RD.out.below b)
  replace XA := Lib.hid (qblk b XA.out)
  replace XB := Lib.hid (qblk b XB.out)
  replace XD := Lib.hid (qblk b XD.out)
  clear b
  try dsimp only
  refine yK hK ?_
  clear hK K
  refine yM (.tuple #[.agg (zeroF.cells none 0), .int .i64 11, .int .i64 1]) ?_
  refine yM (.agg (zeroF.cells none 0)) ?_
  refine yM (.int .i64 11) ?_
  refine yM (.int .i64 1) ?_
  refine yR (fun K hK => ?_)
  refine qbuild (w' := U14.alloc (.cells #[.int .i64 0, .int .i64 0, .int .i64 0, .slice none 0 0] 28)) (.pointer (some ⟨U14.heap.size, 0, none⟩)) (by kernel_rfl) ?_
  obtain ⟨x11, hx11⟩ : ∃ x, Hid (U14.heap.size = x) := ⟨_, Lib.hid rfl⟩
  have AL := Lib.hid (al1 U14 (.cells #[.int .i64 0, .int .i64 0, .int .i64 0, .slice none 0 0] 28))
  rw [hx11.out] at AL ⊢
  refine yK hK ?_
  clear hK K
  refine yR (fun K hK => ?_)
  refine qstore 28 _ _ rfl x11 #[.int .i64 0, .int .i64 0, .int .i64 0, .slice none 0 0] (zeroF.cells none 0) 28 rfl rfl AL.out.2 (by exact qJF zeroF none 0) rfl (qone zeroF none 0) ?_
  intro U15 h8 hg8 hs8
  have b : Below U14.heap.size U14 U15 := qstep (by have h1 := AL.out.1; rw [← hx11.out] at h1; exact h1) hg8 (Nat.le_of_eq hx11.out)
  replace BF := Lib.hid (BF.out.trans (b.mono BF.out.size))
  replace LL := Lib.hid (LL.out.below b)
  replace RA := Lib.hid (RA.out.below b)
  replace RB := Lib.hid (RB.out.below b)
  replace RD := Lib.hid (RD.out.below b)
  replace XA := Lib.hid (qblk b XA.out)
  replace XB := Lib.hid (qblk b XB.out)
  replace XD := Lib.hid (qblk b XD.out)
  clear b
  clear h8 hg8 hs8 AL
  refine yK hK ?_
  clear hK K
  refine yM (.int .i64 11) ?_
  refine yM (.int .i64 1) ?_
  refine yE ?_
  go_upto_region 7 with fail
  refine yB ?_
  refine yM (.int .i64 0) ?_
  refine yW (.bool false) ?_
  refine yM (.bool false) ?_
  refine yM (.int .i64 0) ?_
  refine yW (.bool false) ?_
  refine yM (.bool false) ?_
  refine yM (.bool false) ?_
  refine yM (.int .i64 0) ?_
  refine yW (.bool false) ?_
  refine yM (.bool false) ?_
  refine yM (.bool false) ?_
  refine yM (.int .i64 0) ?_
  refine yW (.bool false) ?_
  refine yM (.bool false) ?_
  refine yM (.bool false) ?_
  refine yM (.int .i64 0) ?_
  refine yW (.bool false) ?_
  refine yM (.bool false) ?_
  refine yM (.bool false) ?_
  refine yM (.int .i64 11) ?_
  refine yW (.bool false) ?_
  refine yM (.bool false) ?_
  refine yM (.bool false) ?_
  refine yM (.int .i64 1) ?_
  refine yW (.bool false) ?_
  refine yM (.bool false) ?_
  refine yM (.bool false) ?_
  refine yM (.int .i64 19) ?_
  refine yW (.bool false) ?_
  refine yM (.bool false) ?_
  refine yE ?_
  go_upto_region 9 with fail
  refine yB ?_
  refine yM (.slice oa rl oc) ?_
  refine yR (fun K hK => ?_)
  refine qbuild (w' := U15.alloc (.cells #[.int .i64 0, .int .i64 2, .int .i64 3, .int .i64 4, .int .i64 7] 3)) (.slice (some ⟨U15.heap.size, 0, none⟩) 5 5) (by kernel_rfl) ?_
  have LI := lit_ints U15 [0, 2, 3, 4, 7] (by decide)
  have b := zB U15 (.cells #[.int .i64 0, .int .i64 2, .int .i64 3, .int .i64 4, .int .i64 7] 3)
  have K1 : Hid (RdI (U15.alloc (.cells #[.int .i64 0, .int .i64 2, .int .i64 3, .int .i64 4, .int .i64 7] 3)) (some ⟨U15.heap.size, 0, none⟩) 5 5 [0, 2, 3, 4, 7]) := Lib.hid LI
  clear LI
  replace BF := Lib.hid (BF.out.trans (b.mono BF.out.size))
  replace LL := Lib.hid (LL.out.below b)
  replace RA := Lib.hid (RA.out.below b)
  replace RB := Lib.hid (RB.out.below b)
  replace RD := Lib.hid (RD.out.below b)
  replace XA := Lib.hid (qblk b XA.out)
  replace XB := Lib.hid (qblk b XB.out)
  replace XD := Lib.hid (qblk b XD.out)
  clear b
  obtain ⟨gK1, hgK1⟩ : ∃ x, Hid (U15.heap.size = x) := ⟨_, Lib.hid rfl⟩
  rw [hgK1.out] at K1 ⊢
  generalize U15.alloc (.cells #[.int .i64 0, .int .i64 2, .int .i64 3, .int .i64 4, .int .i64 7] 3) = U16 at *
  refine yK hK ?_
  clear hK K
  refine yR (fun K hK => ?_)
  refine qbuild (w' := U16.alloc (.cells #[.int .i64 1, .int .i64 5, .int .i64 6] 3)) (.slice (some ⟨U16.heap.size, 0, none⟩) 3 3) (by kernel_rfl) ?_
  have LI := lit_ints U16 [1, 5, 6] (by decide)
  have b := zB U16 (.cells #[.int .i64 1, .int .i64 5, .int .i64 6] 3)
  have K2 : Hid (RdI (U16.alloc (.cells #[.int .i64 1, .int .i64 5, .int .i64 6] 3)) (some ⟨U16.heap.size, 0, none⟩) 3 3 [1, 5, 6]) := Lib.hid LI
  clear LI
  replace BF := Lib.hid (BF.out.trans (b.mono BF.out.size))
  replace LL := Lib.hid (LL.out.below b)
  replace RA := Lib.hid (RA.out.below b)
  replace RB := Lib.hid (RB.out.below b)
  replace RD := Lib.hid (RD.out.below b)
  replace K1 := Lib.hid (K1.out.below b)
  replace XA := Lib.hid (qblk b XA.out)
  replace XB := Lib.hid (qblk b XB.out)
  replace XD := Lib.hid (qblk b XD.out)
  clear b
  obtain ⟨gK2, hgK2⟩ : ∃ x, Hid (U16.heap.size = x) := ⟨_, Lib.hid rfl⟩
  rw [hgK2.out] at K2 ⊢
  generalize U16.alloc (.cells #[.int .i64 1, .int .i64 5, .int .i64 6] 3) = U17 at *
  refine yK hK ?_
  clear hK K
  refine yR (fun K hK => ?_)
  refine qbuild (w' := U17.alloc (.cells #[.slice (some ⟨gK1, 0, none⟩) 5 5, .slice (some ⟨gK2, 0, none⟩) 3 3] 26)) (.slice (some ⟨U17.heap.size, 0, none⟩) 2 2) (by kernel_rfl) ?_
  have LI := lit_lists U17 ⟨gK1, 0, none⟩ ⟨gK2, 0, none⟩ [0, 2, 3, 4, 7] [1, 5, 6] K1.out K2.out
  have b := zB U17 (.cells #[.slice (some ⟨gK1, 0, none⟩) 5 5, .slice (some ⟨gK2, 0, none⟩) 3 3] 26)
  have KL : Hid (RdLL (U17.alloc (.cells #[.slice (some ⟨gK1, 0, none⟩) 5 5, .slice (some ⟨gK2, 0, none⟩) 3 3] 26)) (some ⟨U17.heap.size, 0, none⟩) 2 2 [[0, 2, 3, 4, 7], [1, 5, 6]]) := Lib.hid LI
  clear LI
  replace BF := Lib.hid (BF.out.trans (b.mono BF.out.size))
  replace LL := Lib.hid (LL.out.below b)
  replace RA := Lib.hid (RA.out.below b)
  replace RB := Lib.hid (RB.out.below b)
  replace RD := Lib.hid (RD.out.below b)
  replace K1 := Lib.hid (K1.out.below b)
  replace K2 := Lib.hid (K2.out.below b)
  replace XA := Lib.hid (qblk b XA.out)
  replace XB := Lib.hid (qblk b XB.out)
  replace XD := Lib.hid (qblk b XD.out)
  clear b
  obtain ⟨gL, hgL⟩ : ∃ x, Hid (U17.heap.size = x) := ⟨_, Lib.hid rfl⟩
  rw [hgL.out] at KL ⊢
  generalize U17.alloc (.cells #[.slice (some ⟨gK1, 0, none⟩) 5 5, .slice (some ⟨gK2, 0, none⟩) 3 3] 26) = U18 at *
  refine yK hK ?_
  clear hK K
  refine yR (fun K hK => ?_)
  go_simp
  refine (sameLists_any oa rl oc (regionsP sampleF).1 (some ⟨gL, 0, none⟩) 2 2 [[0, 2, 3, 4, 7], [1, 5, 6]] _ LL.out KL.out).mono ?_
  rintro e U19 ⟨rfl, b⟩
  rw [show decide ((regionsP sampleF).1 = [[0, 2, 3, 4, 7], [1, 5, 6]]) = true by rw [smp_regions]; rfl]
  replace BF := Lib.hid (BF.out.trans (b.mono BF.out.size))
  replace LL := Lib.hid (LL.out.below b)
  replace RA := Lib.hid (RA.out.below b)
  replace RB := Lib.hid (RB.out.below b)
  replace RD := Lib.hid (RD.out.below b)
  replace K1 := Lib.hid (K1.out.below b)
  replace K2 := Lib.hid (K2.out.below b)
  replace KL := Lib.hid (KL.out.below b)
  replace XA := Lib.hid (qblk b XA.out)
  replace XB := Lib.hid (qblk b XB.out)
  replace XD := Lib.hid (qblk b XD.out)
  clear b
  try dsimp only
  refine yK hK ?_
  clear hK K
  refine yM (.bool true) ?_
  refine yW (.pointer (some ⟨x5, 3, none⟩)) ?_
  have qx := qcell XA.out 3 (.slice bA TA.kinds.length mA) rfl
  refine yW (.slice bA TA.kinds.length mA) ?_
  refine yR (fun K hK => ?_)
  refine qbuild (w' := U19.alloc (.cells #[.int .i64 0, .int .i64 0, .int .i64 1, .int .i64 0, .int .i64 0, .int .i64 0, .int .i64 1, .int .i64 2] 3)) (.slice (some ⟨U19.heap.size, 0, none⟩) 8 8) (by kernel_rfl) ?_
  have LI := lit_ints U19 [0, 0, 1, 0, 0, 0, 1, 2] (by decide)
  have b := zB U19 (.cells #[.int .i64 0, .int .i64 0, .int .i64 1, .int .i64 0, .int .i64 0, .int .i64 0, .int .i64 1, .int .i64 2] 3)
  have K3 : Hid (RdI (U19.alloc (.cells #[.int .i64 0, .int .i64 0, .int .i64 1, .int .i64 0, .int .i64 0, .int .i64 0, .int .i64 1, .int .i64 2] 3)) (some ⟨U19.heap.size, 0, none⟩) 8 8 [0, 0, 1, 0, 0, 0, 1, 2]) := Lib.hid LI
  clear LI
  replace BF := Lib.hid (BF.out.trans (b.mono BF.out.size))
  replace LL := Lib.hid (LL.out.below b)
  replace RA := Lib.hid (RA.out.below b)
  replace RB := Lib.hid (RB.out.below b)
  replace RD := Lib.hid (RD.out.below b)
  replace K1 := Lib.hid (K1.out.below b)
  replace K2 := Lib.hid (K2.out.below b)
  replace KL := Lib.hid (KL.out.below b)
  replace XA := Lib.hid (qblk b XA.out)
  replace XB := Lib.hid (qblk b XB.out)
  replace XD := Lib.hid (qblk b XD.out)
  clear b
  obtain ⟨gK3, hgK3⟩ : ∃ x, Hid (U19.heap.size = x) := ⟨_, Lib.hid rfl⟩
  rw [hgK3.out] at K3 ⊢
  generalize U19.alloc (.cells #[.int .i64 0, .int .i64 0, .int .i64 1, .int .i64 0, .int .i64 0, .int .i64 0, .int .i64 1, .int .i64 2] 3) = U20 at *
  refine yK hK ?_
  clear hK K
  refine yR (fun K hK => ?_)
  go_simp
  refine (sameInts2_any bA TA.kinds.length mA TA.kinds (some ⟨gK3, 0, none⟩) 8 8 [0, 0, 1, 0, 0, 0, 1, 2] _ RA.out K3.out).mono ?_
  rintro e U21 ⟨rfl, b⟩
  rw [show decide (TA.kinds = [0, 0, 1, 0, 0, 0, 1, 2]) = true by rw [← hTA.out, smp_turn]; rfl]
  clear qx
  replace BF := Lib.hid (BF.out.trans (b.mono BF.out.size))
  replace LL := Lib.hid (LL.out.below b)
  replace RA := Lib.hid (RA.out.below b)
  replace RB := Lib.hid (RB.out.below b)
  replace RD := Lib.hid (RD.out.below b)
  replace K1 := Lib.hid (K1.out.below b)
  replace K2 := Lib.hid (K2.out.below b)
  replace KL := Lib.hid (KL.out.below b)
  replace K3 := Lib.hid (K3.out.below b)
  replace XA := Lib.hid (qblk b XA.out)
  replace XB := Lib.hid (qblk b XB.out)
  replace XD := Lib.hid (qblk b XD.out)
  clear b
  try dsimp only
  refine yK hK ?_
  clear hK K
  refine yM (.bool true) ?_
  refine yM (.bool true) ?_
  refine yW (.pointer (some ⟨x7, 3, none⟩)) ?_
  have qx := qcell XB.out 3 (.slice bB TB.kinds.length mB) rfl
  refine yW (.slice bB TB.kinds.length mB) ?_
  refine yR (fun K hK => ?_)
  refine qbuild (w' := U21.alloc (.cells #[.int .i64 0, .int .i64 0, .int .i64 0, .int .i64 1, .int .i64 2, .int .i64 0, .int .i64 0, .int .i64 1] 3)) (.slice (some ⟨U21.heap.size, 0, none⟩) 8 8) (by kernel_rfl) ?_
  have LI := lit_ints U21 [0, 0, 0, 1, 2, 0, 0, 1] (by decide)
  have b := zB U21 (.cells #[.int .i64 0, .int .i64 0, .int .i64 0, .int .i64 1, .int .i64 2, .int .i64 0, .int .i64 0, .int .i64 1] 3)
  have K4 : Hid (RdI (U21.alloc (.cells #[.int .i64 0, .int .i64 0, .int .i64 0, .int .i64 1, .int .i64 2, .int .i64 0, .int .i64 0, .int .i64 1] 3)) (some ⟨U21.heap.size, 0, none⟩) 8 8 [0, 0, 0, 1, 2, 0, 0, 1]) := Lib.hid LI
  clear LI
  replace BF := Lib.hid (BF.out.trans (b.mono BF.out.size))
  replace LL := Lib.hid (LL.out.below b)
  replace RA := Lib.hid (RA.out.below b)
  replace RB := Lib.hid (RB.out.below b)
  replace RD := Lib.hid (RD.out.below b)
  replace K1 := Lib.hid (K1.out.below b)
  replace K2 := Lib.hid (K2.out.below b)
  replace KL := Lib.hid (KL.out.below b)
  replace K3 := Lib.hid (K3.out.below b)
  replace XA := Lib.hid (qblk b XA.out)
  replace XB := Lib.hid (qblk b XB.out)
  replace XD := Lib.hid (qblk b XD.out)
  clear b
  obtain ⟨gK4, hgK4⟩ : ∃ x, Hid (U21.heap.size = x) := ⟨_, Lib.hid rfl⟩
  rw [hgK4.out] at K4 ⊢
  generalize U21.alloc (.cells #[.int .i64 0, .int .i64 0, .int .i64 0, .int .i64 1, .int .i64 2, .int .i64 0, .int .i64 0, .int .i64 1] 3) = U22 at *
  refine yK hK ?_
  clear hK K
  refine yR (fun K hK => ?_)
  go_simp
  refine (sameInts2_any bB TB.kinds.length mB TB.kinds (some ⟨gK4, 0, none⟩) 8 8 [0, 0, 0, 1, 2, 0, 0, 1] _ RB.out K4.out).mono ?_
  rintro e U23 ⟨rfl, b⟩
  rw [show decide (TB.kinds = [0, 0, 0, 1, 2, 0, 0, 1]) = true by rw [← hTB.out, smp_normal]; rfl]
  clear qx
  replace BF := Lib.hid (BF.out.trans (b.mono BF.out.size))
  replace LL := Lib.hid (LL.out.below b)
  replace RA := Lib.hid (RA.out.below b)
  replace RB := Lib.hid (RB.out.below b)
  replace RD := Lib.hid (RD.out.below b)
  replace K1 := Lib.hid (K1.out.below b)
  replace K2 := Lib.hid (K2.out.below b)
  replace KL := Lib.hid (KL.out.below b)
  replace K3 := Lib.hid (K3.out.below b)
  replace K4 := Lib.hid (K4.out.below b)
  replace XA := Lib.hid (qblk b XA.out)
  replace XB := Lib.hid (qblk b XB.out)
  replace XD := Lib.hid (qblk b XD.out)
  clear b
  try dsimp only
  refine yK hK ?_
  clear hK K
  refine yM (.bool true) ?_
  refine yM (.bool true) ?_
  refine yW (.pointer (some ⟨x9, 3, none⟩)) ?_
  have qx := qcell XD.out 3 (.slice bD TD.kinds.length mD) rfl
  refine yW (.slice bD TD.kinds.length mD) ?_
  refine yR (fun K hK => ?_)
  refine qbuild (w' := U23.alloc (.cells #[.int .i64 0, .int .i64 0, .int .i64 0, .int .i64 0, .int .i64 0, .int .i64 0, .int .i64 0, .int .i64 1, .int .i64 0, .int .i64 0, .int .i64 1, .int .i64 0, .int .i64 1, .int .i64 0, .int .i64 0, .int .i64 1, .int .i64 0, .int .i64 0] 3)) (.slice (some ⟨U23.heap.size, 0, none⟩) 18 18) (by kernel_rfl) ?_
  have LI := lit_ints U23 [0, 0, 0, 0, 0, 0, 0, 1, 0, 0, 1, 0, 1, 0, 0, 1, 0, 0] (by decide)
  have b := zB U23 (.cells #[.int .i64 0, .int .i64 0, .int .i64 0, .int .i64 0, .int .i64 0, .int .i64 0, .int .i64 0, .int .i64 1, .int .i64 0, .int .i64 0, .int .i64 1, .int .i64 0, .int .i64 1, .int .i64 0, .int .i64 0, .int .i64 1, .int .i64 0, .int .i64 0] 3)
  have K5 : Hid (RdI (U23.alloc (.cells #[.int .i64 0, .int .i64 0, .int .i64 0, .int .i64 0, .int .i64 0, .int .i64 0, .int .i64 0, .int .i64 1, .int .i64 0, .int .i64 0, .int .i64 1, .int .i64 0, .int .i64 1, .int .i64 0, .int .i64 0, .int .i64 1, .int .i64 0, .int .i64 0] 3)) (some ⟨U23.heap.size, 0, none⟩) 18 18 [0, 0, 0, 0, 0, 0, 0, 1, 0, 0, 1, 0, 1, 0, 0, 1, 0, 0]) := Lib.hid LI
  clear LI
  replace BF := Lib.hid (BF.out.trans (b.mono BF.out.size))
  replace LL := Lib.hid (LL.out.below b)
  replace RA := Lib.hid (RA.out.below b)
  replace RB := Lib.hid (RB.out.below b)
  replace RD := Lib.hid (RD.out.below b)
  replace K1 := Lib.hid (K1.out.below b)
  replace K2 := Lib.hid (K2.out.below b)
  replace KL := Lib.hid (KL.out.below b)
  replace K3 := Lib.hid (K3.out.below b)
  replace K4 := Lib.hid (K4.out.below b)
  replace XA := Lib.hid (qblk b XA.out)
  replace XB := Lib.hid (qblk b XB.out)
  replace XD := Lib.hid (qblk b XD.out)
  clear b
  obtain ⟨gK5, hgK5⟩ : ∃ x, Hid (U23.heap.size = x) := ⟨_, Lib.hid rfl⟩
  rw [hgK5.out] at K5 ⊢
  generalize U23.alloc (.cells #[.int .i64 0, .int .i64 0, .int .i64 0, .int .i64 0, .int .i64 0, .int .i64 0, .int .i64 0, .int .i64 1, .int .i64 0, .int .i64 0, .int .i64 1, .int .i64 0, .int .i64 1, .int .i64 0, .int .i64 0, .int .i64 1, .int .i64 0, .int .i64 0] 3) = U24 at *
  refine yK hK ?_
  clear hK K
  refine yR (fun K hK => ?_)
  go_simp
  refine (sameInts2_any bD TD.kinds.length mD TD.kinds (some ⟨gK5, 0, none⟩) 18 18 [0, 0, 0, 0, 0, 0, 0, 1, 0, 0, 1, 0, 1, 0, 0, 1, 0, 0] _ RD.out K5.out).mono ?_
  rintro e U25 ⟨rfl, b⟩
  rw [show decide (TD.kinds = [0, 0, 0, 0, 0, 0, 0, 1, 0, 0, 1, 0, 1, 0, 0, 1, 0, 0]) = true by rw [← hTD.out, smp_dress]; rfl]
  clear qx
  replace BF := Lib.hid (BF.out.trans (b.mono BF.out.size))
  replace LL := Lib.hid (LL.out.below b)
  replace RA := Lib.hid (RA.out.below b)
  replace RB := Lib.hid (RB.out.below b)
  replace RD := Lib.hid (RD.out.below b)
  replace K1 := Lib.hid (K1.out.below b)
  replace K2 := Lib.hid (K2.out.below b)
  replace KL := Lib.hid (KL.out.below b)
  replace K3 := Lib.hid (K3.out.below b)
  replace K4 := Lib.hid (K4.out.below b)
  replace K5 := Lib.hid (K5.out.below b)
  replace XA := Lib.hid (qblk b XA.out)
  replace XB := Lib.hid (qblk b XB.out)
  replace XD := Lib.hid (qblk b XD.out)
  clear b
  try dsimp only
  refine yK hK ?_
  clear hK K
  refine yM (.bool true) ?_
  refine yM (.bool true) ?_
  refine yE ?_
  go_wp2_with fail
  go_ret
  exact ⟨rfl, BF.out⟩
end Go.Proofs.YtimmadkbkimonaaGreatDoor
namespace Go.Proofs.YtimmadkbkimonaaGreatDoor
set_option linter.unusedSimpArgs false
set_option linter.unusedVariables false
open Go.RowKit

def OwnI (w W : World) (a : Option Addr) (N n : Nat) (l : List Int) : Prop := W.ownsRow w.heap.size 3 1 (.slice a N n) N (l.map intV)
theorem OwnI.below {w W W' : World} {a : Option Addr} {N n : Nat} {l : List Int} (h : OwnI w W a N n l) (hb : Below W.heap.size W W') : OwnI w W' a N n l := own_below h hb
theorem OwnI.mono {w V W : World} {a : Option Addr} {N n : Nat} {l : List Int} (h : OwnI V W a N n l) (hb : w.heap.size ≤ V.heap.size) : OwnI w W a N n l := own_mono h hb
theorem OwnI.kept {w W W' : World} {a : Option Addr} {N n p : Nat} {l : List Int} {A : Array Value} {t : TypeId} (h : OwnI w W a N n l) (hg : W.grownBy W' (some p)) (hp : W.heap[p]? = some (.cells A t (0, 0))) (ht : t ≠ 3) : OwnI w W' a N n l :=
  World.ownsRow.kept h hg (.inr (qown_no h hp (fun cur e => ht (by cases e; rfl))).symm)
theorem OwnI.len {w W : World} {a : Option Addr} {N n : Nat} {l : List Int} (h : OwnI w W a N n l) : l.length = N := by have := h.1; simpa using this
theorem OwnI.rd {w W : World} {a : Option Addr} {N n : Nat} {l : List Int} (h : OwnI w W a N n l) : RdI W a N n l := RdA.of_own h
theorem OwnI.at {w W : World} {a : Option Addr} {N n i : Nat} {l : List Int} (h : OwnI w W a N n l) (hi : i < N) : ∃ g, a = some ⟨g, 0, none⟩ := by
  rcases h.2 with ⟨h1, h2⟩ | ⟨g', cap, cur, h1, _⟩
  · omega
  · simp only [Value.slice.injEq] at h1; exact ⟨g', h1.1⟩
theorem OwnI.put {w W : World} {g N n i : Nat} {l : List Int} (h : OwnI w W (some ⟨g, 0, none⟩) N n l) (hi : i < N) (v : Int) (hw : w.heap.size ≤ W.heap.size) :
    OwnI w (W.setCell ⟨g, i, none⟩ (.int .i64 v)) (some ⟨g, 0, none⟩) N n (l.set i v) ∧ W.cell? ⟨g, i, none⟩ = some (.int .i64 (l[i]?.getD 0)) ∧ W.frozen? ⟨g, i, none⟩ = false ∧ KeptBut w.heap.size W (W.setCell ⟨g, i, none⟩ (.int .i64 v)) := by
  obtain ⟨cur, hc⟩ := own_block h
  obtain ⟨o1, o2, o3, o4⟩ := own_put h hi v
  exact ⟨o1, o2, o3, kept_put hc o4 hw⟩
end Go.Proofs.YtimmadkbkimonaaGreatDoor
namespace Go.Proofs.YtimmadkbkimonaaGreatDoor
set_option linter.unusedSimpArgs false
set_option linter.unusedVariables false
open Go.RowKit

def mkL (N : Nat) (o : OfM) : List Int := (List.range N).map fun (j : Nat) => (o (j : Int)).getD (-1)
theorem mkL_len (N : Nat) (o : OfM) : (mkL N o).length = N := by unfold mkL; simp
theorem mkL_at {N j : Nat} (h : j < N) (o : OfM) : (mkL N o)[j]? = some ((o (j : Int)).getD (-1)) := by
  unfold mkL
  rw [List.getElem?_map, List.getElem?_range h]
  rfl
theorem mkL_set {N j : Nat} (h : j < N) (o : OfM) (v : Int) : (mkL N o).set j v = mkL N (updM o j v) := by
  refine List.ext_getElem? fun i => ?_
  rw [List.getElem?_set, mkL_len]
  by_cases hi : i < N
  · rw [mkL_at hi, mkL_at hi]
    unfold updM
    by_cases e : j = i
    · subst e
      rw [if_pos rfl, if_pos h, if_pos rfl]
      rfl
    · rw [if_neg e, if_neg (by omega)]
  · rw [if_neg (by omega), List.getElem?_eq_none (by rw [mkL_len]; omega), List.getElem?_eq_none (by rw [mkL_len]; omega)]
theorem RdI_grown {W W' : World} {s k n c g : Nat} {l : List Int} (h : RdI W (some ⟨s, k, none⟩) n c l) (hg : W.grownBy W' (some g)) (hne : s ≠ g) : RdI W' (some ⟨s, k, none⟩) n c l := by
  refine RdA.of_cells h fun b' hb hlt => ?_
  obtain ⟨o', e⟩ := hb
  cases e
  exact hg.block _ hlt (fun e => hne (Option.some.inj e))
structure FlR (w X : World) (p g : Nat) (f : FaceV) (a : Option Addr) (n N : Nat) (o : OfM) (ws : List Int) (wa : Option Addr) (wc : Nat) (W : World) : Prop where
  bel : Below w.heap.size w W
  pf : W.heap[p]? = some (.cells (f.cells a n) 28 (0, 0))
  out : OwnI w W (some ⟨g, 0, none⟩) N N (mkL N o)
  work : OwnI X W wa ws.length wc ws
  sz : X.heap.size ≤ W.heap.size
section
variable {w X W W' : World} {p g n N : Nat} {f : FaceV} {a : Option Addr} {o : OfM} {ws : List Int} {wa : Option Addr} {wc : Nat}
theorem FlR.below (h : FlR w X p g f a n N o ws wa wc W) (hb : Below W.heap.size W W') : FlR w X p g f a n N o ws wa wc W' :=
  ⟨h.bel.trans (hb.mono h.bel.size), qblk hb h.pf, h.out.below hb, h.work.below hb, Nat.le_trans h.sz hb.size⟩
theorem FlR.get (h : FlR w X p g f a n N o ws wa wc W) {j : Nat} (hj : j < N) : W.cell? ⟨g, j, none⟩ = some (.int .i64 ((o (j : Int)).getD (-1))) := by
  have h1 := (h.out.put hj 0 h.bel.size).2.1
  rw [mkL_at hj] at h1
  exact h1
theorem FlR.put (h : FlR w X p g f a n N o ws wa wc W) (hg : g < X.heap.size) {i : Nat} (hi : i < N) (v : Int) :
    FlR w X p g f a n N (updM o i v) ws wa wc (W.setCell ⟨g, i, none⟩ (.int .i64 v)) ∧ W.cell? ⟨g, i, none⟩ = some (.int .i64 ((o (i : Int)).getD (-1))) ∧ W.frozen? ⟨g, i, none⟩ = false ∧ W.grownBy (W.setCell ⟨g, i, none⟩ (.int .i64 v)) (some g) := by
  obtain ⟨o1, o2, o3, o4⟩ := h.out.put hi v h.bel.size
  have HG := qput_grown W g i (.int .i64 v)
  rw [mkL_set hi] at o1
  rw [mkL_at hi] at o2
  refine ⟨⟨o4.2 w h.bel, o4.1 _ _ h.pf (by simp), o1, World.ownsRow.kept h.work HG (.inr (fun e => ?_)), Nat.le_trans h.sz HG.size⟩, o2, o3, HG⟩
  have := (h.work.lt g e).1
  omega
theorem FlR.pop {x : Int} (h : FlR w X p g f a n N o (ws ++ [x]) wa wc W) : FlR w X p g f a n N o ws wa wc W ∧ ∃ g0, wa = some ⟨g0, 0, none⟩ ∧ W.cell? ⟨g0, ws.length, none⟩ = some (.int .i64 x) ∧ ws.length + 1 ≤ wc := by
  obtain ⟨h1, h2⟩ := own_shrink (w := X) h.work
  exact ⟨⟨h.bel, h.pf, h.out, h1, h.sz⟩, h2⟩
end
end Go.Proofs.YtimmadkbkimonaaGreatDoor
namespace Go.Proofs.YtimmadkbkimonaaGreatDoor
set_option linter.unusedSimpArgs false
set_option linter.unusedVariables false
open Go.RowKit

def deadK (f : FaceV) (k : Nat) : List Int := (List.range k).filterMap fun (n : Nat) => if deadB f ((regListF f)[n]?.getD []) = true then some (n : Int) else none
theorem deadK_succ (f : FaceV) (k : Nat) : deadK f (k + 1) = deadK f k ++ (if deadB f ((regListF f)[k]?.getD []) = true then [(k : Int)] else []) := by
  unfold deadK
  rw [List.range_succ, List.filterMap_append]
  congr 1
  by_cases h : deadB f ((regListF f)[k]?.getD []) = true
  · rw [if_pos h, List.filterMap_cons, if_pos h]; rfl
  · rw [if_neg h, List.filterMap_cons, if_neg h]; rfl
theorem deadK_len (f : FaceV) (k : Nat) : (deadK f k).length ≤ k := by
  unfold deadK
  refine Nat.le_trans (List.length_filterMap_le _ _) ?_
  rw [List.length_range]
  exact Nat.le_refl _
theorem rg_mem {f : FaceV} (hv : f.valid = true) {k : Nat} {cs : List Int} (h : (regListF f)[k]? = some cs) : cs ≠ [] ∧ ∀ x ∈ cs, 0 ≤ x ∧ x < f.kinds.length := by
  have hk := (List.getElem?_eq_some_iff.1 h).1
  rw [regList_len] at hk
  have e := regList_at hk
  rw [h] at e
  have e2 := (Option.some.inj e).symm
  obtain ⟨x, hx, _⟩ := reg_head hv hk
  refine ⟨fun h0 => (by rw [e2, h0] at hx; cases hx), fun y hy => ?_⟩
  rw [← e2] at hy
  have h3 := regAt_mem.1 hy
  exact ⟨h3.2.1, by omega⟩
theorem rdi_at {W : World} {b off n c k : Nat} {l : List Int} {x : Int} (h : RdI W (some ⟨b, off, none⟩) n c l) (hx : l[k]? = some x) : W.cell? ⟨b, off + k, none⟩ = some (.int .i64 x) := by
  obtain ⟨b2, o2, e, h2⟩ := h.get hx
  simp only [Option.some.injEq, Addr.mk.injEq, and_true] at e
  rw [e.1, e.2]
  exact h2
set_option maxHeartbeats 4000000 in
set_option maxRecDepth 100000 in
theorem deadP_any (f : FaceV) (a : Option Addr) (n : Nat) (w : World) (hr : RdI w a f.kinds.length n f.kinds) :
    Calls Tryz.prog 30 #[.agg (f.cells a n)] w fun e w' => (∃ oa oc, e = .returned (.tuple #[.slice oa (deadP f).1.length oc, .int .i64 (deadP f).2]) ∧ w'.ownsRow w.heap.size 3 1 (.slice oa (deadP f).1.length oc) (deadP f).1.length ((deadP f).1.map intV)) ∧ Below w.heap.size w w' := by
  have HR := Lib.hid hr
  clear hr
  have AL := Lib.hid (al1 w (.cells (f.cells a n) 28))
  go_enter Tryz.func30, Tryz.ntmps30
  go_upto_region 1 with fail
  obtain ⟨p, hp⟩ : ∃ p, Hid (w.heap.size = p) := ⟨_, Lib.hid rfl⟩
  rw [hp.out] at AL ⊢
  generalize (w.alloc (.cells (f.cells a n) 28)) = W0 at *
  have BF : Hid (Below w.heap.size w W0) := Lib.hid (by rw [hp.out]; exact AL.out.1)
  have XF : Hid (W0.heap[p]? = some (.cells (f.cells a n) 28 (0, 0))) := Lib.hid AL.out.2
  clear AL
  have c0 := qcell XF.out 0 (.int .i64 f.eye) rfl
  have c1 := qcell XF.out 1 (.int .i64 f.rings) rfl
  have c2 := qcell XF.out 2 (.int .i64 f.sectors) rfl
  have c3 := qcell XF.out 3 (.slice a f.kinds.length n) rfl
  clear c0 c1 c2 c3
  replace HR := Lib.hid (HR.out.below BF.out)
  go_upto_region 1 with fail
  refine yB ?_
  refine yW (.agg (f.cells a n)) ?_ (qyrow (by kernel_rfl) 28 _ rfl p rfl _ 28 (0, 0) _ (fun W hW => by rw [hW]; exact XF.out) Tryz.underlying28 rfl (by exact (qJF f a n)))
  refine yR (fun K hK => ?_)
  go_simp
  refine (regionsP_any f a n _ HR.out).mono ?_
  rintro e U1 ⟨⟨b1, m1, rfl, ll⟩, b⟩
  have RL := Lib.hid ll
  clear ll
  replace BF := Lib.hid (BF.out.trans (b.mono BF.out.size))
  replace HR := Lib.hid (HR.out.below b)
  replace XF := Lib.hid (qblk b XF.out)
  clear b
  obtain ⟨ls, hls⟩ : ∃ x, Hid ((regionsP f).1 = x) := ⟨_, Lib.hid rfl⟩
  obtain ⟨E, hE⟩ : ∃ x, Hid ((regionsP f).2 = x) := ⟨_, Lib.hid rfl⟩
  rw [hls.out] at RL ⊢
  rw [hE.out]
  obtain ⟨N, hN⟩ : ∃ x, Hid (ls.length = x) := ⟨_, Lib.hid rfl⟩
  rw [hN.out] at RL ⊢
  try dsimp only
  refine yK hK ?_
  clear hK K
  refine yM (.tuple #[.slice b1 N m1, .int .i64 E]) ?_
  refine yM (.slice b1 N m1) ?_
  refine yM (.int .i64 E) ?_
  refine yM (.slice b1 N m1) ?_
  refine yM (.int .i64 E) ?_
  refine yE ?_
  have VF : Hid (0 < N → f.valid = true) := Lib.hid (fun h => by
    cases hv : f.valid with
    | true => rfl
    | false =>
      have h1 := hls.out
      unfold regionsP at h1
      rw [if_neg (by rw [hv]; decide)] at h1
      have h2 := hN.out
      rw [← h1] at h2
      simp at h2
      omega)
  have LS : Hid (0 < N → ls = regListF f) := Lib.hid (fun h => by have h1 := hls.out; unfold regionsP at h1; rw [if_pos (VF.out h)] at h1; exact h1.symm)
  have NB : Hid (N ≤ 2304) := Lib.hid (by
    rcases Nat.eq_zero_or_pos N with h | h
    · omega
    · have h1 := LS.out h
      have h2 := hN.out
      rw [h1, regList_len] at h2
      have h3 := (regionsN_le f f.kinds.length).2
      have h4 := FaceV.len_le (VF.out h)
      have h5 : (regionsF f).2 = (regionsN f f.kinds.length).2 := rfl
      omega)
  have BF1 := BF
  have HRU := Lib.hid (fun W (hb : Below U1.heap.size U1 W) => HR.out.below hb)
  have RLU := Lib.hid (fun W (hb : Below U1.heap.size U1 W) => RL.out.below hb)
  have XFU := Lib.hid (fun W (hb : Below U1.heap.size U1 W) => qblk hb XF.out)
  have BU := Lib.hid (Below.refl U1.heap.size U1)
  clear BF HR RL XF
  go_wp2_with fail
  go_loopw [6, 16] (fun o v wr => ∃ (k : Nat) (oa : Option Addr) (oc : Nat), v = .int .i64 (k : Int) ∧ o = .slice oa (deadK f k).length oc ∧ k ≤ N ∧ Hid (wr.ownsRow U1.heap.size 3 1 (.slice oa (deadK f k).length oc) (deadK f k).length ((deadK f k).map intV)) ∧ Hid (Below U1.heap.size U1 wr)) (fun _ v _ => N - (intOf v).toNat)
  case atStart => exact ⟨0, none, 0, rfl, rfl, Nat.zero_le _, Lib.hid (World.ownsRow_nil _ _ _ _), BU⟩
  case round =>
    clear BU
    obtain ⟨k, oa, oc, rfl, rfl, hk, OW, BU⟩ := hrel
    have HR := Lib.hid (HRU.out wr BU.out)
    have RL := Lib.hid (RLU.out wr BU.out)
    have XF := Lib.hid (XFU.out wr BU.out)
    by_cases hkn : k < N
    · have t0 : decide ((k : Int) < (N : Int)) = true := by simp; omega
      have HK64 : Hid ((k : Int) + 1 ≤ 9223372036854775807) := Lib.hid (by have := NB.out; omega)
      have HV := Lib.hid (VF.out (by omega))
      have IV := Lib.hid (FaceV.int HV.out)
      have hls2 := LS.out (by omega)
      obtain ⟨cs, hcs⟩ : ∃ cs, ls[k]? = some cs := ⟨_, List.getElem?_eq_getElem (by rw [hN.out]; exact hkn)⟩
      obtain ⟨R, off, aj, cj, ha, hc, hrd⟩ := RL.out.at_ k cs hcs
      subst ha
      have hcs2 := hcs
      rw [hls2] at hcs2
      obtain ⟨hne, hin⟩ := rg_mem HV.out hcs2
      obtain ⟨x0, hx0⟩ : ∃ x, cs[0]? = some x := ⟨_, List.getElem?_eq_getElem (List.length_pos_iff.2 hne)⟩
      obtain ⟨x1, hx1⟩ : ∃ x, cs[cs.length - 1]? = some x := ⟨_, List.getElem?_eq_getElem (by have := List.length_pos_iff.2 hne; omega)⟩
      have X0 := Lib.hid (hin x0 (List.mem_of_getElem? hx0))
      obtain ⟨i0, hi0⟩ : ∃ i : Nat, Hid (x0 = (i : Int)) := ⟨x0.toNat, Lib.hid (by have := X0.out; omega)⟩
      rw [hi0.out] at hx0 X0
      have IL : Hid (i0 < f.kinds.length) := Lib.hid (by have := X0.out; omega)
      have H0 := Lib.hid hx0
      have H1 := Lib.hid hx1
      have CL : Hid (1 ≤ cs.length ∧ cs.length ≤ 2304) := Lib.hid (by
        have h1 := List.length_pos_iff.2 hne
        have h2 := hrd.le
        refine ⟨h1, ?_⟩
        rw [regList_at (by have := (List.getElem?_eq_some_iff.1 hcs2).1; rw [regList_len] at this; exact this)] at hcs2
        have h3 := Option.some.inj hcs2
        rw [← h3]
        exact Nat.le_trans (regAt_len _ _ _ _) (FaceV.len_le HV.out))
      have DB : Hid (deadB f ((regListF f)[k]?.getD []) = (!decide (f.kat i0 = 0) && decide (x1 < (f.rings - 1) * f.sectors))) := Lib.hid (by
        rw [hcs2]
        unfold deadB
        have e1 : (some cs).getD [] = cs := rfl
        rw [e1, show cs.head?.getD 0 = (i0 : Int) by rw [List.head?_eq_getElem?, hx0]; rfl, show cs.getLast?.getD 0 = x1 by rw [List.getLast?_eq_getElem?, hx1]; rfl, Int.toNat_natCast])
      have RC := Lib.hid hrd
      have GC := Lib.hid hc
      obtain ⟨gj, oj, haj, _⟩ := hrd.get hx0
      subst haj
      obtain ⟨gf, of, haf, _⟩ := HR.out.get (FaceV.kat_at IL.out)
      subst haf
      have DS := Lib.hid (deadK_succ f k)
      have DL := Lib.hid (deadK_len f k)
      clear hx0 hx1 hne hin hcs hcs2 hc hrd hls2
      have W1 := Lib.hid (show wrap64 ((cs.length : Int) - 1) = ((cs.length - 1 : Nat) : Int) by have := CL.out; unfold wrap64; omega)
      have W2 := Lib.hid (show wrap64 (f.rings - 1) = f.rings - 1 by have := IV.out; unfold wrap64; omega)
      obtain ⟨M, hM⟩ : ∃ M, Hid ((f.rings - 1) * f.sectors = M) := ⟨_, Lib.hid rfl⟩
      have MB : Hid (0 ≤ M ∧ M ≤ 2304) := Lib.hid (by have h := IV.out; rw [← hM.out]; exact ⟨Int.mul_nonneg (by omega) (by omega), Int.le_trans (Int.mul_le_mul (show f.rings - 1 ≤ 24 by omega) (show f.sectors ≤ 96 by omega) (by omega) (by omega)) (by omega)⟩)
      have W3 := Lib.hid (show wrap64 ((f.rings - 1) * f.sectors) = M by have := MB.out; have := hM.out; unfold wrap64; omega)
      rw [hM.out] at DB
      obtain ⟨z, hz⟩ : ∃ z : Nat, Hid (cs.length - 1 = z) := ⟨_, Lib.hid rfl⟩
      rw [hz.out] at H1 W1
      have ZL : Hid (z < cs.length) := Lib.hid (by have := CL.out; have := hz.out; omega)
      have zl := ZL.out
      have zi := IL.out
      have zc : 0 < cs.length := by have := CL.out; omega
      have zk : k < N := hkn
      go_upto_region 5 with fail
      clear t0
      refine yB ?_
      refine yM (.int .i64 (k : Int)) ?_
      refine yW (.pointer (some ⟨R, off + k, none⟩)) ?_
      refine yW (.slice (some ⟨gj, oj, none⟩) cs.length cj) ?_ (.inl ⟨by kernel_rfl, by intro W hW; rw [hW]; have c := GC.out; go_simp⟩)
      refine yM (.int .i64 (k : Int)) ?_
      refine yM (.slice (some ⟨gj, oj, none⟩) cs.length cj) ?_
      refine yE ?_
      go_upto_region 6 with fail
      replace GC := GC
      have hd : Below wr.heap.size wr wr.drew := (Below.refl _ _).drew
      replace OW := Lib.hid (own_below OW.out hd)
      replace RC := Lib.hid (RC.out.below hd)
      replace BU := Lib.hid (BU.out.trans (hd.mono BU.out.size))
      replace HR := Lib.hid (HR.out.below hd)
      replace RL := Lib.hid (RL.out.below hd)
      replace XF := Lib.hid (qblk hd XF.out)
      clear hd
      refine zD (fun W => Below wr.drew.heap.size wr.drew W) (Below.refl _ _) (fun hHeld => ?_)
      have BV := Lib.hid hHeld
      generalize wr.drew = V1 at *
      refine zW 0 rfl (.pointer (some ⟨p, 3, none⟩)) ?_
      refine zS 1 rfl (.slice (some ⟨gf, of, none⟩) f.kinds.length n) (fun W hW => by have c := qcell (qblk hW XF.out) 3 (.slice (some ⟨gf, of, none⟩) f.kinds.length n) rfl; go_simp) ?_
      refine zW 2 rfl (.slice (some ⟨gj, oj, none⟩) cs.length cj) ?_
      refine zW 3 rfl (.pointer (some ⟨gj, oj, none⟩)) ?_
      refine zS 4 rfl (.int .i64 (i0 : Int)) (fun W hW => by have c := (show W.cell? ⟨gj, oj, none⟩ = some (.int .i64 (i0 : Int)) from rdi_at (RC.out.below hW) H0.out); go_simp) ?_
      refine zW 5 rfl (.pointer (some ⟨gf, of + i0, none⟩)) ?_
      refine zS 6 rfl (.int .i64 (f.kat i0)) (fun W hW => by have c := rdi_at (HR.out.below hW) (FaceV.kat_at IL.out); go_simp) ?_
      cases hq : (!decide (f.kat i0 = 0))
      · refine zW 7 rfl (.bool false) (hy := .inl ⟨by kernel_rfl, by intro W hW; go_simp; simpa using hq⟩) ?_
        refine zW 8 rfl (.bool false) ?_
        refine zW 9 rfl undef (hy := .inr ⟨by kernel_rfl, rfl⟩) ?_
        refine zW 10 rfl undef (hy := .inr ⟨by kernel_rfl, rfl⟩) ?_
        refine zW 11 rfl undef (hy := .inr ⟨by kernel_rfl, rfl⟩) ?_
        refine zW 12 rfl undef (hy := .inr ⟨by kernel_rfl, rfl⟩) ?_
        refine zW 13 rfl undef (hy := .inr ⟨by kernel_rfl, rfl⟩) ?_
        refine zW 14 rfl undef (hy := .inr ⟨by kernel_rfl, rfl⟩) ?_
        refine zW 15 rfl undef (hy := .inr ⟨by kernel_rfl, rfl⟩) ?_
        refine zW 16 rfl undef (hy := .inr ⟨by kernel_rfl, rfl⟩) ?_
        refine zW 17 rfl undef (hy := .inr ⟨by kernel_rfl, rfl⟩) ?_
        refine zW 18 rfl undef (hy := .inr ⟨by kernel_rfl, rfl⟩) ?_
        refine zW 19 rfl undef (hy := .inr ⟨by kernel_rfl, rfl⟩) ?_
        refine zW 20 rfl undef (hy := .inr ⟨by kernel_rfl, rfl⟩) ?_
        refine zW 21 rfl undef (hy := .inr ⟨by kernel_rfl, rfl⟩) ?_
        refine zW 22 rfl (.bool false) ?_
        refine zE ?_
        have bz := BV.out
        have bz2 := BV.out
        replace BU := Lib.hid (BU.out.trans (bz.mono BU.out.size))
        replace HR := Lib.hid (HR.out.below bz)
        replace RL := Lib.hid (RL.out.below bz)
        replace XF := Lib.hid (qblk bz XF.out)
        clear bz
        clear BV
        replace OW := Lib.hid (own_below OW.out bz2)
        clear bz2
        have HS : Hid (deadB f ((regListF f)[k]?.getD []) = false) := Lib.hid (by rw [DB.out]; simp only [hq]; rfl)
        go_upto_region 8 with fail
        have hk64 := HK64.out
        go_wp2_with fail
        go_roundw
        case rel =>
          have e : deadK f (k + 1) = deadK f k := by rw [DS.out, if_neg (by rw [HS.out]; decide), List.append_nil]
          refine ⟨k + 1, oa, oc, by simp, by rw [e], by omega, ?_, BU⟩
          rw [e]
          exact OW
        case measure => simp [intOf]; omega
      · refine zW 7 rfl (.bool true) (hy := .inl ⟨by kernel_rfl, by intro W hW; go_simp; simpa using hq⟩) ?_
        refine zW 8 rfl (.bool true) ?_
        refine zW 9 rfl (.slice (some ⟨gj, oj, none⟩) cs.length cj) ?_
        refine zW 10 rfl (.slice (some ⟨gj, oj, none⟩) cs.length cj) ?_
        refine zW 11 rfl (.int .i64 (cs.length : Int)) ?_
        refine zW 12 rfl (.int .i64 (z : Int)) (hy := .inl ⟨by kernel_rfl, by intro W hW; go_simp; exact (IntWalk.i64_left _).trans W1.out⟩) ?_
        refine zW 13 rfl (.pointer (some ⟨gj, oj + z, none⟩)) ?_
        refine zS 14 rfl (.int .i64 x1) (fun W hW => by have c := rdi_at (RC.out.below hW) H1.out; go_simp) ?_
        refine zW 15 rfl (.pointer (some ⟨p, 1, none⟩)) ?_
        refine zS 16 rfl (.int .i64 f.rings) (fun W hW => by have c := qcell (qblk hW XF.out) 1 (.int .i64 f.rings) rfl; go_simp) ?_
        refine zW 17 rfl (.int .i64 (f.rings - 1)) (hy := .inl ⟨by kernel_rfl, by intro W hW; go_simp; exact (IntWalk.i64_left _).trans W2.out⟩) ?_
        refine zW 18 rfl (.pointer (some ⟨p, 2, none⟩)) ?_
        refine zS 19 rfl (.int .i64 f.sectors) (fun W hW => by have c := qcell (qblk hW XF.out) 2 (.int .i64 f.sectors) rfl; go_simp) ?_
        refine zW 20 rfl (.int .i64 M) (hy := .inl ⟨by kernel_rfl, by intro W hW; go_simp; exact (IntWalk.i64_left _).trans W3.out⟩) ?_
        cases hs : decide (x1 < M)
        · refine zW 21 rfl (.bool false) ?_
          refine zW 22 rfl (.bool false) ?_
          refine zE ?_
          have bz := BV.out
          have bz2 := BV.out
          replace BU := Lib.hid (BU.out.trans (bz.mono BU.out.size))
          replace HR := Lib.hid (HR.out.below bz)
          replace RL := Lib.hid (RL.out.below bz)
          replace XF := Lib.hid (qblk bz XF.out)
          clear bz
          clear BV
          replace OW := Lib.hid (own_below OW.out bz2)
          clear bz2
          have HS : Hid (deadB f ((regListF f)[k]?.getD []) = false) := Lib.hid (by rw [DB.out]; simp only [hq, hs]; rfl)
          go_upto_region 8 with fail
          have hk64 := HK64.out
          go_wp2_with fail
          go_roundw
          case rel =>
            have e : deadK f (k + 1) = deadK f k := by rw [DS.out, if_neg (by rw [HS.out]; decide), List.append_nil]
            refine ⟨k + 1, oa, oc, by simp, by rw [e], by omega, ?_, BU⟩
            rw [e]
            exact OW
          case measure => simp [intOf]; omega
        · refine zW 21 rfl (.bool true) ?_
          refine zW 22 rfl (.bool true) ?_
          refine zE ?_
          have bz := BV.out
          have bz2 := BV.out
          replace BU := Lib.hid (BU.out.trans (bz.mono BU.out.size))
          replace HR := Lib.hid (HR.out.below bz)
          replace RL := Lib.hid (RL.out.below bz)
          replace XF := Lib.hid (qblk bz XF.out)
          clear bz
          clear BV
          replace OW := Lib.hid (own_below OW.out bz2)
          clear bz2
          have HS : Hid (deadB f ((regListF f)[k]?.getD []) = true) := Lib.hid (by rw [DB.out, hq, hs]; rfl)
          have NK : Hid (k < 2400) := Lib.hid (by have := NB.out; omega)
          go_upto_region 8 with (first
            | (at_builtin; refine appq_ints _ rfl _ _ rfl U1.heap.size _ _ _ (deadK f k) rfl (own_below OW.out (zB V1 _)) _ _ _ [(k : Int)] rfl (lit_int V1 k) (by have := DL.out; have := NB.out; omega) (Nat.le_trans BU.out.size (zB V1 _).size) ?_; intro oa2 oc2 V6 h1 h2 h3; replace BU := Lib.hid (h3 _ (BU.out.trans ((zB V1 _).mono BU.out.size))); replace XF := Lib.hid (h2 _ _ (qblk (zB V1 _) XF.out) (by simp)); replace OW := Lib.hid h1; clear h1 h2 h3)
            | fail)
          have hk64 := HK64.out
          go_wp2_with fail
          go_roundw
          case rel =>
            have e : deadK f (k + 1) = deadK f k ++ [(k : Int)] := by rw [DS.out, if_pos HS.out]
            refine ⟨k + 1, oa2, oc2, by simp, by rw [e, List.length_append]; rfl, by omega, ?_, BU⟩
            rw [e, List.length_append]
            exact OW
          case measure => simp [intOf]; omega
    · have t0 : decide ((k : Int) < (N : Int)) = false := by simp; omega
      have e : k = N := by omega
      subst e
      have DE : Hid (deadP f = (deadK f k, E)) := Lib.hid (by
        have h1 := hls.out
        have h2 := hE.out
        have h3 := hN.out
        unfold regionsP at h1 h2
        unfold deadP deadF
        by_cases hv : f.valid = true
        · rw [if_pos hv] at h1 h2 ⊢
          have h4 : (regListF f).length = k := by rw [← h3, ← h1]
          rw [h4, ← h2]
          rfl
        · rw [if_neg hv] at h1 h2 ⊢
          have h4 : k = 0 := by rw [← h3, ← h1]; rfl
          rw [h4, ← h2]
          rfl)
      go_wp2_with fail
      go_ret2
      rw [DE.out]
      exact ⟨⟨oa, oc, rfl, own_mono OW.out BF1.out.size⟩, BF1.out.trans (BU.out.mono BF1.out.size)⟩
end Go.Proofs.YtimmadkbkimonaaGreatDoor
namespace Go.Proofs.YtimmadkbkimonaaGreatDoor
set_option linter.unusedSimpArgs false
set_option linter.unusedVariables false
open Go.RowKit

structure LkR (W : World) (lb NL lc : Nat) (l : List Int) (v : Value) : Prop where
  rd : RdI W (some ⟨lb, 0, none⟩) NL lc l
  ne : v.ownBlock ≠ some lb
  lt : lb < W.heap.size
theorem LkR.below {W W' : World} {lb NL lc : Nat} {l : List Int} {v : Value} (h : LkR W lb NL lc l v) (hb : Below W.heap.size W W') : LkR W' lb NL lc l v := ⟨h.rd.below hb, h.ne, Nat.lt_of_lt_of_le h.lt hb.size⟩
theorem LkR.grown {W W' : World} {lb NL lc g : Nat} {l : List Int} {v : Value} (h : LkR W lb NL lc l v) (hg : W.grownBy W' (some g)) (hne : lb ≠ g) : LkR W' lb NL lc l v := ⟨RdI_grown h.rd hg hne, h.ne, Nat.lt_of_lt_of_le h.lt hg.size⟩
end Go.Proofs.YtimmadkbkimonaaGreatDoor
namespace Go.Proofs.YtimmadkbkimonaaGreatDoor
set_option linter.unusedSimpArgs false
set_option linter.unusedVariables false
open Go.RowKit

structure LsR (w : World) (R q : Nat) (ls : Nat → List Int) (wa : Nat → Option Addr) (wc : Nat → Nat) (W : World) : Prop where
  bel : Below w.heap.size w W
  blk : W.heap[R]? = some (.cells (lsCells q ls wa wc) 26 (0, 0))
  own : ∀ j, j < q → W.ownsRow w.heap.size 3 1 (.slice (wa j) (ls j).length (wc j)) (ls j).length ((ls j).map intV)
  dis : ∀ j k, j < q → k < q → j ≠ k → ∀ g, Value.ownBlock (.slice (wa j) 0 0) = some g → Value.ownBlock (.slice (wa k) 0 0) ≠ some g
  ge : w.heap.size ≤ R
theorem LsR.below {w W W' : World} {R q : Nat} {ls : Nat → List Int} {wa : Nat → Option Addr} {wc : Nat → Nat} (h : LsR w R q ls wa wc W) (hb : Below W.heap.size W W') : LsR w R q ls wa wc W' :=
  ⟨h.bel.trans (hb.mono h.bel.size), qblk hb h.blk, fun j hj => own_below (h.own j hj) hb, h.dis, h.ge⟩
theorem LsR.push {w W V V7 : World} {R q r k : Nat} {f : FaceV} {o : OfM} {wa : Nat → Option Addr} {wc : Nat → Nat} {a7 : Option Addr} {c7 : Nat} (h : LsR w R q (fun j => regAt f o j k) wa wc V) (hr : r < q) (ho : o (k : Int) = some (r : Int))
    (ho7 : V7.ownsRow w.heap.size 3 1 (.slice a7 ((regAt f o r k).length + 1) c7) ((regAt f o r k).length + 1) ((regAt f o r k ++ [(k : Int)]).map intV))
    (hk7 : ∀ (p : Nat) (ob : Obj), V.heap[p]? = some ob → (∀ cur, ob ≠ .cells cur 3 (0, 0)) → V7.heap[p]? = some ob) (hb7 : ∀ W, Below w.heap.size W V → Below w.heap.size W V7)
    (hap : AppK (.slice (wa r) (regAt f o r k).length (wc r)) (.slice a7 ((regAt f o r k).length + 1) c7) V V7) (hg7 : V.grownBy V7 (Value.ownBlock (.slice (wa r) (regAt f o r k).length (wc r)))) :
    LsR w R q (fun j => regAt f o j ((k + 1 : Nat))) (fun j => if j = r then a7 else wa j) (fun j => if j = r then c7 else wc j) (V7.setCell ⟨R, r, none⟩ (.slice a7 ((regAt f o r k).length + 1) c7)) := by
  have hR := hk7 _ _ h.blk (by simp)
  have HG := qput_grown V7 R r (.slice a7 ((regAt f o r k).length + 1) c7)
  have er : regAt f o (r : Int) (k + 1) = regAt f o r k ++ [(k : Int)] := by rw [regAt_succ, if_pos ho]
  have ne : ∀ j : Nat, j ≠ r → regAt f o (j : Int) (k + 1) = regAt f o j k := fun j hj => by
    rw [regAt_succ, if_neg (by rw [ho]; intro e; have := Option.some.inj e; omega), List.append_nil]
  have lt : ∀ j : Nat, j < q → ∀ g, Value.ownBlock (.slice (wa j) 0 0) = some g → g < V.heap.size := fun j hj g e => ((h.own j hj).lt g (by rw [qob]; exact e)).2
  refine ⟨qstep (hb7 _ h.bel) HG h.ge, ?_, fun j hj => ?_, fun j k2 hj hk2 hjk g e => ?_, h.ge⟩
  · rw [qput_at hR r _]
    congr 2
    unfold lsCells
    apply Array.ext_getElem?
    intro j
    rw [Array.getElem?_setIfInBounds]
    by_cases hj : j < q
    · rw [List.getElem?_toArray, List.getElem?_toArray, List.getElem?_map, List.getElem?_map, List.getElem?_range hj]
      by_cases e : r = j
      · subst e
        rw [if_pos rfl, if_pos (by simp; omega)]
        simp only [Option.map_some, if_true]
        rw [er, List.length_append]
        rfl
      · rw [if_neg e]
        simp only [Option.map_some]
        rw [if_neg (fun e2 => e e2.symm), if_neg (fun e2 => e e2.symm), ne j (fun e2 => e e2.symm)]
    · rw [if_neg (by omega), List.getElem?_toArray, List.getElem?_toArray, List.getElem?_eq_none (by simp; omega), List.getElem?_eq_none (by simp; omega)]
  · try dsimp only
    by_cases e : j = r
    · subst e
      rw [if_pos rfl, if_pos rfl, er, List.length_append]
      exact ho7.kept HG (.inr (qown_no ho7 hR (by simp)).symm)
    · rw [if_neg e, if_neg e, ne j e]
      have h1 := h.own j hj
      have h2 := h1.kept hg7 (by
        cases hoj : Value.ownBlock (.slice (wa j) 0 0) with
        | none => left; rw [qob]; exact hoj
        | some g =>
          right
          intro e2
          rw [qob (wa j), qob (wa r), hoj] at e2
          exact h.dis j r hj hr e g hoj e2.symm)
      exact h2.kept HG (.inr (qown_no h2 hR (by simp)).symm)
  · try dsimp only at e ⊢
    by_cases e1 : j = r
    · rw [if_pos e1] at e
      rw [if_neg (fun e2 => hjk (e1.trans e2.symm))]
      intro e3
      have h1 := hap.no g (by rw [qob]; exact fun e4 => h.dis k2 r hk2 hr (fun e5 => hjk (e1.trans e5.symm)) g e3 e4) (lt k2 hk2 g e3)
      rw [qob] at h1
      exact h1.1 e
    · rw [if_neg e1] at e
      by_cases e2 : k2 = r
      · rw [if_pos e2]
        have h1 := hap.no g (by rw [qob]; exact fun e4 => h.dis j r hj hr e1 g e e4) (lt j hj g e)
        rw [qob] at h1
        exact h1.1
      · rw [if_neg e2]
        exact h.dis j k2 hj hk2 hjk g e
end Go.Proofs.YtimmadkbkimonaaGreatDoor
namespace Go.Proofs.YtimmadkbkimonaaGreatDoor
set_option linter.unusedSimpArgs false
set_option linter.unusedVariables false
open Go.RowKit

def drainsB (f : FaceV) : Bool := decide ((deadP f).2 = 0) && decide ((deadP f).1.length = 0)
set_option maxHeartbeats 4000000 in
set_option maxRecDepth 100000 in
theorem drainsP_any (f : FaceV) (a : Option Addr) (n : Nat) (w : World) (hr : RdI w a f.kinds.length n f.kinds) :
    Calls Tryz.prog 32 #[.agg (f.cells a n)] w fun e w' => e = .returned (.tuple #[.bool (drainsB f), .int .i64 (deadP f).2]) ∧ Below w.heap.size w w' := by
  have HR := Lib.hid hr
  clear hr
  have AL := Lib.hid (al1 w (.cells (f.cells a n) 28))
  go_enter Tryz.func32, Tryz.ntmps32
  go_upto_region 1 with fail
  obtain ⟨p, hp⟩ : ∃ p, Hid (w.heap.size = p) := ⟨_, Lib.hid rfl⟩
  rw [hp.out] at AL ⊢
  generalize (w.alloc (.cells (f.cells a n) 28)) = W0 at *
  have BF : Hid (Below w.heap.size w W0) := Lib.hid (by rw [hp.out]; exact AL.out.1)
  have XF : Hid (W0.heap[p]? = some (.cells (f.cells a n) 28 (0, 0))) := Lib.hid AL.out.2
  clear AL
  have c0 := qcell XF.out 0 (.int .i64 f.eye) rfl
  have c1 := qcell XF.out 1 (.int .i64 f.rings) rfl
  have c2 := qcell XF.out 2 (.int .i64 f.sectors) rfl
  have c3 := qcell XF.out 3 (.slice a f.kinds.length n) rfl
  clear c0 c1 c2 c3
  replace HR := Lib.hid (HR.out.below BF.out)
  go_upto_region 1 with fail
  refine yB ?_
  refine yW (.agg (f.cells a n)) ?_ (qyrow (by kernel_rfl) 28 _ rfl p rfl _ 28 (0, 0) _ (fun W hW => by rw [hW]; exact XF.out) Tryz.underlying28 rfl (by exact (qJF f a n)))
  refine yR (fun K hK => ?_)
  go_simp
  refine (deadP_any f a n _ HR.out).mono ?_
  rintro e U1 ⟨⟨b1, m1, rfl, own⟩, b⟩
  replace BF := Lib.hid (BF.out.trans (b.mono BF.out.size))
  replace HR := Lib.hid (HR.out.below b)
  replace XF := Lib.hid (qblk b XF.out)
  clear b
  clear own
  obtain ⟨N, hN⟩ : ∃ x, Hid ((deadP f).1.length = x) := ⟨_, Lib.hid rfl⟩
  obtain ⟨E, hE⟩ : ∃ x, Hid ((deadP f).2 = x) := ⟨_, Lib.hid rfl⟩
  rw [hN.out, hE.out]
  have DB : Hid (drainsB f = (decide (E = 0) && decide (N = 0))) := Lib.hid (by unfold drainsB; rw [hE.out, hN.out])
  try dsimp only
  refine yK hK ?_
  clear hK K
  refine yM (.tuple #[.slice b1 N m1, .int .i64 E]) ?_
  refine yM (.slice b1 N m1) ?_
  refine yM (.int .i64 E) ?_
  refine yM (.slice b1 N m1) ?_
  refine yM (.int .i64 E) ?_
  refine yE ?_
  go_upto_region 2 with fail
  refine yB ?_
  refine yM (.int .i64 E) ?_
  cases h1 : decide (E = 0)
  · refine yW (.bool false) ?_ (.inl ⟨by kernel_rfl, by intro W hW; rw [hW]; have h2 : (E == 0) = _ := h1; go_simp⟩) 
    refine yM (.bool false) ?_
    go_skip
    refine yM (.bool false) ?_
    refine yM (.int .i64 E) ?_
    refine yM (.bool false) ?_
    refine yM (.int .i64 E) ?_
    refine yE ?_
    have DV : Hid (drainsB f = false) := Lib.hid (by rw [DB.out]; simp only [h1]; rfl)
    go_wp2_with fail
    go_ret2
    rw [DV.out, hE.out]
    exact ⟨rfl, BF.out⟩
  · refine yW (.bool true) ?_ (.inl ⟨by kernel_rfl, by intro W hW; rw [hW]; have h2 : (E == 0) = _ := h1; go_simp⟩) 
    refine yM (.bool true) ?_
    refine yM (.slice b1 N m1) ?_
    refine yW (.int .i64 (N : Int)) ?_
    cases h2 : decide (N = 0)
    · refine yW (.bool false) ?_ (.inl ⟨by kernel_rfl, by intro W hW; rw [hW]; go_simp; simpa using h2⟩) 
      refine yM (.bool false) ?_
      refine yM (.int .i64 E) ?_
      refine yM (.bool false) ?_
      refine yM (.int .i64 E) ?_
      refine yE ?_
      have DV : Hid (drainsB f = false) := Lib.hid (by rw [DB.out]; simp only [h1, h2]; rfl)
      go_wp2_with fail
      go_ret2
      rw [DV.out, hE.out]
      exact ⟨rfl, BF.out⟩
    · refine yW (.bool true) ?_ (.inl ⟨by kernel_rfl, by intro W hW; rw [hW]; go_simp; simpa using h2⟩) 
      refine yM (.bool true) ?_
      refine yM (.int .i64 E) ?_
      refine yM (.bool true) ?_
      refine yM (.int .i64 E) ?_
      refine yE ?_
      have DV : Hid (drainsB f = true) := Lib.hid (by rw [DB.out]; simp only [h1, h2]; rfl)
      go_wp2_with fail
      go_ret2
      rw [DV.out, hE.out]
      exact ⟨rfl, BF.out⟩
end Go.Proofs.YtimmadkbkimonaaGreatDoor
namespace Go.Proofs.YtimmadkbkimonaaGreatDoor
set_option linter.unusedSimpArgs false
set_option linter.unusedVariables false
open Go.RowKit

structure LsC (W : World) (R o : Nat) (aj : Option Addr) (cj : Nat) (cs : List Int) : Prop where
  cell : W.cell? ⟨R, o, none⟩ = some (.slice aj cs.length cj)
  rd : RdI W aj cs.length cj cs
theorem LsC.below {W W' : World} {R o : Nat} {aj : Option Addr} {cj : Nat} {cs : List Int} (h : LsC W R o aj cj cs) (hb : Below W.heap.size W W') : LsC W' R o aj cj cs :=
  ⟨(hb.cell (p := ⟨R, o, none⟩) (World.block_lt_of_cell? W _ h.cell)).trans h.cell, h.rd.below hb⟩
end Go.Proofs.YtimmadkbkimonaaGreatDoor
