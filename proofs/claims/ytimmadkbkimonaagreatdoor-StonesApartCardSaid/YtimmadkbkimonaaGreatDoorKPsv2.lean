/- Parts of the proof, in this order: has and asked of stones; Blocks made one after the other; asked, weight, Weight, Index, At of stones; ValidPattern of stones; Rows of the call's own: ints, cells; Cells, Area of stones; with, Set of stones; A region that draws its order and whose last operation (number m: a store) hits what it loads: a condition S on the world, shown anew behind each operation but that one; mapped of stones; The program's test of strokes, equality of int slices, equality of notes; Periods, turns and normal forms: the plain law. -/
import Derived.OrdersHeld
import Derived.StillTail
import Derived.Deep.RegionHeld3
import Derived.WalkKit
import Derived.Test.YtimmadkbkimonaaGreatDoorKPsv1
set_option linter.unusedSimpArgs false
set_option linter.unusedVariables false
open List renaming getElem_toArray → lq0, getElem_cons_succ → lq1, getElem_cons_zero → lq2, setIfInBounds_toArray → lq3, set_cons_zero → lq4, set_cons_succ → lq5
namespace Go.Proofs.YtimmadkbkimonaaGreatDoor
set_option linter.unusedSimpArgs false
set_option linter.unusedVariables false
open Go.RowKit

def cellA (c : CellV) : Array Value := #[.int .i64 c.1, .int .i64 c.2]
theorem hasF_eq {f : FaceV} (h : f.valid = true) (c : CellV) (hr : inB c.1 0 (f.rings - 1) = true) : decide (cellF f (indexF f c.1 c.2) = c) = hasF f c := by
  rw [indexF_cell h]
  unfold hasF
  rw [hr, Bool.true_and]
  have h2 := FaceV.int h
  have h3 := around_lt h c.2
  rw [Bool.eq_iff_iff, decide_eq_true_eq, inB_true]
  constructor
  · intro e
    have : around c.2 f.sectors = c.2 := congrArg Prod.snd e
    omega
  · intro e
    rw [around_eq h (by omega)]
set_option maxHeartbeats 4000000 in
set_option maxRecDepth 100000 in
theorem has_any (f : FaceV) (a : Option Addr) (n : Nat) (c : CellV) (w : World) (hv : f.valid = true) :
    Calls Tryz.prog 128 #[.agg (f.cells a n), .agg (cellA c)] w fun e w' => e = .returned (.bool (hasF f c)) ∧ Below w.heap.size w w' := by
  have JF := Lib.hid (show (Tryz.prog.info? 28).map (·.size) = some (f.cells a n).size from by kernel_rfl)
  have JC := Lib.hid (show (Tryz.prog.info? 41).map (·.size) = some (cellA c).size from by kernel_rfl)
  have B0 := Lib.hid (((Below.refl w.heap.size w).alloc (Nat.le_refl _) (.cells (f.cells a n) 28)).alloc (by simp) (.cells (cellA c) 41))
  have X0 := Lib.hid (qblk ((Below.refl _ _).alloc (Nat.le_refl _) (.cells (cellA c) 41)) (qlast w (.cells (f.cells a n) 28)))
  have R0 := Lib.hid (qat (w.alloc (.cells (f.cells a n) 28)) (.cells (cellA c) 41) (w.heap.size + 1) (by simp))
  have HI := Lib.hid (FaceV.int hv)
  have SB := Lib.hid (show wrap64 (f.rings - 1) = f.rings - 1 by have := FaceV.int hv; unfold wrap64; omega)
  have HE := Lib.hid (hasF_eq hv c)
  have HL := Lib.hid (fun (h : inB c.1 0 (f.rings - 1) = true) => index_lt hv (inB_true.1 h) c.2)
  have HF : Hid (inB c.1 0 (f.rings - 1) = false → hasF f c = false) := Lib.hid (fun h => by unfold hasF; rw [h]; rfl)
  clear hv
  go_enter Tryz.func128, Tryz.ntmps128
  go_upto_region 1 with fail
  obtain ⟨p, hp⟩ : ∃ p, Hid (w.heap.size = p) := ⟨_, Lib.hid rfl⟩
  obtain ⟨q, hq⟩ : ∃ q, Hid (w.heap.size + 1 = q) := ⟨_, Lib.hid rfl⟩
  rw [hq.out] at R0 ⊢
  rw [hp.out] at X0 ⊢
  generalize (w.alloc (.cells (f.cells a n) 28)).alloc (.cells (cellA c) 41) = W0 at *
  have hd : Below W0.heap.size W0 W0.drew := (Below.refl _ _).drew
  refine zD (fun W => Below w.heap.size w W ∧ W.heap[p]? = some (.cells (f.cells a n) 28 (0, 0)) ∧ W.heap[q]? = some (.cells (cellA c) 41 (0, 0))) ⟨B0.out.drew, qblk hd X0.out, qblk hd R0.out⟩ (fun hHeld => ?_)
  have BV := Lib.hid hHeld
  clear hd
  generalize W0.drew = V0 at *
  refine zW 0 rfl (.pointer (some ⟨q, 0, none⟩)) ?_
  refine zS 1 rfl (.int .i64 c.1) (fun W hW => by have c := qcell hW.2.2 0 (.int .i64 c.1) rfl; go_simp) ?_
  refine zW 2 rfl (.pointer (some ⟨p, 1, none⟩)) ?_
  refine zS 3 rfl (.int .i64 f.rings) (fun W hW => by have c := qcell hW.2.1 1 (.int .i64 f.rings) rfl; go_simp) ?_
  refine zW 4 rfl (.int .i64 (f.rings - 1)) (hy := .inl ⟨by kernel_rfl, by intro W _; go_simp; exact (IntWalk.i64_left _).trans SB.out⟩) ?_
  refine zR 5 rfl (fun K hK => ?_)
  go_simp
  refine (within_any c.1 0 (f.rings - 1) V0).mono ?_
  rintro e V1 ⟨rfl, rfl⟩
  dsimp only
  refine zK hK BV.out (fun hHeld => ?_)
  clear hK K
  cases hq5 : inB c.1 0 (f.rings - 1)
  · have HF2 := Lib.hid (HF.out hq5)
    clear hq5
    refine zW 6 rfl (.bool false) ?_
    refine zW 7 rfl undef (hy := .inr ⟨by kernel_rfl, rfl⟩) ?_
    refine zW 8 rfl undef (hy := .inr ⟨by kernel_rfl, rfl⟩) ?_
    refine zW 9 rfl undef (hy := .inr ⟨by kernel_rfl, rfl⟩) ?_
    refine zW 10 rfl undef (hy := .inr ⟨by kernel_rfl, rfl⟩) ?_
    refine zW 11 rfl undef (hy := .inr ⟨by kernel_rfl, rfl⟩) ?_
    refine zW 12 rfl undef (hy := .inr ⟨by kernel_rfl, rfl⟩) ?_
    refine zW 13 rfl undef (hy := .inr ⟨by kernel_rfl, rfl⟩) ?_
    refine zW 14 rfl undef (hy := .inr ⟨by kernel_rfl, rfl⟩) ?_
    refine zW 15 rfl undef (hy := .inr ⟨by kernel_rfl, rfl⟩) ?_
    refine zW 16 rfl undef (hy := .inr ⟨by kernel_rfl, rfl⟩) ?_
    refine zW 17 rfl (.bool false) ?_
    refine zW 18 rfl (.bool false) ?_
    refine zE ?_
    go_wp2_with fail
    go_ret
    exact ⟨by rw [HF2.out]; rfl, BV.out.1⟩
  · have HE2 := Lib.hid (HE.out hq5)
    have HL2 := Lib.hid (HL.out hq5)
    have HR := Lib.hid (inB_true.1 hq5)
    clear hq5
    refine zW 6 rfl (.bool true) ?_
    refine zT 7 rfl (.agg (f.cells a n)) (qyrow (by kernel_rfl) 28 _ rfl p rfl _ 28 (0, 0) _ (fun W hW => hW.2.1) Tryz.underlying28 rfl (by exact JF.out)) ?_
    refine zT 8 rfl (.agg (f.cells a n)) (qyrow (by kernel_rfl) 28 _ rfl p rfl _ 28 (0, 0) _ (fun W hW => hW.2.1) Tryz.underlying28 rfl (by exact JF.out)) ?_
    refine zW 9 rfl (.pointer (some ⟨q, 0, none⟩)) ?_
    refine zS 10 rfl (.int .i64 c.1) (fun W hW => by have c := qcell hW.2.2 0 (.int .i64 c.1) rfl; go_simp) ?_
    refine zW 11 rfl (.pointer (some ⟨q, 1, none⟩)) ?_
    refine zS 12 rfl (.int .i64 c.2) (fun W hW => by have c := qcell hW.2.2 1 (.int .i64 c.2) rfl; go_simp) ?_
    refine zT 15 rfl (.agg (cellA c)) (qyrow (by kernel_rfl) 41 _ rfl q rfl _ 41 (0, 0) _ (fun W hW => hW.2.2) Tryz.underlying41 rfl (by exact JC.out)) ?_
    refine zR 13 rfl (fun K hK => ?_)
    go_simp
    refine (index_any f a n c.1 c.2 V1 (by have := HI.out; omega) (by have := HI.out; have := HR.out; omega)).mono ?_
    rintro e V2 ⟨rfl, b⟩
    replace BV := Lib.hid (show Below w.heap.size w V2 ∧ V2.heap[p]? = some (.cells (f.cells a n) 28 (0, 0)) ∧ V2.heap[q]? = some (.cells (cellA c) 41 (0, 0)) from ⟨BV.out.1.trans (b.mono BV.out.1.size), qblk b BV.out.2.1, qblk b BV.out.2.2⟩)
    clear b
    dsimp only
    refine zK hK BV.out (fun hHeld => ?_)
    clear hK K
    refine zR 14 rfl (fun K hK => ?_)
    go_simp
    refine (cellOf_any f a n (indexF f c.1 c.2) V2 (by have := HI.out; omega) (by have := HL2.out; have := HI.out; have h3 : f.rings * f.sectors ≤ 24 * 96 := Int.mul_le_mul (by omega) (by omega) (by omega) (by omega); omega)).mono ?_
    rintro e V3 ⟨rfl, b⟩
    replace BV := Lib.hid (show Below w.heap.size w V3 ∧ V3.heap[p]? = some (.cells (f.cells a n) 28 (0, 0)) ∧ V3.heap[q]? = some (.cells (cellA c) 41 (0, 0)) from ⟨BV.out.1.trans (b.mono BV.out.1.size), qblk b BV.out.2.1, qblk b BV.out.2.2⟩)
    clear b
    dsimp only
    refine zK hK BV.out (fun hHeld => ?_)
    clear hK K
    refine zW 16 rfl (.bool (decide (cellF f (indexF f c.1 c.2) = c))) (hy := .inl ⟨by kernel_rfl, by intro W _; unfold cellA; go_simp; by_cases h1 : (cellF f (indexF f c.1 c.2)).1 = c.1 <;> by_cases h2 : (cellF f (indexF f c.1 c.2)).2 = c.2 <;> simp [h1, h2, Prod.ext_iff]⟩) ?_
    refine zW 17 rfl (.bool (decide (cellF f (indexF f c.1 c.2) = c))) ?_
    refine zW 18 rfl (.bool (decide (cellF f (indexF f c.1 c.2) = c))) ?_
    refine zE ?_
    go_wp2_with fail
    go_ret
    exact ⟨by rw [← HE2.out]; rfl, BV.out.1⟩
set_option maxHeartbeats 4000000 in
set_option maxRecDepth 100000 in
theorem valid2_any (f : FaceV) (a : Option Addr) (n : Nat) (w : World) (hr : RdI w a f.kinds.length n f.kinds) :
    Calls Tryz.prog 52 #[.agg (f.cells a n)] w fun e w' => e = .returned (.bool f.valid) ∧ Below w.heap.size w w' := by
  have B0 := Lib.hid ((Below.refl w.heap.size w).alloc (Nat.le_refl _) (.cells (f.cells a n) 28))
  have X0 := Lib.hid (qlast w (.cells (f.cells a n) 28))
  have HR := Lib.hid (fun W (hb : Below w.heap.size w W) => hr.below hb)
  have VF : Hid (∀ x : Int, ∀ W, Calls Tryz.prog 108 #[.int .i64 x] W fun r W' => r = .returned (.bool (!kindB x)) ∧ Below W.heap.size W W') := Lib.hid (fun x W => by
    cases hk : kindB x
    all_goals
      go_enter Tryz.func108, Tryz.ntmps108
      go_wp2_with fail
      refine (kind_any x W).mono ?_
      rintro e W1 ⟨rfl, rfl⟩
      rw [hk]
      go_wp2_with fail
      go_ret
      exact ⟨rfl, Below.refl _ _⟩)
  have VFN := Lib.hid (show ∀ (args : Array Value) (w : World), (callFunc 108 args).run Tryz.prog w = .ok (.enter 108 args) w from fun args w => by kernel_rfl)
  have V1 : Hid (inB f.eye 1 16 = false → f.valid = false) := Lib.hid (fun h => by unfold FaceV.valid FaceV.sized; rw [h]; rfl)
  have V2 : Hid (inB f.rings 1 24 = false → f.valid = false) := Lib.hid (fun h => by unfold FaceV.valid FaceV.sized; rw [h]; simp)
  have V3 : Hid (inB f.sectors 2 96 = false → f.valid = false) := Lib.hid (fun h => by unfold FaceV.valid FaceV.sized; rw [h]; simp)
  have V4 : Hid (((f.kinds.length : Int) != f.rings * f.sectors) = true → f.valid = false) := Lib.hid (fun h => by unfold FaceV.valid FaceV.sized; rw [bne_iff_ne] at h; simp [h])
  have V5 : Hid (inB f.eye 1 16 = true → inB f.rings 1 24 = true → inB f.sectors 2 96 = true → ((f.kinds.length : Int) != f.rings * f.sectors) = false → f.valid = !(f.kinds.any fun x => !kindB x)) := Lib.hid (fun h1 h2 h3 h4 => by
    have h4 : (f.kinds.length : Int) = f.rings * f.sectors := by simpa using h4
    unfold FaceV.valid FaceV.sized
    rw [h1, h2, h3, h4]
    simp [List.all_eq_not_any_not])
  clear hr
  go_enter Tryz.func52, Tryz.ntmps52
  go_upto_region 1 with fail
  obtain ⟨p, hp⟩ : ∃ p, Hid (w.heap.size = p) := ⟨_, Lib.hid rfl⟩
  rw [hp.out] at X0 ⊢
  generalize w.alloc (.cells (f.cells a n) 28) = W0 at *
  have c0 := qcell X0.out 0 (.int .i64 f.eye) rfl
  have c1 := qcell X0.out 1 (.int .i64 f.rings) rfl
  have c2 := qcell X0.out 2 (.int .i64 f.sectors) rfl
  have c3 := qcell X0.out 3 (.slice a f.kinds.length n) rfl
  go_wp2_with fail
  refine (within_any f.eye 1 16 W0).mono ?_
  rintro e W1 ⟨rfl, rfl⟩
  cases h1 : inB f.eye 1 16
  · have VV := Lib.hid (V1.out h1)
    go_wp2_with fail
    go_ret
    exact ⟨by rw [VV.out]; rfl, B0.out⟩
  go_wp2_with fail
  refine (within_any f.rings 1 24 W1).mono ?_
  rintro e W2 ⟨rfl, rfl⟩
  cases h2 : inB f.rings 1 24
  · have VV := Lib.hid (V2.out h2)
    go_wp2_with fail
    go_ret
    exact ⟨by rw [VV.out]; rfl, B0.out⟩
  go_wp2_with fail
  refine (within_any f.sectors 2 96 W2).mono ?_
  rintro e W3 ⟨rfl, rfl⟩
  cases h3 : inB f.sectors 2 96
  · have VV := Lib.hid (V3.out h3)
    go_wp2_with fail
    go_ret
    exact ⟨by rw [VV.out]; rfl, B0.out⟩
  have ew : wrap64 (f.rings * f.sectors) = f.rings * f.sectors := by
    rw [inB_true] at h2 h3
    have h5 : f.rings * f.sectors ≤ 24 * 96 := Int.mul_le_mul (by omega) (by omega) (by omega) (by omega)
    have h6 := Int.mul_nonneg (show 0 ≤ f.rings by omega) (show 0 ≤ f.sectors by omega)
    unfold wrap64
    omega
  cases h4 : ((f.kinds.length : Int) != f.rings * f.sectors)
  case true =>
    have VV := Lib.hid (V4.out h4)
    go_wp2_with fail
    go_ret
    exact ⟨by rw [VV.out]; rfl, B0.out⟩
  have VV := Lib.hid (V5.out h1 h2 h3 h4)
  clear V1 V2 V3 V4 V5
  go_wp2_with fail
  refine (containsZ_any f.kinds (fun x => !kindB x) 108 VFN.out a f.kinds.length n W3 (HR.out W3 B0.out) (fun x _ W _ => VF.out x W)).mono ?_
  rintro e W4 ⟨rfl, b⟩
  have BF := Lib.hid (B0.out.trans (b.mono B0.out.size))
  clear b
  go_wp2_with fail
  go_ret
  exact ⟨by rw [VV.out]; rfl, BF.out⟩
end Go.Proofs.YtimmadkbkimonaaGreatDoor
namespace Go.Proofs.YtimmadkbkimonaaGreatDoor
set_option linter.unusedSimpArgs false
set_option linter.unusedVariables false
open Go.RowKit

section
variable (w : World) (o1 o2 o3 o4 : Obj)
theorem al1 : Below w.heap.size w (w.alloc o1) ∧ (w.alloc o1).heap[w.heap.size]? = some o1 := ⟨(Below.refl _ _).alloc (Nat.le_refl _) _, heap_alloc_last w o1⟩
theorem al2 : Below w.heap.size w ((w.alloc o1).alloc o2) ∧ ((w.alloc o1).alloc o2).heap[w.heap.size]? = some o1 ∧ ((w.alloc o1).alloc o2).heap[w.heap.size + 1]? = some o2 :=
  ⟨(al1 w o1).1.alloc (by simp) _, qblk ((Below.refl _ _).alloc (Nat.le_refl _) o2) (al1 w o1).2, qat (w.alloc o1) o2 _ (by simp)⟩
theorem al3 : Below w.heap.size w (((w.alloc o1).alloc o2).alloc o3) ∧ (((w.alloc o1).alloc o2).alloc o3).heap[w.heap.size]? = some o1 ∧ (((w.alloc o1).alloc o2).alloc o3).heap[w.heap.size + 1]? = some o2 ∧ (((w.alloc o1).alloc o2).alloc o3).heap[w.heap.size + 2]? = some o3 :=
  ⟨(al2 w o1 o2).1.alloc (by simp; omega) _, qblk ((Below.refl _ _).alloc (Nat.le_refl _) o3) (al2 w o1 o2).2.1, qblk ((Below.refl _ _).alloc (Nat.le_refl _) o3) (al2 w o1 o2).2.2, qat ((w.alloc o1).alloc o2) o3 _ (by simp)⟩
end
theorem qJF (f : FaceV) (a : Option Addr) (n : Nat) : (Tryz.prog.info? 28).map (·.size) = some (f.cells a n).size := by kernel_rfl
theorem qJC (c : CellV) : (Tryz.prog.info? 41).map (·.size) = some (cellA c).size := by kernel_rfl
theorem results_ct {P : Program} {fn : Func} {p u : Tmp} {ty : TypeId} (h : fn.results = #[.cell p ty, .tmp u]) (tmps : Array Value) (w : World) (g : Nat) (t : TypeId) (cs : Array Value) (fr : Nat × Nat) (d : TypeDesc)
    (hp : tmps.getD p undef = .pointer (some ⟨g, 0, none⟩)) (hg : w.heap[g]? = some (.cells cs t fr))
    (hu : P.underlying ty = some d) (hd : (match d with | .struct _ | .array _ _ => true | _ => false) = true) (hi : (P.info? ty).map (·.size) = some cs.size) :
    (results fn tmps).run P w = .ok (.tuple #[.agg cs, tmps.getD u undef]) w := by
  have hp' : tmps[p]?.getD undef = .pointer (some ⟨g, 0, none⟩) := by simpa using hp
  simp [results, h, hp', asAddr, run_loadVar_row w g t ty cs fr d hg hu hd hi]
theorem wpList_qstore {P : Program} {ops : Array Oper} {rest : List Oper} {op : Oper} {a : Act} {w : World} {Q : Exit → Act → World → Prop} (hgd : op.guard = none) (ty : TypeId) (x y : Operand) (ho : op.op = .store ty x y) (p : Nat)
    (c c' : Array Value) (t : TypeId) (hx : a.eval x = .pointer (some ⟨p, 0, none⟩)) (hy : a.eval y = .agg c') (hg : w.heap[p]? = some (.cells c t (0, 0))) (hi : (P.info? ty).map (·.size) = some c'.size) (hc : c.size = c'.size) (h1 : c'.all (·.oneCell') = true)
    (h : ∀ w', w'.heap[p]? = some (.cells c' t (0, 0)) → w.grownBy w' (some p) → wpList P ops Q rest (a.put op.dst undef) w') : wpList P ops Q (op :: rest) a w :=
  wpList_plain hgd fun _ hK => qstore ty x y ho p c c' t hx hy hg hi hc h1 fun w' h1 h2 _ => hK _ _ (h w' h1 h2)
theorem qstep {w w0 W : World} {p : Nat} (hb : Below w.heap.size w w0) (hg : w0.grownBy W (some p)) (hp : w.heap.size ≤ p) : Below w.heap.size w W := hb.grown hg hb.size (fun k e => by cases e; exact hp)
theorem qone (f : FaceV) (a : Option Addr) (n : Nat) : (f.cells a n).all (·.oneCell') = true := by simp [FaceV.cells, Value.oneCell']
theorem qoneC (c : CellV) : (cellA c).all (·.oneCell') = true := by simp [cellA, Value.oneCell']
end Go.Proofs.YtimmadkbkimonaaGreatDoor
namespace Go.Proofs.YtimmadkbkimonaaGreatDoor
set_option linter.unusedSimpArgs false
set_option linter.unusedVariables false
open Go.RowKit

set_option maxHeartbeats 4000000 in
set_option maxRecDepth 100000 in
theorem asked_any (f : FaceV) (a : Option Addr) (n : Nat) (c : CellV) (w : World) (hr : RdI w a f.kinds.length n f.kinds) :
    Calls Tryz.prog 86 #[.agg (f.cells a n), .agg (cellA c)] w fun e w' => e = .returned (.int .i64 (askedF f c)) ∧ Below w.heap.size w w' := by
  have AV := Lib.hid (fun W (hb : Below w.heap.size w W) => valid2_any f a n W (hr.below hb))
  have AH := Lib.hid (fun W (hv : f.valid = true) => has_any f a n c W hv)
  clear hr
  have AL := Lib.hid (al2 w (.cells (f.cells a n) 28) (.cells (cellA c) 41))
  go_enter Tryz.func86, Tryz.ntmps86
  go_upto_region 1 with fail
  obtain ⟨p, hp⟩ : ∃ p, Hid (w.heap.size = p) := ⟨_, Lib.hid rfl⟩
  obtain ⟨q, hq⟩ : ∃ q, Hid (w.heap.size + 1 = q) := ⟨_, Lib.hid rfl⟩
  rw [hq.out] at AL ⊢
  rw [hp.out] at AL ⊢
  generalize ((w.alloc (.cells (f.cells a n) 28)).alloc (.cells (cellA c) 41)) = W0 at *
  have BF : Hid (Below w.heap.size w W0) := Lib.hid (by rw [hp.out]; exact AL.out.1)
  have XF : Hid (W0.heap[p]? = some (.cells (f.cells a n) 28 (0, 0))) := Lib.hid AL.out.2.1
  have XC : Hid (W0.heap[q]? = some (.cells (cellA c) 41 (0, 0))) := Lib.hid AL.out.2.2
  clear AL
  have c0 := qcell XF.out 0 (.int .i64 f.eye) rfl
  have c1 := qcell XF.out 1 (.int .i64 f.rings) rfl
  have c2 := qcell XF.out 2 (.int .i64 f.sectors) rfl
  have c3 := qcell XF.out 3 (.slice a f.kinds.length n) rfl
  have d0 := qcell XC.out 0 (.int .i64 c.1) rfl
  have d1 := qcell XC.out 1 (.int .i64 c.2) rfl
  go_wp2_with (first
    | (refine wpList_load_row rfl 28 _ rfl p rfl 28 (f.cells a n) (0, 0) _ XF.out Tryz.underlying28 rfl (by exact (qJF f a n)) ?_)
    | (refine wpList_load_row rfl 41 _ rfl q rfl 41 (cellA c) (0, 0) _ XC.out Tryz.underlying41 rfl (by exact (qJC c)) ?_)
    | fail)
  refine (AV.out W0 BF.out).mono ?_
  rintro e V1 ⟨rfl, b⟩
  clear c0 c1 c2 c3 d0 d1
  replace BF := Lib.hid (BF.out.trans (b.mono BF.out.size))
  replace XF := Lib.hid (qblk b XF.out)
  replace XC := Lib.hid (qblk b XC.out)
  clear b
  have c0 := qcell XF.out 0 (.int .i64 f.eye) rfl
  have c1 := qcell XF.out 1 (.int .i64 f.rings) rfl
  have c2 := qcell XF.out 2 (.int .i64 f.sectors) rfl
  have c3 := qcell XF.out 3 (.slice a f.kinds.length n) rfl
  have d0 := qcell XC.out 0 (.int .i64 c.1) rfl
  have d1 := qcell XC.out 1 (.int .i64 c.2) rfl
  cases hv : f.valid
  · go_wp2_with (first
      | (refine wpList_load_row rfl 28 _ rfl p rfl 28 (f.cells a n) (0, 0) _ XF.out Tryz.underlying28 rfl (by exact (qJF f a n)) ?_)
      | (refine wpList_load_row rfl 41 _ rfl q rfl 41 (cellA c) (0, 0) _ XC.out Tryz.underlying41 rfl (by exact (qJC c)) ?_)
      | fail)
    go_ret
    exact ⟨by unfold askedF; rw [hv]; rfl, BF.out⟩
  · go_wp2_with (first
      | (refine wpList_load_row rfl 28 _ rfl p rfl 28 (f.cells a n) (0, 0) _ XF.out Tryz.underlying28 rfl (by exact (qJF f a n)) ?_)
      | (refine wpList_load_row rfl 41 _ rfl q rfl 41 (cellA c) (0, 0) _ XC.out Tryz.underlying41 rfl (by exact (qJC c)) ?_)
      | fail)
    refine (AH.out V1 hv).mono ?_
    rintro e V2 ⟨rfl, b⟩
    clear c0 c1 c2 c3 d0 d1
    replace BF := Lib.hid (BF.out.trans (b.mono BF.out.size))
    replace XF := Lib.hid (qblk b XF.out)
    replace XC := Lib.hid (qblk b XC.out)
    clear b
    have c0 := qcell XF.out 0 (.int .i64 f.eye) rfl
    have c1 := qcell XF.out 1 (.int .i64 f.rings) rfl
    have c2 := qcell XF.out 2 (.int .i64 f.sectors) rfl
    have c3 := qcell XF.out 3 (.slice a f.kinds.length n) rfl
    have d0 := qcell XC.out 0 (.int .i64 c.1) rfl
    have d1 := qcell XC.out 1 (.int .i64 c.2) rfl
    cases hh : hasF f c
    · go_wp2_with (first
        | (refine wpList_load_row rfl 28 _ rfl p rfl 28 (f.cells a n) (0, 0) _ XF.out Tryz.underlying28 rfl (by exact (qJF f a n)) ?_)
        | (refine wpList_load_row rfl 41 _ rfl q rfl 41 (cellA c) (0, 0) _ XC.out Tryz.underlying41 rfl (by exact (qJC c)) ?_)
        | fail)
      go_ret
      exact ⟨by unfold askedF; rw [hv, hh]; rfl, BF.out⟩
    · go_wp2_with (first
        | (refine wpList_load_row rfl 28 _ rfl p rfl 28 (f.cells a n) (0, 0) _ XF.out Tryz.underlying28 rfl (by exact (qJF f a n)) ?_)
        | (refine wpList_load_row rfl 41 _ rfl q rfl 41 (cellA c) (0, 0) _ XC.out Tryz.underlying41 rfl (by exact (qJC c)) ?_)
        | fail)
      go_ret
      exact ⟨by unfold askedF; rw [hv, hh]; rfl, BF.out⟩
set_option maxHeartbeats 4000000 in
set_option maxRecDepth 100000 in
theorem weight_any (f : FaceV) (a : Option Addr) (n : Nat) (ring : Int) (w : World) (hv : 1 ≤ f.eye ∧ f.eye ≤ 16) (hq : 0 ≤ ring ∧ ring ≤ 24) :
    Calls Tryz.prog 110 #[.agg (f.cells a n), .int .i64 ring] w fun e w' => e = .returned (.int .i64 (weightF f ring)) ∧ Below w.heap.size w w' := by
  have A1 := Lib.hid (show wrap64 (wrap64 (2 * wrap64 (f.eye + ring)) + 1) = weightF f ring by unfold weightF wrap64; omega)
  have AL := Lib.hid (al1 w (.cells (f.cells a n) 28))
  go_enter Tryz.func110, Tryz.ntmps110
  go_upto_region 1 with fail
  obtain ⟨p, hp⟩ : ∃ p, Hid (w.heap.size = p) := ⟨_, Lib.hid rfl⟩
  rw [hp.out] at AL ⊢
  generalize (w.alloc (.cells (f.cells a n) 28)) = W0 at *
  have BF : Hid (Below w.heap.size w W0) := Lib.hid (by rw [hp.out]; exact AL.out.1)
  have XF : Hid (W0.heap[p]? = some (.cells (f.cells a n) 28 (0, 0))) := Lib.hid AL.out.2
  clear AL
  have c0 := qcell XF.out 0 (.int .i64 f.eye) rfl
  have c1 := qcell XF.out 1 (.int .i64 f.rings) rfl
  have c2 := qcell XF.out 2 (.int .i64 f.sectors) rfl
  have c3 := qcell XF.out 3 (.slice a f.kinds.length n) rfl
  go_wp2_with (first
    | (refine wpList_load_row rfl 28 _ rfl p rfl 28 (f.cells a n) (0, 0) _ XF.out Tryz.underlying28 rfl (by exact (qJF f a n)) ?_)
    | fail)
  go_ret
  exact ⟨rfl, BF.out⟩
set_option maxHeartbeats 4000000 in
set_option maxRecDepth 100000 in
theorem indexP_any (f : FaceV) (a : Option Addr) (n : Nat) (c : CellV) (w : World) (hr : RdI w a f.kinds.length n f.kinds) :
    Calls Tryz.prog 58 #[.agg (f.cells a n), .agg (cellA c)] w fun e w' => e = .returned (.tuple #[.int .i64 (indexP f c).1, .int .i64 (indexP f c).2]) ∧ Below w.heap.size w w' := by
  have AK := Lib.hid (fun W (hb : Below w.heap.size w W) => asked_any f a n c W (hr.below hb))
  clear hr
  have AL := Lib.hid (al2 w (.cells (f.cells a n) 28) (.cells (cellA c) 41))
  go_enter Tryz.func58, Tryz.ntmps58
  go_upto_region 1 with fail
  obtain ⟨p, hp⟩ : ∃ p, Hid (w.heap.size = p) := ⟨_, Lib.hid rfl⟩
  obtain ⟨q, hq⟩ : ∃ q, Hid (w.heap.size + 1 = q) := ⟨_, Lib.hid rfl⟩
  rw [hq.out] at AL ⊢
  rw [hp.out] at AL ⊢
  generalize ((w.alloc (.cells (f.cells a n) 28)).alloc (.cells (cellA c) 41)) = W0 at *
  have BF : Hid (Below w.heap.size w W0) := Lib.hid (by rw [hp.out]; exact AL.out.1)
  have XF : Hid (W0.heap[p]? = some (.cells (f.cells a n) 28 (0, 0))) := Lib.hid AL.out.2.1
  have XC : Hid (W0.heap[q]? = some (.cells (cellA c) 41 (0, 0))) := Lib.hid AL.out.2.2
  clear AL
  have c0 := qcell XF.out 0 (.int .i64 f.eye) rfl
  have c1 := qcell XF.out 1 (.int .i64 f.rings) rfl
  have c2 := qcell XF.out 2 (.int .i64 f.sectors) rfl
  have c3 := qcell XF.out 3 (.slice a f.kinds.length n) rfl
  have d0 := qcell XC.out 0 (.int .i64 c.1) rfl
  have d1 := qcell XC.out 1 (.int .i64 c.2) rfl
  go_wp2_with (first
    | (refine wpList_load_row rfl 28 _ rfl p rfl 28 (f.cells a n) (0, 0) _ XF.out Tryz.underlying28 rfl (by exact (qJF f a n)) ?_)
    | (refine wpList_load_row rfl 41 _ rfl q rfl 41 (cellA c) (0, 0) _ XC.out Tryz.underlying41 rfl (by exact (qJC c)) ?_)
    | fail)
  refine (AK.out W0 BF.out).mono ?_
  rintro e V1 ⟨rfl, b⟩
  clear c0 c1 c2 c3 d0 d1
  replace BF := Lib.hid (BF.out.trans (b.mono BF.out.size))
  replace XF := Lib.hid (qblk b XF.out)
  replace XC := Lib.hid (qblk b XC.out)
  clear b
  have c0 := qcell XF.out 0 (.int .i64 f.eye) rfl
  have c1 := qcell XF.out 1 (.int .i64 f.rings) rfl
  have c2 := qcell XF.out 2 (.int .i64 f.sectors) rfl
  have c3 := qcell XF.out 3 (.slice a f.kinds.length n) rfl
  have d0 := qcell XC.out 0 (.int .i64 c.1) rfl
  have d1 := qcell XC.out 1 (.int .i64 c.2) rfl
  cases hk : decide (askedF f c ≠ 0)
  · have HK : Hid (askedF f c = 0) := Lib.hid (by simpa using hk)
    have ZK := Lib.hid (asked_zero.1 HK.out)
    have IV := Lib.hid (FaceV.int ZK.out.1)
    have HC := Lib.hid (hasF_iff.1 ZK.out.2)
    have IL := Lib.hid (index_lt ZK.out.1 HC.out.1 c.2)
    have hk2 : (askedF f c != 0) = false := by simpa using hk
    clear hk
    go_wp2_with (first
      | (refine wpList_load_row rfl 28 _ rfl p rfl 28 (f.cells a n) (0, 0) _ XF.out Tryz.underlying28 rfl (by exact (qJF f a n)) ?_)
      | (refine wpList_load_row rfl 41 _ rfl q rfl 41 (cellA c) (0, 0) _ XC.out Tryz.underlying41 rfl (by exact (qJC c)) ?_)
      | fail)
    refine (index_any f a n c.1 c.2 V1 (by have := IV.out; omega) (by have := IV.out; have := HC.out; omega)).mono ?_
    rintro e V2 ⟨rfl, b⟩
    clear c0 c1 c2 c3 d0 d1
    replace BF := Lib.hid (BF.out.trans (b.mono BF.out.size))
    replace XF := Lib.hid (qblk b XF.out)
    replace XC := Lib.hid (qblk b XC.out)
    clear b
    have c0 := qcell XF.out 0 (.int .i64 f.eye) rfl
    have c1 := qcell XF.out 1 (.int .i64 f.rings) rfl
    have c2 := qcell XF.out 2 (.int .i64 f.sectors) rfl
    have c3 := qcell XF.out 3 (.slice a f.kinds.length n) rfl
    have d0 := qcell XC.out 0 (.int .i64 c.1) rfl
    have d1 := qcell XC.out 1 (.int .i64 c.2) rfl
    go_wp2_with (first
      | (refine wpList_load_row rfl 28 _ rfl p rfl 28 (f.cells a n) (0, 0) _ XF.out Tryz.underlying28 rfl (by exact (qJF f a n)) ?_)
      | (refine wpList_load_row rfl 41 _ rfl q rfl 41 (cellA c) (0, 0) _ XC.out Tryz.underlying41 rfl (by exact (qJC c)) ?_)
      | fail)
    go_ret2
    exact ⟨by unfold indexP; rw [if_pos HK.out]; rfl, BF.out⟩
  · have HK : Hid (askedF f c ≠ 0) := Lib.hid (by simpa using hk)
    have hk2 : (askedF f c != 0) = true := by simpa using hk
    clear hk
    go_wp2_with (first
      | (refine wpList_load_row rfl 28 _ rfl p rfl 28 (f.cells a n) (0, 0) _ XF.out Tryz.underlying28 rfl (by exact (qJF f a n)) ?_)
      | (refine wpList_load_row rfl 41 _ rfl q rfl 41 (cellA c) (0, 0) _ XC.out Tryz.underlying41 rfl (by exact (qJC c)) ?_)
      | fail)
    go_ret2
    exact ⟨by unfold indexP; rw [if_neg HK.out]; rfl, BF.out⟩
set_option maxHeartbeats 4000000 in
set_option maxRecDepth 100000 in
theorem cellP_any (f : FaceV) (a : Option Addr) (n : Nat) (i : Int) (w : World) (hr : RdI w a f.kinds.length n f.kinds) :
    Calls Tryz.prog 36 #[.agg (f.cells a n), .int .i64 i] w fun e w' => e = .returned (.tuple #[.agg (cellA (cellP f i).1), .int .i64 (cellP f i).2]) ∧ Below w.heap.size w w' := by
  have AV := Lib.hid (fun W (hb : Below w.heap.size w W) => valid2_any f a n W (hr.below hb))
  clear hr
  have AL := Lib.hid (al2 w (.cells (f.cells a n) 28) (.cells #[.int .i64 0, .int .i64 0] 41))
  go_enter Tryz.func36, Tryz.ntmps36
  go_upto_region 1 with fail
  obtain ⟨p, hp⟩ : ∃ p, Hid (w.heap.size = p) := ⟨_, Lib.hid rfl⟩
  obtain ⟨z, hz⟩ : ∃ z, Hid (w.heap.size + 1 = z) := ⟨_, Lib.hid rfl⟩
  rw [hz.out] at AL ⊢
  rw [hp.out] at AL ⊢
  generalize ((w.alloc (.cells (f.cells a n) 28)).alloc (.cells #[.int .i64 0, .int .i64 0] 41)) = W0 at *
  have BF : Hid (Below w.heap.size w W0) := Lib.hid (by rw [hp.out]; exact AL.out.1)
  have XF : Hid (W0.heap[p]? = some (.cells (f.cells a n) 28 (0, 0))) := Lib.hid AL.out.2.1
  have XZ : Hid (W0.heap[z]? = some (.cells #[.int .i64 0, .int .i64 0] 41 (0, 0))) := Lib.hid AL.out.2.2
  clear AL
  have c0 := qcell XF.out 0 (.int .i64 f.eye) rfl
  have c1 := qcell XF.out 1 (.int .i64 f.rings) rfl
  have c2 := qcell XF.out 2 (.int .i64 f.sectors) rfl
  have c3 := qcell XF.out 3 (.slice a f.kinds.length n) rfl
  go_wp2_with (first
    | (refine wpList_load_row rfl 28 _ rfl p rfl 28 (f.cells a n) (0, 0) _ XF.out Tryz.underlying28 rfl (by exact (qJF f a n)) ?_)
    | (refine wpList_load_row rfl 41 _ rfl z rfl 41 #[.int .i64 0, .int .i64 0] (0, 0) _ XZ.out Tryz.underlying41 rfl (by exact (qJC (0, 0))) ?_)
    | fail)
  refine (AV.out W0 BF.out).mono ?_
  rintro e V1 ⟨rfl, b⟩
  clear c0 c1 c2 c3
  replace BF := Lib.hid (BF.out.trans (b.mono BF.out.size))
  replace XF := Lib.hid (qblk b XF.out)
  replace XZ := Lib.hid (qblk b XZ.out)
  clear b
  have c0 := qcell XF.out 0 (.int .i64 f.eye) rfl
  have c1 := qcell XF.out 1 (.int .i64 f.rings) rfl
  have c2 := qcell XF.out 2 (.int .i64 f.sectors) rfl
  have c3 := qcell XF.out 3 (.slice a f.kinds.length n) rfl
  cases hv : f.valid
  · go_wp2_with (first
      | (refine wpList_load_row rfl 28 _ rfl p rfl 28 (f.cells a n) (0, 0) _ XF.out Tryz.underlying28 rfl (by exact (qJF f a n)) ?_)
      | (refine wpList_load_row rfl 41 _ rfl z rfl 41 #[.int .i64 0, .int .i64 0] (0, 0) _ XZ.out Tryz.underlying41 rfl (by exact (qJC (0, 0))) ?_)
      | (refine wpList_qstore rfl 41 _ _ rfl z #[.int .i64 0, .int .i64 0] (cellA (0, 0)) 41 rfl rfl XZ.out (by exact (qJC (0, 0))) rfl (qoneC (0, 0)) ?_; intro VZ hzz hgz; clear c0 c1 c2 c3; replace BF := Lib.hid (qstep BF.out hgz (by have h1 := hz.out; omega)); replace XF := Lib.hid (qgrown hgz XF.out (fun e => by have h1 := hp.out; have h2 := hz.out; have := Option.some.inj e; omega)); replace XZ := Lib.hid hzz; clear hzz hgz; have c0 := qcell XF.out 0 (.int .i64 f.eye) rfl; have c1 := qcell XF.out 1 (.int .i64 f.rings) rfl; have c2 := qcell XF.out 2 (.int .i64 f.sectors) rfl; have c3 := qcell XF.out 3 (.slice a f.kinds.length n) rfl)
      | fail)
    (try simp only [Exit.inBlock, Exit.then])
    refine bodyPost_ret (results_ct rfl _ VZ z 41 (cellA (0, 0)) (0, 0) _ rfl XZ.out Tryz.underlying41 rfl (by exact (qJC (0, 0)))) rfl ?_
    exact ⟨by unfold cellP; rw [hv]; rfl, BF.out⟩
  · have IV := Lib.hid (FaceV.int hv)
    have SB := Lib.hid (show wrap64 ((f.kinds.length : Int) - 1) = (f.kinds.length : Int) - 1 by have := IV.out; have h3 : f.rings * f.sectors ≤ 24 * 96 := Int.mul_le_mul (by omega) (by omega) (by omega) (by omega); unfold wrap64; omega)
    go_wp2_with (first
      | (refine wpList_load_row rfl 28 _ rfl p rfl 28 (f.cells a n) (0, 0) _ XF.out Tryz.underlying28 rfl (by exact (qJF f a n)) ?_)
      | (refine wpList_load_row rfl 41 _ rfl z rfl 41 #[.int .i64 0, .int .i64 0] (0, 0) _ XZ.out Tryz.underlying41 rfl (by exact (qJC (0, 0))) ?_)
      | fail)
    rw [SB.out]
    refine (within_any i 0 ((f.kinds.length : Int) - 1) V1).mono ?_
    rintro e V2 ⟨rfl, rfl⟩
    cases hh : inB i 0 ((f.kinds.length : Int) - 1)
    · go_wp2_with (first
        | (refine wpList_load_row rfl 28 _ rfl p rfl 28 (f.cells a n) (0, 0) _ XF.out Tryz.underlying28 rfl (by exact (qJF f a n)) ?_)
        | (refine wpList_load_row rfl 41 _ rfl z rfl 41 #[.int .i64 0, .int .i64 0] (0, 0) _ XZ.out Tryz.underlying41 rfl (by exact (qJC (0, 0))) ?_)
        | (refine wpList_qstore rfl 41 _ _ rfl z #[.int .i64 0, .int .i64 0] (cellA (0, 0)) 41 rfl rfl XZ.out (by exact (qJC (0, 0))) rfl (qoneC (0, 0)) ?_; intro VZ hzz hgz; clear c0 c1 c2 c3; replace BF := Lib.hid (qstep BF.out hgz (by have h1 := hz.out; omega)); replace XF := Lib.hid (qgrown hgz XF.out (fun e => by have h1 := hp.out; have h2 := hz.out; have := Option.some.inj e; omega)); replace XZ := Lib.hid hzz; clear hzz hgz; have c0 := qcell XF.out 0 (.int .i64 f.eye) rfl; have c1 := qcell XF.out 1 (.int .i64 f.rings) rfl; have c2 := qcell XF.out 2 (.int .i64 f.sectors) rfl; have c3 := qcell XF.out 3 (.slice a f.kinds.length n) rfl)
        | fail)
      (try simp only [Exit.inBlock, Exit.then])
      refine bodyPost_ret (results_ct rfl _ VZ z 41 (cellA (0, 0)) (0, 0) _ rfl XZ.out Tryz.underlying41 rfl (by exact (qJC (0, 0)))) rfl ?_
      exact ⟨by unfold cellP; rw [hv, hh]; rfl, BF.out⟩
    · have HH := Lib.hid (inB_true.1 hh)
      go_wp2_with (first
        | (refine wpList_load_row rfl 28 _ rfl p rfl 28 (f.cells a n) (0, 0) _ XF.out Tryz.underlying28 rfl (by exact (qJF f a n)) ?_)
        | (refine wpList_load_row rfl 41 _ rfl z rfl 41 #[.int .i64 0, .int .i64 0] (0, 0) _ XZ.out Tryz.underlying41 rfl (by exact (qJC (0, 0))) ?_)
        | fail)
      refine (cellOf_any f a n i V2 (by have := IV.out; omega) (by have := HH.out; have := IV.out; have h3 : f.rings * f.sectors ≤ 24 * 96 := Int.mul_le_mul (by omega) (by omega) (by omega) (by omega); omega)).mono ?_
      rintro e V3 ⟨rfl, b⟩
      clear c0 c1 c2 c3
      replace BF := Lib.hid (BF.out.trans (b.mono BF.out.size))
      replace XF := Lib.hid (qblk b XF.out)
      replace XZ := Lib.hid (qblk b XZ.out)
      clear b
      have c0 := qcell XF.out 0 (.int .i64 f.eye) rfl
      have c1 := qcell XF.out 1 (.int .i64 f.rings) rfl
      have c2 := qcell XF.out 2 (.int .i64 f.sectors) rfl
      have c3 := qcell XF.out 3 (.slice a f.kinds.length n) rfl
      go_wp2_with (first
        | (refine wpList_load_row rfl 28 _ rfl p rfl 28 (f.cells a n) (0, 0) _ XF.out Tryz.underlying28 rfl (by exact (qJF f a n)) ?_)
        | (refine wpList_load_row rfl 41 _ rfl z rfl 41 #[.int .i64 0, .int .i64 0] (0, 0) _ XZ.out Tryz.underlying41 rfl (by exact (qJC (0, 0))) ?_)
        | (refine wpList_qstore rfl 41 _ _ rfl z #[.int .i64 0, .int .i64 0] (cellA (cellF f i)) 41 rfl rfl XZ.out (by exact (qJC (cellF f i))) rfl (qoneC (cellF f i)) ?_; intro VZ hzz hgz; clear c0 c1 c2 c3; replace BF := Lib.hid (qstep BF.out hgz (by have h1 := hz.out; omega)); replace XF := Lib.hid (qgrown hgz XF.out (fun e => by have h1 := hp.out; have h2 := hz.out; have := Option.some.inj e; omega)); replace XZ := Lib.hid hzz; clear hzz hgz; have c0 := qcell XF.out 0 (.int .i64 f.eye) rfl; have c1 := qcell XF.out 1 (.int .i64 f.rings) rfl; have c2 := qcell XF.out 2 (.int .i64 f.sectors) rfl; have c3 := qcell XF.out 3 (.slice a f.kinds.length n) rfl)
        | fail)
      (try simp only [Exit.inBlock, Exit.then])
      refine bodyPost_ret (results_ct rfl _ VZ z 41 (cellA (cellF f i)) (0, 0) _ rfl XZ.out Tryz.underlying41 rfl (by exact (qJC (cellF f i)))) rfl ?_
      exact ⟨by unfold cellP; rw [hv, hh]; rfl, BF.out⟩
end Go.Proofs.YtimmadkbkimonaaGreatDoor
namespace Go.Proofs.YtimmadkbkimonaaGreatDoor
set_option linter.unusedSimpArgs false
set_option linter.unusedVariables false
open Go.RowKit

def patA (p : PatV) (fa : Option Addr) (fn : Nat) : Array Value := #[.int .i64 p.eye, .int .i64 p.rings, .int .i64 p.harps, .int .i64 p.wide, .slice fa p.furs.length fn]
theorem qJP (p : PatV) (fa : Option Addr) (fn : Nat) : (Tryz.prog.info? 24).map (·.size) = some (patA p fa fn).size := by kernel_rfl
theorem qJU (x : FurV) : (Tryz.prog.info? 76).map (·.size) = some (furA x).size := by kernel_rfl
set_option maxHeartbeats 4000000 in
set_option maxRecDepth 100000 in
theorem furB_any (p : PatV) (fa : Option Addr) (fn : Nat) (x : FurV) (P : Nat) (w : World) (hw : 1 ≤ p.wide ∧ p.wide ≤ 96) (hg : 1 ≤ p.rings ∧ p.rings ≤ 24) (hX : w.heap[P]? = some (.cells (patA p fa fn) 24 (0, 0))) :
    Calls Tryz.prog 71 #[.agg (furA x), .pointer (some ⟨P, 0, none⟩)] w fun e w' => e = .returned (.bool (!furB p x)) ∧ Below w.heap.size w w' := by
  have N0 : Hid (inB x.at_ 0 (p.wide - 1) = false → furB p x = false) := Lib.hid (fun h => by unfold furB; rw [h]; simp)
  have N1 : Hid (inB x.from_ 0 (p.rings - 1) = false → furB p x = false) := Lib.hid (fun h => by unfold furB; rw [h]; simp)
  have N2 : Hid (inB x.lean (-96) 96 = false → furB p x = false) := Lib.hid (fun h => by unfold furB; rw [h]; simp)
  have N3 : Hid (inB x.leans 1 96 = false → furB p x = false) := Lib.hid (fun h => by unfold furB; rw [h]; simp)
  have N4 : Hid (inB x.steep 1 p.wide = false → furB p x = false) := Lib.hid (fun h => by unfold furB; rw [h]; simp)
  have N5 : Hid (inB x.feather 0 p.wide = false → furB p x = false) := Lib.hid (fun h => by unfold furB; rw [h]; simp)
  have NY : Hid (inB x.at_ 0 (p.wide - 1) = true → inB x.from_ 0 (p.rings - 1) = true → inB x.lean (-96) 96 = true → inB x.leans 1 96 = true → inB x.steep 1 p.wide = true → inB x.feather 0 p.wide = true → furB p x = decide (x.steep + x.feather < p.wide)) := Lib.hid (fun h0 h1 h2 h3 h4 h5 => by unfold furB; rw [h0, h1, h2, h3, h4, h5]; simp)
  have WW := Lib.hid (show wrap64 (p.wide - 1) = p.wide - 1 by unfold wrap64; omega)
  have WR := Lib.hid (show wrap64 (p.rings - 1) = p.rings - 1 by unfold wrap64; omega)
  have HB := Lib.hid (And.intro hw hg)
  have XPP := Lib.hid (fun W (hb : Below w.heap.size w W) => qblk hb hX)
  clear hw hg hX
  have AL := Lib.hid (al1 w (.cells (furA x) 76))
  go_enter Tryz.func71, Tryz.ntmps71
  go_upto_region 1 with fail
  obtain ⟨q, hq⟩ : ∃ q, Hid (w.heap.size = q) := ⟨_, Lib.hid rfl⟩
  rw [hq.out] at AL ⊢
  generalize (w.alloc (.cells (furA x) 76)) = W0 at *
  have BF : Hid (Below w.heap.size w W0) := Lib.hid (by rw [hq.out]; exact AL.out.1)
  have XU : Hid (W0.heap[q]? = some (.cells (furA x) 76 (0, 0))) := Lib.hid AL.out.2
  clear AL
  have u0 := qcell XU.out 0 (.int .i64 x.at_) rfl
  have u1 := qcell XU.out 1 (.int .i64 x.from_) rfl
  have u2 := qcell XU.out 2 (.int .i64 x.lean) rfl
  have u3 := qcell XU.out 3 (.int .i64 x.leans) rfl
  have u4 := qcell XU.out 4 (.int .i64 x.steep) rfl
  have u5 := qcell XU.out 5 (.int .i64 x.feather) rfl
  have XP := Lib.hid (XPP.out W0 BF.out)
  have c1 := qcell XP.out 1 (.int .i64 p.rings) rfl
  have c3 := qcell XP.out 3 (.int .i64 p.wide) rfl
  have ww := WW.out
  have wr := WR.out
  refine yB ?_
  refine yW (.pointer (some ⟨q, 0, none⟩)) ?_
  refine yW (.int .i64 x.at_) ?_
  refine yW (.pointer (some ⟨P, 3, none⟩)) ?_
  refine yW (.int .i64 p.wide) ?_
  refine yW (.int .i64 (p.wide - 1)) ?_ (.inl ⟨by kernel_rfl, by intro W hW; rw [hW]; go_simp; exact (IntWalk.i64_left _).trans WW.out⟩)
  refine yR (fun K hK => ?_)
  go_simp
  refine (within_any x.at_ 0 (p.wide - 1) _).mono ?_
  rintro e V1 ⟨rfl, rfl⟩
  cases h0 : inB x.at_ 0 (p.wide - 1)
  · have HN := Lib.hid (N0.out h0)
    clear h0
    try dsimp only
    refine yK hK ?_
    clear hK K
    refine yM (.bool true) ?_
    refine yM (.bool true) ?_
    go_skip
    refine yM (.bool true) ?_
    refine yM (.bool true) ?_
    go_skip
    refine yM (.bool true) ?_
    refine yM (.bool true) ?_
    go_skip
    refine yM (.bool true) ?_
    refine yM (.bool true) ?_
    go_skip
    refine yM (.bool true) ?_
    refine yM (.bool true) ?_
    go_skip
    refine yM (.bool true) ?_
    refine yM (.bool true) ?_
    go_skip
    refine yM (.bool true) ?_
    refine yM (.bool true) ?_
    refine yE ?_
    go_wp2_with fail
    go_ret
    exact ⟨by rw [HN.out]; rfl, BF.out⟩
  · have H0 := Lib.hid h0
    clear h0
    try dsimp only
    refine yK hK ?_
    clear hK K
    refine yM (.bool false) ?_
    refine yM (.bool false) ?_
    refine yW (.pointer (some ⟨q, 1, none⟩)) ?_
    refine yW (.int .i64 x.from_) ?_
    refine yW (.pointer (some ⟨P, 1, none⟩)) ?_
    refine yW (.int .i64 p.rings) ?_
    refine yW (.int .i64 (p.rings - 1)) ?_ (.inl ⟨by kernel_rfl, by intro W hW; rw [hW]; go_simp; exact (IntWalk.i64_left _).trans WR.out⟩)
    refine yR (fun K hK => ?_)
    go_simp
    refine (within_any x.from_ 0 (p.rings - 1) _).mono ?_
    rintro e V2 ⟨rfl, rfl⟩
    cases h1 : inB x.from_ 0 (p.rings - 1)
    · have HN := Lib.hid (N1.out h1)
      clear h1
      try dsimp only
      refine yK hK ?_
      clear hK K
      refine yM (.bool true) ?_
      refine yM (.bool true) ?_
      refine yM (.bool true) ?_
      go_skip
      refine yM (.bool true) ?_
      refine yM (.bool true) ?_
      go_skip
      refine yM (.bool true) ?_
      refine yM (.bool true) ?_
      go_skip
      refine yM (.bool true) ?_
      refine yM (.bool true) ?_
      go_skip
      refine yM (.bool true) ?_
      refine yM (.bool true) ?_
      go_skip
      refine yM (.bool true) ?_
      refine yM (.bool true) ?_
      refine yE ?_
      go_wp2_with fail
      go_ret
      exact ⟨by rw [HN.out]; rfl, BF.out⟩
    · have H1 := Lib.hid h1
      clear h1
      try dsimp only
      refine yK hK ?_
      clear hK K
      refine yM (.bool false) ?_
      refine yM (.bool false) ?_
      refine yM (.bool false) ?_
      refine yW (.pointer (some ⟨q, 2, none⟩)) ?_
      refine yW (.int .i64 x.lean) ?_
      refine yR (fun K hK => ?_)
      go_simp
      refine (within_any x.lean (-96) 96 _).mono ?_
      rintro e V3 ⟨rfl, rfl⟩
      cases h2 : inB x.lean (-96) 96
      · have HN := Lib.hid (N2.out h2)
        clear h2
        try dsimp only
        refine yK hK ?_
        clear hK K
        refine yM (.bool true) ?_
        refine yM (.bool true) ?_
        refine yM (.bool true) ?_
        go_skip
        refine yM (.bool true) ?_
        refine yM (.bool true) ?_
        go_skip
        refine yM (.bool true) ?_
        refine yM (.bool true) ?_
        go_skip
        refine yM (.bool true) ?_
        refine yM (.bool true) ?_
        go_skip
        refine yM (.bool true) ?_
        refine yM (.bool true) ?_
        refine yE ?_
        go_wp2_with fail
        go_ret
        exact ⟨by rw [HN.out]; rfl, BF.out⟩
      · have H2 := Lib.hid h2
        clear h2
        try dsimp only
        refine yK hK ?_
        clear hK K
        refine yM (.bool false) ?_
        refine yM (.bool false) ?_
        refine yM (.bool false) ?_
        refine yW (.pointer (some ⟨q, 3, none⟩)) ?_
        refine yW (.int .i64 x.leans) ?_
        refine yR (fun K hK => ?_)
        go_simp
        refine (within_any x.leans 1 96 _).mono ?_
        rintro e V4 ⟨rfl, rfl⟩
        cases h3 : inB x.leans 1 96
        · have HN := Lib.hid (N3.out h3)
          clear h3
          try dsimp only
          refine yK hK ?_
          clear hK K
          refine yM (.bool true) ?_
          refine yM (.bool true) ?_
          refine yM (.bool true) ?_
          go_skip
          refine yM (.bool true) ?_
          refine yM (.bool true) ?_
          go_skip
          refine yM (.bool true) ?_
          refine yM (.bool true) ?_
          go_skip
          refine yM (.bool true) ?_
          refine yM (.bool true) ?_
          refine yE ?_
          go_wp2_with fail
          go_ret
          exact ⟨by rw [HN.out]; rfl, BF.out⟩
        · have H3 := Lib.hid h3
          clear h3
          try dsimp only
          refine yK hK ?_
          clear hK K
          refine yM (.bool false) ?_
          refine yM (.bool false) ?_
          refine yM (.bool false) ?_
          refine yW (.pointer (some ⟨q, 4, none⟩)) ?_
          refine yW (.int .i64 x.steep) ?_
          refine yW (.pointer (some ⟨P, 3, none⟩)) ?_
          refine yW (.int .i64 p.wide) ?_
          refine yR (fun K hK => ?_)
          go_simp
          refine (within_any x.steep 1 p.wide _).mono ?_
          rintro e V5 ⟨rfl, rfl⟩
          cases h4 : inB x.steep 1 p.wide
          · have HN := Lib.hid (N4.out h4)
            clear h4
            try dsimp only
            refine yK hK ?_
            clear hK K
            refine yM (.bool true) ?_
            refine yM (.bool true) ?_
            refine yM (.bool true) ?_
            go_skip
            refine yM (.bool true) ?_
            refine yM (.bool true) ?_
            go_skip
            refine yM (.bool true) ?_
            refine yM (.bool true) ?_
            refine yE ?_
            go_wp2_with fail
            go_ret
            exact ⟨by rw [HN.out]; rfl, BF.out⟩
          · have H4 := Lib.hid h4
            clear h4
            try dsimp only
            refine yK hK ?_
            clear hK K
            refine yM (.bool false) ?_
            refine yM (.bool false) ?_
            refine yM (.bool false) ?_
            refine yW (.pointer (some ⟨q, 5, none⟩)) ?_
            refine yW (.int .i64 x.feather) ?_
            refine yW (.pointer (some ⟨P, 3, none⟩)) ?_
            refine yW (.int .i64 p.wide) ?_
            refine yR (fun K hK => ?_)
            go_simp
            refine (within_any x.feather 0 p.wide _).mono ?_
            rintro e V6 ⟨rfl, rfl⟩
            cases h5 : inB x.feather 0 p.wide
            · have HN := Lib.hid (N5.out h5)
              clear h5
              try dsimp only
              refine yK hK ?_
              clear hK K
              refine yM (.bool true) ?_
              refine yM (.bool true) ?_
              refine yM (.bool true) ?_
              go_skip
              refine yM (.bool true) ?_
              refine yM (.bool true) ?_
              refine yE ?_
              go_wp2_with fail
              go_ret
              exact ⟨by rw [HN.out]; rfl, BF.out⟩
            · have H5 := Lib.hid h5
              clear h5
              try dsimp only
              refine yK hK ?_
              clear hK K
              refine yM (.bool false) ?_
              refine yM (.bool false) ?_
              refine yM (.bool false) ?_
              refine yW (.pointer (some ⟨q, 4, none⟩)) ?_
              refine yW (.int .i64 x.steep) ?_
              refine yW (.pointer (some ⟨q, 5, none⟩)) ?_
              refine yW (.int .i64 x.feather) ?_
              have ws : wrap64 (x.steep + x.feather) = x.steep + x.feather := by
                have h4 := inB_true.1 H4.out
                have h5 := inB_true.1 H5.out
                have := HB.out
                unfold wrap64
                omega
              have HY := Lib.hid (NY.out H0.out H1.out H2.out H3.out H4.out H5.out)
              refine yW (.int .i64 (x.steep + x.feather)) ?_ (.inl ⟨by kernel_rfl, by intro W hW; rw [hW]; go_simp; exact (IntWalk.i64_left _).trans ws⟩)
              refine yW (.pointer (some ⟨P, 3, none⟩)) ?_
              refine yW (.int .i64 p.wide) ?_
              cases hs : decide (p.wide ≤ x.steep + x.feather)
              · have HN : Hid (furB p x = true) := Lib.hid (by rw [HY.out, decide_eq_true_eq]; have := of_decide_eq_false hs; omega)
                refine yW (.bool false) ?_
                refine yM (.bool false) ?_
                refine yM (.bool false) ?_
                refine yE ?_
                go_wp2_with fail
                go_ret
                exact ⟨by rw [HN.out]; rfl, BF.out⟩
              · have HN : Hid (furB p x = false) := Lib.hid (by rw [HY.out, decide_eq_false_iff_not]; have := of_decide_eq_true hs; omega)
                refine yW (.bool true) ?_
                refine yM (.bool true) ?_
                refine yM (.bool true) ?_
                refine yE ?_
                go_wp2_with fail
                go_ret
                exact ⟨by rw [HN.out]; rfl, BF.out⟩
set_option maxHeartbeats 4000000 in
set_option maxRecDepth 100000 in
theorem validP_any (p : PatV) (fa : Option Addr) (fn : Nat) (w : World) (hr : RdFu w fa p.furs.length fn p.furs) :
    Calls Tryz.prog 14 #[.agg (patA p fa fn)] w fun e w' => e = .returned (.bool p.valid) ∧ Below w.heap.size w w' := by
  have N0 : Hid (inB p.eye 1 16 = false → p.valid = false) := Lib.hid (fun h => by unfold PatV.valid; rw [h]; simp)
  have N1 : Hid (inB p.rings 1 24 = false → p.valid = false) := Lib.hid (fun h => by unfold PatV.valid; rw [h]; simp)
  have N2 : Hid (inB p.harps 1 96 = false → p.valid = false) := Lib.hid (fun h => by unfold PatV.valid; rw [h]; simp)
  have N3 : Hid (inB p.wide 1 96 = false → p.valid = false) := Lib.hid (fun h => by unfold PatV.valid; rw [h]; simp)
  have N4 : Hid (inB (p.harps * p.wide) 2 96 = false → p.valid = false) := Lib.hid (fun h => by unfold PatV.valid; rw [h]; simp)
  have N5 : Hid (¬ p.furs.length ≤ 16 → p.valid = false) := Lib.hid (fun h => by unfold PatV.valid; rw [decide_eq_false h]; simp)
  have NY : Hid (inB p.eye 1 16 = true → inB p.rings 1 24 = true → inB p.harps 1 96 = true → inB p.wide 1 96 = true → inB (p.harps * p.wide) 2 96 = true → p.furs.length ≤ 16 → p.valid = !(p.furs.any fun x => !furB p x)) := Lib.hid (fun h0 h1 h2 h3 h4 h5 => by unfold PatV.valid; rw [h0, h1, h2, h3, h4, decide_eq_true h5]; simp [List.all_eq_not_any_not])
  have HR := Lib.hid (fun W (hb : Below w.heap.size w W) => hr.below hb)
  clear hr
  have VFN := Lib.hid (show ∀ (args : Array Value) (w : World), (callFunc 71 args).run Tryz.prog w = .ok (.enter 71 args) w from fun args w => by kernel_rfl)
  have AL := Lib.hid (al1 w (.cells (patA p fa fn) 24))
  go_enter Tryz.func14, Tryz.ntmps14
  go_upto_region 1 with fail
  obtain ⟨q, hq⟩ : ∃ q, Hid (w.heap.size = q) := ⟨_, Lib.hid rfl⟩
  rw [hq.out] at AL ⊢
  generalize (w.alloc (.cells (patA p fa fn) 24)) = W0 at *
  have BF : Hid (Below w.heap.size w W0) := Lib.hid (by rw [hq.out]; exact AL.out.1)
  have XP : Hid (W0.heap[q]? = some (.cells (patA p fa fn) 24 (0, 0))) := Lib.hid AL.out.2
  clear AL
  have c0 := qcell XP.out 0 (.int .i64 p.eye) rfl
  have c1 := qcell XP.out 1 (.int .i64 p.rings) rfl
  have c2 := qcell XP.out 2 (.int .i64 p.harps) rfl
  have c3 := qcell XP.out 3 (.int .i64 p.wide) rfl
  have c4 := qcell XP.out 4 (.slice fa p.furs.length fn) rfl
  go_wp2_with (first
    | (refine wpList_load_row rfl 24 _ rfl q rfl 24 (patA p fa fn) (0, 0) _ XP.out Tryz.underlying24 rfl (by exact (qJP p fa fn)) ?_)
    | fail)
  refine (within_any p.eye 1 16 _).mono ?_
  rintro e V1 ⟨rfl, rfl⟩
  cases h0 : inB p.eye 1 16
  · have HN := Lib.hid (N0.out h0)
    clear h0
    go_wp2_with (first
      | (refine wpList_load_row rfl 24 _ rfl q rfl 24 (patA p fa fn) (0, 0) _ XP.out Tryz.underlying24 rfl (by exact (qJP p fa fn)) ?_)
      | fail)
    go_ret
    exact ⟨by rw [HN.out]; rfl, BF.out⟩
  have H0 := Lib.hid h0
  clear h0
  go_wp2_with (first
    | (refine wpList_load_row rfl 24 _ rfl q rfl 24 (patA p fa fn) (0, 0) _ XP.out Tryz.underlying24 rfl (by exact (qJP p fa fn)) ?_)
    | fail)
  refine (within_any p.rings 1 24 _).mono ?_
  rintro e V2 ⟨rfl, rfl⟩
  cases h1 : inB p.rings 1 24
  · have HN := Lib.hid (N1.out h1)
    clear h1
    go_wp2_with (first
      | (refine wpList_load_row rfl 24 _ rfl q rfl 24 (patA p fa fn) (0, 0) _ XP.out Tryz.underlying24 rfl (by exact (qJP p fa fn)) ?_)
      | fail)
    go_ret
    exact ⟨by rw [HN.out]; rfl, BF.out⟩
  have H1 := Lib.hid h1
  clear h1
  go_wp2_with (first
    | (refine wpList_load_row rfl 24 _ rfl q rfl 24 (patA p fa fn) (0, 0) _ XP.out Tryz.underlying24 rfl (by exact (qJP p fa fn)) ?_)
    | fail)
  refine (within_any p.harps 1 96 _).mono ?_
  rintro e V3 ⟨rfl, rfl⟩
  cases h2 : inB p.harps 1 96
  · have HN := Lib.hid (N2.out h2)
    clear h2
    go_wp2_with (first
      | (refine wpList_load_row rfl 24 _ rfl q rfl 24 (patA p fa fn) (0, 0) _ XP.out Tryz.underlying24 rfl (by exact (qJP p fa fn)) ?_)
      | fail)
    go_ret
    exact ⟨by rw [HN.out]; rfl, BF.out⟩
  have H2 := Lib.hid h2
  clear h2
  go_wp2_with (first
    | (refine wpList_load_row rfl 24 _ rfl q rfl 24 (patA p fa fn) (0, 0) _ XP.out Tryz.underlying24 rfl (by exact (qJP p fa fn)) ?_)
    | fail)
  refine (within_any p.wide 1 96 _).mono ?_
  rintro e V4 ⟨rfl, rfl⟩
  cases h3 : inB p.wide 1 96
  · have HN := Lib.hid (N3.out h3)
    clear h3
    go_wp2_with (first
      | (refine wpList_load_row rfl 24 _ rfl q rfl 24 (patA p fa fn) (0, 0) _ XP.out Tryz.underlying24 rfl (by exact (qJP p fa fn)) ?_)
      | fail)
    go_ret
    exact ⟨by rw [HN.out]; rfl, BF.out⟩
  have H3 := Lib.hid h3
  clear h3
  have ws : wrap64 (p.harps * p.wide) = p.harps * p.wide := by
    have h2 := inB_true.1 H2.out
    have h3 := inB_true.1 H3.out
    have h5 : p.harps * p.wide ≤ 96 * 96 := Int.mul_le_mul (by omega) (by omega) (by omega) (by omega)
    have h6 := Int.mul_nonneg (show 0 ≤ p.harps by omega) (show 0 ≤ p.wide by omega)
    unfold wrap64
    omega
  go_wp2_with (first
    | (refine wpList_load_row rfl 24 _ rfl q rfl 24 (patA p fa fn) (0, 0) _ XP.out Tryz.underlying24 rfl (by exact (qJP p fa fn)) ?_)
    | fail)
  refine (within_any (p.harps * p.wide) 2 96 _).mono ?_
  rintro e V5 ⟨rfl, rfl⟩
  cases h4 : inB (p.harps * p.wide) 2 96
  · have HN := Lib.hid (N4.out h4)
    clear h4
    go_wp2_with (first
      | (refine wpList_load_row rfl 24 _ rfl q rfl 24 (patA p fa fn) (0, 0) _ XP.out Tryz.underlying24 rfl (by exact (qJP p fa fn)) ?_)
      | fail)
    go_ret
    exact ⟨by rw [HN.out]; rfl, BF.out⟩
  have H4 := Lib.hid h4
  clear h4
  cases h5 : decide ((16 : Int) < (p.furs.length : Int))
  case true =>
    have HN := Lib.hid (N5.out (by have := of_decide_eq_true h5; omega))
    go_wp2_with (first
      | (refine wpList_load_row rfl 24 _ rfl q rfl 24 (patA p fa fn) (0, 0) _ XP.out Tryz.underlying24 rfl (by exact (qJP p fa fn)) ?_)
      | fail)
    go_ret
    exact ⟨by rw [HN.out]; rfl, BF.out⟩
  have HY := Lib.hid (NY.out H0.out H1.out H2.out H3.out H4.out (by have := of_decide_eq_false h5; omega))
  have HW := Lib.hid (And.intro (inB_true.1 H3.out) (inB_true.1 H1.out))
  clear N0 N1 N2 N3 N4 N5 NY
  go_wp2_with (first
    | (refine wpList_load_row rfl 24 _ rfl q rfl 24 (patA p fa fn) (0, 0) _ XP.out Tryz.underlying24 rfl (by exact (qJP p fa fn)) ?_)
    | fail)
  refine (containsU_any p.furs (fun x => !furB p x) 71 (.pointer (some ⟨q, 0, none⟩)) VFN.out fa p.furs.length fn _ (HR.out _ BF.out) (fun x _ W hb => furB_any p fa fn x q W HW.out.1 HW.out.2 (qblk hb XP.out))).mono ?_
  rintro e V9 ⟨rfl, b⟩
  replace BF := Lib.hid (BF.out.trans (b.mono BF.out.size))
  clear b
  go_wp2_with fail
  go_ret
  exact ⟨by rw [HY.out]; rfl, BF.out⟩
end Go.Proofs.YtimmadkbkimonaaGreatDoor
namespace Go.Proofs.YtimmadkbkimonaaGreatDoor
set_option linter.unusedSimpArgs false
set_option linter.unusedVariables false
open Go.RowKit

theorem qfroz {W : World} {p : Nat} {A : Array Value} {t : TypeId} (h : W.heap[p]? = some (.cells A t (0, 0))) (j : Nat) : W.frozen? ⟨p, j, none⟩ = false := by
  simp [World.frozen?, h]
theorem qput_at {w : World} {p : Nat} {c : Array Value} {t : TypeId} {fr : Nat × Nat} (h : w.heap[p]? = some (.cells c t fr)) (j : Nat) (v : Value) : (w.setCell ⟨p, j, none⟩ v).heap[p]? = some (.cells (c.setIfInBounds j v) t fr) := by
  simp only [World.setCell, Array.getElem?_modify, h]
  simp
theorem qput_grown (w : World) (p j : Nat) (v : Value) : w.grownBy (w.setCell ⟨p, j, none⟩ v) (some p) :=
  ⟨rfl, rfl, rfl, by simp [World.setCell], fun k _ hk => Below.heap_setCell _ _ _ _ (fun e => hk (by rw [e]))⟩
theorem qown_no {w : World} {base : Nat} {e : TypeId} {size : Nat} {v : Value} {n : Nat} {xs : List Value} {p : Nat} {o : Obj} (h : w.ownsRow base e size v n xs) (hp : w.heap[p]? = some o) (ho : ∀ cur, o ≠ .cells cur e (0, 0)) : some p ≠ v.ownBlock := by
  rcases h.2 with ⟨rfl, _⟩ | ⟨g, cap, cur, rfl, _, hg, _⟩
  · simp [Value.ownBlock]
  · intro e1
    have e2 : p = g := Option.some.inj e1
    subst e2
    rw [hp] at hg
    exact ho cur (Option.some.inj hg)
theorem qinfoI : (Tryz.prog.info? 3).map (fun i => (i.zero, i.size, i.bytes)) = some (some (.int .i64 0), 1, 8) := by kernel_rfl
theorem qinfoC : (Tryz.prog.info? 41).map (fun i => (i.zero, i.size, i.bytes)) = some (some (.agg #[.int .i64 0, .int .i64 0]), 2, 16) := by kernel_rfl
def cellsV (l : List CellV) : List Value := l.flatMap fun c => [.int .i64 c.1, .int .i64 c.2]
theorem cellsV_len : ∀ l : List CellV, (cellsV l).length = l.length * 2
  | [] => rfl
  | c :: l => by
    have := cellsV_len l
    unfold cellsV at this ⊢
    rw [List.flatMap_cons, List.length_append, this]
    simp
    omega
theorem cellsV_at : ∀ (l : List CellV) (k : Nat) (c : CellV), l[k]? = some c → (cellsV l)[k * 2]? = some (.int .i64 c.1) ∧ (cellsV l)[k * 2 + 1]? = some (.int .i64 c.2)
  | [], k, c, h => by simp at h
  | d :: l, 0, c, h => by
    simp at h
    subst h
    exact ⟨rfl, rfl⟩
  | d :: l, k + 1, c, h => by
    have := cellsV_at l k c (by simpa using h)
    rw [show (k + 1) * 2 = k * 2 + 2 by omega]
    exact this
def RdC (w : World) (a : Option Addr) (n c : Nat) (l : List CellV) : Prop := RdA w 2 a n c (cellsV l)
theorem app_ints (w : World) {ops : Array Oper} {rest : List Oper} {o : Oper} {a : Act} {Q : Exit → Act → World → Prop} (hgd : o.guard = none) (s x : Operand)
    (ho : o.op = .call { callee := .builtin .append, args := #[s, x], argTypes := #[26, 26] }) (base : Nat)
    (sa : Option Addr) (sn sc : Nat) (xs : List Int) (hs : a.eval s = .slice sa sn sc) (hown : w.ownsRow base 3 1 (.slice sa sn sc) sn (xs.map intV))
    (xa : Option Addr) (m xc : Nat) (ys : List Int) (hx : a.eval x = .slice xa m xc) (hrd : RdI w xa m xc ys) (hbytes : (sn + m) * 8 ≤ 140737488355328) (hbase : base ≤ w.heap.size)
    (h : ∀ a' c' w', w'.ownsRow base 3 1 (.slice a' (sn + m) c') (sn + m) ((xs ++ ys).map intV) → w.grownBy w' (Value.ownBlock (.slice sa sn sc)) → wpList Tryz.prog ops Q rest (a.put o.dst (.slice a' (sn + m) c')) w') :
    wpList Tryz.prog ops Q (o :: rest) a w := by
  obtain ⟨i, hi, hz0, hz1, hz2⟩ := info_parts qinfoI
  exact wpList_append_rd w hgd s x 26 ho base 3 i _ 1 8 Tryz.underlying26 hi hz0 hz1 hz2 rfl (by decide) sa sn sc _ hs hown xa m xc _ hx hrd (intV_one _) (by unfold maxLen; omega) (by omega) hbase
    (fun a' c' w' h1 h2 => h a' c' w' (by rw [List.map_append]; exact h1) h2)
theorem cellsV_one (l : List CellV) : ∀ u ∈ cellsV l, u.oneCell' = true := by
  intro u hu
  obtain ⟨c, _, hc⟩ := List.mem_flatMap.1 hu
  simp at hc
  rcases hc with rfl | rfl <;> rfl
theorem app_cells (w : World) {ops : Array Oper} {rest : List Oper} {o : Oper} {a : Act} {Q : Exit → Act → World → Prop} (hgd : o.guard = none) (s x : Operand)
    (ho : o.op = .call { callee := .builtin .append, args := #[s, x], argTypes := #[44, 44] }) (base : Nat)
    (sa : Option Addr) (sn sc : Nat) (xs : List CellV) (hs : a.eval s = .slice sa sn sc) (hown : w.ownsRow base 41 2 (.slice sa sn sc) sn (cellsV xs))
    (xa : Option Addr) (m xc : Nat) (ys : List CellV) (hx : a.eval x = .slice xa m xc) (hrd : RdC w xa m xc ys) (hbytes : (sn + m) * 16 ≤ 140737488355328) (hbase : base ≤ w.heap.size)
    (h : ∀ a' c' w', w'.ownsRow base 41 2 (.slice a' (sn + m) c') (sn + m) (cellsV (xs ++ ys)) → w.grownBy w' (Value.ownBlock (.slice sa sn sc)) → wpList Tryz.prog ops Q rest (a.put o.dst (.slice a' (sn + m) c')) w') :
    wpList Tryz.prog ops Q (o :: rest) a w := by
  obtain ⟨i, hi, hz0, hz1, hz2⟩ := info_parts qinfoC
  exact wpList_append_rd w hgd s x 44 ho base 41 i _ 2 16 Tryz.underlying44 hi hz0 hz1 hz2 rfl (by decide) sa sn sc _ hs hown xa m xc _ hx hrd (cellsV_one _) (by unfold maxLen; omega) (by omega) hbase
    (fun a' c' w' h1 h2 => h a' c' w' (by unfold cellsV; rw [List.flatMap_append]; exact h1) h2)
theorem lit_cell (W : World) (c : CellV) : RdC (W.alloc (.cells #[.int .i64 c.1, .int .i64 c.2] 41)) (some ⟨W.heap.size, 0, none⟩) 1 1 [c] :=
  RdA.of_own (World.ownsRow_lit (base := W.heap.size) (e := 41) (size := 2) W #[.int .i64 c.1, .int .i64 c.2] 1 (Nat.le_refl _) (by unfold maxLen; omega) rfl)
theorem lit_int (W : World) (x : Int) : RdI (W.alloc (.cells #[.int .i64 x] 3)) (some ⟨W.heap.size, 0, none⟩) 1 1 [x] :=
  RdA.of_own (World.ownsRow_lit (base := W.heap.size) (e := 3) (size := 1) W #[.int .i64 x] 1 (Nat.le_refl _) (by unfold maxLen; omega) rfl)
theorem run_app_i (w : World) (base : Nat) (sa : Option Addr) (sn sc : Nat) (xs : List Int) (hown : w.ownsRow base 3 1 (.slice sa sn sc) sn (xs.map intV)) (xa : Option Addr) (m xc : Nat) (ys : List Int) (hrd : RdI w xa m xc ys)
    (hbytes : (sn + m) * 8 ≤ 140737488355328) (hbase : base ≤ w.heap.size) :
    ∃ a' c' w', (Builtin.append_ #[26, 26] 26 #[.slice sa sn sc, .slice xa m xc]).run Tryz.prog w = .ok (.slice a' (sn + m) c') w' ∧ w'.ownsRow base 3 1 (.slice a' (sn + m) c') (sn + m) ((xs ++ ys).map intV) ∧ w.grownBy w' (Value.ownBlock (.slice sa sn sc)) := by
  obtain ⟨i, hi, hz0, hz1, hz2⟩ := info_parts qinfoI
  rw [List.map_append]
  exact run_append_rd w base 26 26 3 i _ 1 8 Tryz.underlying26 hi hz0 hz1 hz2 rfl (by decide) sa sn sc _ hown xa m xc _ hrd (intV_one _) (by unfold maxLen; omega) hbytes hbase
theorem own_put {w : World} {base g n c : Nat} {xs : List Int} (h : w.ownsRow base 3 1 (.slice (some ⟨g, 0, none⟩) n c) n (xs.map intV)) {k : Nat} (hk : k < n) (x : Int) :
    (w.setCell ⟨g, k, none⟩ (.int .i64 x)).ownsRow base 3 1 (.slice (some ⟨g, 0, none⟩) n c) n ((xs.set k x).map intV) ∧ w.cell? ⟨g, k, none⟩ = some (.int .i64 (xs[k]?.getD 0)) ∧ w.frozen? ⟨g, k, none⟩ = false ∧ base ≤ g := by
  obtain ⟨h1, h2⟩ := h
  rcases h2 with ⟨h2, _⟩ | ⟨g', cap, cur, hv, hb, hg, hn, hc, hs, ht⟩
  · cases h2
  · simp only [Value.slice.injEq, Option.some.injEq, Addr.mk.injEq] at hv
    obtain ⟨⟨rfl, _, _⟩, _, rfl⟩ := hv
    have hl : xs.length = n := by simpa using h1
    refine ⟨⟨by simpa using h1, .inr ⟨g, c, cur.setIfInBounds k (.int .i64 x), rfl, hb, qput_at hg k _, hn, hc, by simpa using hs, ?_⟩⟩, ?_, qfroz hg k, hb⟩
    · rw [Array.toList_setIfInBounds, List.take_set, ht, List.map_set]
      rfl
    · have hck : cur[k]? = some (.int .i64 (xs[k]?.getD 0)) := by
        have e : (cur.toList.take (n * 1))[k]? = (xs.map intV)[k]? := by rw [ht]
        rw [List.getElem?_take, if_pos (by omega), List.getElem?_map] at e
        cases hx : xs[k]? with
        | none => rw [List.getElem?_eq_none_iff] at hx; omega
        | some v =>
          rw [hx] at e
          have e2 : cur[k]? = some (intV v) := by simpa using e
          exact e2
      exact qcell hg k _ hck
set_option maxHeartbeats 4000000 in
set_option maxRecDepth 100000 in
theorem cloneZ_any (a : Option Addr) (n c : Nat) (l : List Int) (w : World) (hn : n ≤ 1000000) (hr : RdI w a n c l) :
    Calls Tryz.prog 96 #[.slice a n c] w fun e w' => ∃ a' c', e = .returned (.slice a' n c') ∧ w'.ownsRow w.heap.size 3 1 (.slice a' n c') n (l.map intV) ∧ Below w.heap.size w w' := by
  have hnc := RdA.le hr
  by_cases ha : a = none
  · subst ha
    have hc : n = 0 ∧ c = 0 := by
      rcases hr.2.2.2 with h | ⟨b, off, h, _⟩
      · omega
      · cases h
    obtain ⟨rfl, rfl⟩ := hc
    have hl : l = [] := List.eq_nil_of_length_eq_zero (RdI.len hr)
    subst hl
    clear hr hnc
    have heq : ∀ w, (binOp .eql 26 (.slice none 0 0) (.slice none 0 0)).run Tryz.prog w = .ok (.bool true) w := fun w => Lib.run_eql_slice_nil (P := Tryz.prog) w 26 3 none 0 0 0 0 Tryz.underlying26
    go_enter Tryz.func96, Tryz.ntmps96
    go_wp2
    go_ret
    exact ⟨_, _, rfl, World.ownsRow_nil _ _ _ _, Below.refl _ _⟩
  · obtain ⟨ad, rfl⟩ := Option.ne_none_iff_exists'.1 ha
    clear ha
    have heq : ∀ w, (binOp .eql 26 (.slice (some ad) n c) (.slice none 0 0)).run Tryz.prog w = .ok (.bool false) w := fun w => Lib.run_eql_slice_nil (P := Tryz.prog) w 26 3 (some ad) n c 0 0 Tryz.underlying26
    have hown := World.ownsRow_lit (base := w.heap.size) (e := 3) (size := 1) w #[] 0 (Nat.le_refl _) (by unfold maxLen; omega) rfl
    have hr1 := hr.below ((Below.refl w.heap.size w).alloc (Nat.le_refl _) (Obj.cells #[] 3))
    go_enter Tryz.func96, Tryz.ntmps96
    go_wp2_with (at_builtin; refine app_ints _ rfl _ _ rfl w.heap.size _ _ _ [] rfl hown _ _ _ l rfl hr1 (by omega) (by simp) ?_)
    intro a' c' w' h1 h2
    go_wp2
    go_ret
    exact ⟨_, _, rfl, h1, ((Below.refl _ _).alloc (Nat.le_refl _) _).grown h2 (by simp) (fun k hk => by simp [Value.ownBlock] at hk; omega)⟩
theorem appq_cells (w : World) {ops : Array Oper} {rest : List Oper} {o : Oper} {a : Act} {Q : Exit → Act → World → Prop} (hgd : o.guard = none) (s x : Operand)
    (ho : o.op = .call { callee := .builtin .append, args := #[s, x], argTypes := #[44, 44] }) (base : Nat)
    (sa : Option Addr) (sn sc : Nat) (xs : List CellV) (hs : a.eval s = .slice sa sn sc) (hown : w.ownsRow base 41 2 (.slice sa sn sc) sn (cellsV xs))
    (xa : Option Addr) (m xc : Nat) (ys : List CellV) (hx : a.eval x = .slice xa m xc) (hrd : RdC w xa m xc ys) (hbytes : (sn + m) * 16 ≤ 140737488355328) (hbase : base ≤ w.heap.size)
    (h : ∀ a' c' w', w'.ownsRow base 41 2 (.slice a' (sn + m) c') (sn + m) (cellsV (xs ++ ys)) → (∀ (p : Nat) (ob : Obj), w.heap[p]? = some ob → (∀ cur, ob ≠ .cells cur 41 (0, 0)) → w'.heap[p]? = some ob) → (∀ W, Below base W w → Below base W w') → wpList Tryz.prog ops Q rest (a.put o.dst (.slice a' (sn + m) c')) w') :
    wpList Tryz.prog ops Q (o :: rest) a w :=
  app_cells w hgd s x ho base sa sn sc xs hs hown xa m xc ys hx hrd hbytes hbase fun a' c' w' h1 h2 => h a' c' w' h1 (fun p o hp ho => qgrown h2 hp (qown_no hown hp ho)) (fun W hb => hb.grown h2 hbase (fun k e => (hown.lt k e).1))
theorem qappend {P : Program} {op : Oper} {a : Act} {w w' : World} {K : Act → World → Prop} {Q : Exit → Act → World → Prop} (s x : Operand) (t : TypeId) (ho : op.op = .call { callee := .builtin .append, args := #[s, x], argTypes := #[t, t] }) (v1 v2 v : Value)
    (hs : a.eval s = v1) (hx : a.eval x = v2) (hr : (Builtin.append_ #[t, t] op.type #[v1, v2]).run P w = .ok v w') (h : K (a.put op.dst v) w') : op.wp P a w K Q := by
  unfold Oper.wp
  simp [execOp, ho, resolve, invoke, builtin, hs, hx, hr, Result.andThen]
  exact h
theorem run_app_q (w : World) (base : Nat) (sa : Option Addr) (sn sc : Nat) (xs : List Int) (hown : w.ownsRow base 3 1 (.slice sa sn sc) sn (xs.map intV)) (xa : Option Addr) (m xc : Nat) (ys : List Int) (hrd : RdI w xa m xc ys)
    (hbytes : (sn + m) * 8 ≤ 140737488355328) (hbase : base ≤ w.heap.size) :
    ∃ a' c' w', (Builtin.append_ #[26, 26] 26 #[.slice sa sn sc, .slice xa m xc]).run Tryz.prog w = .ok (.slice a' (sn + m) c') w' ∧ w'.ownsRow base 3 1 (.slice a' (sn + m) c') (sn + m) ((xs ++ ys).map intV) ∧
      (∀ (p : Nat) (ob : Obj), w.heap[p]? = some ob → (∀ cur, ob ≠ .cells cur 3 (0, 0)) → w'.heap[p]? = some ob) ∧ (∀ W, Below base W w → Below base W w') := by
  obtain ⟨a', c', w', h1, h2, h3⟩ := run_app_i w base sa sn sc xs hown xa m xc ys hrd hbytes hbase
  exact ⟨a', c', w', h1, h2, fun p o hp ho => qgrown h3 hp (qown_no hown hp ho), fun W hb => hb.grown h3 hbase (fun k e => (hown.lt k e).1)⟩
end Go.Proofs.YtimmadkbkimonaaGreatDoor
namespace Go.Proofs.YtimmadkbkimonaaGreatDoor
set_option linter.unusedSimpArgs false
set_option linter.unusedVariables false
open Go.RowKit

theorem cellsF_succ (f : FaceV) (K : Int) (k : Nat) : cellsF f K (k + 1) = cellsF f K k ++ (if f.kat k = K then [cellF f k] else []) := by
  unfold cellsF
  rw [List.range_succ, List.filterMap_append]
  congr 1
  by_cases h : f.kat k = K
  · rw [if_pos h, List.filterMap_cons, if_pos h]; rfl
  · rw [if_neg h, List.filterMap_cons, if_neg h]; rfl
theorem cellsF_len (f : FaceV) (K : Int) (k : Nat) : (cellsF f K k).length ≤ k := by
  unfold cellsF
  refine Nat.le_trans (List.length_filterMap_le _ _) ?_
  rw [List.length_range]
  exact Nat.le_refl _
theorem FaceV.len_le {f : FaceV} (h : f.valid = true) : f.kinds.length ≤ 2304 := by
  have h2 := FaceV.int h
  have h3 : f.rings * f.sectors ≤ 24 * 96 := Int.mul_le_mul (by omega) (by omega) (by omega) (by omega)
  omega
theorem FaceV.kat_at {f : FaceV} {k : Nat} (h : k < f.kinds.length) : f.kinds[k]? = some (f.kat k) := by
  unfold FaceV.kat
  rw [List.getElem?_eq_getElem h]
  rfl
set_option maxHeartbeats 4000000 in
set_option maxRecDepth 100000 in
theorem cellsP_any (f : FaceV) (a : Option Addr) (n : Nat) (K : Int) (w : World) (hr : RdI w a f.kinds.length n f.kinds) :
    Calls Tryz.prog 61 #[.agg (f.cells a n), .int .i64 K] w fun e w' => ∃ oa oc, e = .returned (.tuple #[.slice oa (cellsP f K).1.length oc, .int .i64 (cellsP f K).2]) ∧ w'.ownsRow w.heap.size 41 2 (.slice oa (cellsP f K).1.length oc) (cellsP f K).1.length (cellsV (cellsP f K).1) ∧ Below w.heap.size w w' := by
  have AV := Lib.hid (fun W (hb : Below w.heap.size w W) => valid2_any f a n W (hr.below hb))
  have HR := Lib.hid (fun W (hb : Below w.heap.size w W) => hr.below hb)
  clear hr
  have AL := Lib.hid (al1 w (.cells (f.cells a n) 28))
  go_enter Tryz.func61, Tryz.ntmps61
  go_upto_region 1 with fail
  obtain ⟨p, hp⟩ : ∃ p, Hid (w.heap.size = p) := ⟨_, Lib.hid rfl⟩
  rw [hp.out] at AL ⊢
  generalize (w.alloc (.cells (f.cells a n) 28)) = W0 at *
  have BF : Hid (Below w.heap.size w W0) := Lib.hid (by rw [hp.out]; exact AL.out.1)
  have XF : Hid (W0.heap[p]? = some (.cells (f.cells a n) 28 (0, 0))) := Lib.hid AL.out.2
  clear AL
  have c0 := qcell XF.out 0 (.int .i64 f.eye) rfl
  have c1 := qcell XF.out 1 (.int .i64 f.rings) rfl
  have c2 := qcell XF.out 2 (.int .i64 f.sectors) rfl
  have c3 := qcell XF.out 3 (.slice a f.kinds.length n) rfl
  go_wp2_with (first
    | (refine wpList_load_row rfl 28 _ rfl p rfl 28 (f.cells a n) (0, 0) _ XF.out Tryz.underlying28 rfl (by exact (qJF f a n)) ?_)
    | fail)
  refine (AV.out W0 BF.out).mono ?_
  rintro e V1 ⟨rfl, b⟩
  clear c0 c1 c2 c3
  replace BF := Lib.hid (BF.out.trans (b.mono BF.out.size))
  replace XF := Lib.hid (qblk b XF.out)
  clear b
  have c0 := qcell XF.out 0 (.int .i64 f.eye) rfl
  have c1 := qcell XF.out 1 (.int .i64 f.rings) rfl
  have c2 := qcell XF.out 2 (.int .i64 f.sectors) rfl
  have c3 := qcell XF.out 3 (.slice a f.kinds.length n) rfl
  cases hv : f.valid
  · go_wp2_with (first
      | (refine wpList_load_row rfl 28 _ rfl p rfl 28 (f.cells a n) (0, 0) _ XF.out Tryz.underlying28 rfl (by exact (qJF f a n)) ?_)
      | fail)
    go_ret2
    unfold cellsP
    rw [if_pos hv]
    exact ⟨none, 0, rfl, World.ownsRow_nil _ _ _ _, BF.out⟩
  · have IV := Lib.hid (FaceV.int hv)
    have LL := Lib.hid (FaceV.len_le hv)
    go_wp2_with (first
      | (refine wpList_load_row rfl 28 _ rfl p rfl 28 (f.cells a n) (0, 0) _ XF.out Tryz.underlying28 rfl (by exact (qJF f a n)) ?_)
      | fail)
    refine (kind_any K V1).mono ?_
    rintro e V2 ⟨rfl, rfl⟩
    cases hb : kindB K
    · go_wp2_with (first
        | (refine wpList_load_row rfl 28 _ rfl p rfl 28 (f.cells a n) (0, 0) _ XF.out Tryz.underlying28 rfl (by exact (qJF f a n)) ?_)
        | fail)
      go_ret2
      unfold cellsP
      rw [if_neg (by rw [hv]; decide), if_pos hb]
      exact ⟨none, 0, rfl, World.ownsRow_nil _ _ _ _, BF.out⟩
    · have HB := Lib.hid hb
      have HV := Lib.hid hv
      clear hb hv
      go_wp2_with (first
        | (refine wpList_load_row rfl 28 _ rfl p rfl 28 (f.cells a n) (0, 0) _ XF.out Tryz.underlying28 rfl (by exact (qJF f a n)) ?_)
        | fail)
      clear c0 c1 c2 c3
      go_loopw [6, 20] (fun o i wr => ∃ (k : Nat) (oa : Option Addr) (oc : Nat), i = .int .i64 k ∧ o = .slice oa (cellsF f K k).length oc ∧ k ≤ f.kinds.length ∧ Hid (wr.ownsRow w.heap.size 41 2 (.slice oa (cellsF f K k).length oc) (cellsF f K k).length (cellsV (cellsF f K k))) ∧ Hid (Below w.heap.size w wr) ∧ Hid (wr.heap[p]? = some (.cells (f.cells a n) 28 (0, 0)))) (fun _ i _ => f.kinds.length - (intOf i).toNat)
      case atStart => exact ⟨0, none, 0, rfl, rfl, Nat.zero_le _, Lib.hid (World.ownsRow_nil _ _ _ _), BF, XF⟩
      case round =>
        clear BF XF
        obtain ⟨k, oa, oc, rfl, rfl, hk, OW, BF, XF⟩ := hrel
        by_cases hkn : k < f.kinds.length
        · have t0 : decide ((k : Int) < (f.kinds.length : Int)) = true := by simp; omega
          obtain ⟨b, off, rfl, hx⟩ := (HR.out _ BF.out).get (FaceV.kat_at hkn)
          have hk64 : (k : Int) + 1 ≤ 9223372036854775807 := by have := LL.out; omega
          have HL := Lib.hid (cellsF_len f K k)
          obtain ⟨y, hy⟩ : ∃ y, Hid (f.kat k = y) := ⟨_, Lib.hid rfl⟩
          rw [hy.out] at hx
          have c0 := qcell XF.out 0 (.int .i64 f.eye) rfl
          have c1 := qcell XF.out 1 (.int .i64 f.rings) rfl
          have c2 := qcell XF.out 2 (.int .i64 f.sectors) rfl
          have c3 := qcell XF.out 3 (.slice (some ⟨b, off, none⟩) f.kinds.length n) rfl
          cases he : decide (y = K)
          · have he2 : (y == K) = false := by simpa using he
            go_wp2_with (first
              | (refine wpList_load_row rfl 28 _ rfl p rfl 28 (f.cells (some ⟨b, off, none⟩) n) (0, 0) _ XF.out Tryz.underlying28 rfl (by exact (qJF f (some ⟨b, off, none⟩) n)) ?_)
              | fail)
            go_roundw
            case rel =>
              have e : cellsF f K (k + 1) = cellsF f K k := by rw [cellsF_succ, hy.out, if_neg (by simpa using he), List.append_nil]
              refine ⟨k + 1, oa, oc, by simp, by rw [e], by omega, ?_, BF, XF⟩
              rw [e]
              exact OW
            case measure => simp [intOf]; omega
          · have he2 : (y == K) = true := by simpa using he
            have HLL : Hid ((cellsF f K k).length + 1 ≤ 2305) := Lib.hid (by have := HL.out; have := LL.out; omega)
            go_wp2_with (first
              | (refine wpList_load_row rfl 28 _ rfl p rfl 28 (f.cells (some ⟨b, off, none⟩) n) (0, 0) _ XF.out Tryz.underlying28 rfl (by exact (qJF f (some ⟨b, off, none⟩) n)) ?_)
              | fail)
            refine (cellOf_any f (some ⟨b, off, none⟩) n k wr (by have := IV.out; omega) (by have := LL.out; omega)).mono ?_
            rintro e V3 ⟨rfl, b2⟩
            replace OW := Lib.hid (own_below OW.out b2)
            clear hx
            have HK64 := Lib.hid hk64
            clear hk64
            clear c0 c1 c2 c3
            replace BF := Lib.hid (BF.out.trans (b2.mono BF.out.size))
            replace XF := Lib.hid (qblk b2 XF.out)
            clear b2
            have c0 := qcell XF.out 0 (.int .i64 f.eye) rfl
            have c1 := qcell XF.out 1 (.int .i64 f.rings) rfl
            have c2 := qcell XF.out 2 (.int .i64 f.sectors) rfl
            have c3 := qcell XF.out 3 (.slice (some ⟨b, off, none⟩) f.kinds.length n) rfl
            go_upto_region 11 with (first
              | (refine wpList_load_row rfl 28 _ rfl p rfl 28 (f.cells (some ⟨b, off, none⟩) n) (0, 0) _ XF.out Tryz.underlying28 rfl (by exact (qJF f (some ⟨b, off, none⟩) n)) ?_)
              | (at_builtin; refine appq_cells _ rfl _ _ rfl w.heap.size _ _ _ (cellsF f K k) rfl (own_below OW.out (zB V3 _)) _ _ _ [cellF f k] rfl (lit_cell V3 (cellF f k)) (by have := HLL.out; omega) (Nat.le_trans BF.out.size (zB V3 _).size) ?_; intro oa2 oc2 V4 h1 h2 h3; clear c0 c1 c2 c3; replace BF := Lib.hid (h3 _ (BF.out.trans ((zB V3 _).mono BF.out.size))); replace XF := Lib.hid (h2 _ _ (qblk (zB V3 _) XF.out) (by simp)); replace OW := Lib.hid h1; clear h1 h2 h3; have c0 := qcell XF.out 0 (.int .i64 f.eye) rfl; have c1 := qcell XF.out 1 (.int .i64 f.rings) rfl; have c2 := qcell XF.out 2 (.int .i64 f.sectors) rfl; have c3 := qcell XF.out 3 (.slice (some ⟨b, off, none⟩) f.kinds.length n) rfl)
              | fail)
            have hk64 := HK64.out
            go_wp2_with (first
              | (refine wpList_load_row rfl 28 _ rfl p rfl 28 (f.cells (some ⟨b, off, none⟩) n) (0, 0) _ XF.out Tryz.underlying28 rfl (by exact (qJF f (some ⟨b, off, none⟩) n)) ?_)
              | fail)
            go_roundw
            case rel =>
              have e : cellsF f K (k + 1) = cellsF f K k ++ [cellF f k] := by rw [cellsF_succ, hy.out, if_pos (by simpa using he)]
              refine ⟨k + 1, oa2, oc2, by simp, by rw [e, List.length_append]; rfl, by omega, ?_, BF, XF⟩
              rw [e, List.length_append]
              exact OW
            case measure => simp [intOf]; omega
        · have t0 : decide ((k : Int) < (f.kinds.length : Int)) = false := by simp; omega
          have e : k = f.kinds.length := by omega
          subst e
          have c0 := qcell XF.out 0 (.int .i64 f.eye) rfl
          have c1 := qcell XF.out 1 (.int .i64 f.rings) rfl
          have c2 := qcell XF.out 2 (.int .i64 f.sectors) rfl
          have c3 := qcell XF.out 3 (.slice a f.kinds.length n) rfl
          go_wp2_with (first
            | (refine wpList_load_row rfl 28 _ rfl p rfl 28 (f.cells a n) (0, 0) _ XF.out Tryz.underlying28 rfl (by exact (qJF f a n)) ?_)
            | fail)
          go_ret2
          unfold cellsP
          rw [if_neg (by rw [HV.out]; decide), if_neg (by rw [HB.out]; decide)]
          exact ⟨oa, oc, rfl, OW.out, BF.out⟩
set_option maxHeartbeats 4000000 in
set_option maxRecDepth 100000 in
theorem areaP_any (f : FaceV) (a : Option Addr) (n : Nat) (K : Int) (w : World) (hr : RdI w a f.kinds.length n f.kinds) :
    Calls Tryz.prog 63 #[.agg (f.cells a n), .int .i64 K] w fun e w' => e = .returned (.tuple #[.int .i64 (areaP f K).1, .int .i64 (areaP f K).2]) ∧ Below w.heap.size w w' := by
  have CA := Lib.hid (fun W (hb : Below w.heap.size w W) => cellsP_any f a n K W (hr.below hb))
  have LL : Hid ((cellsP f K).1.length ≤ 2304) := Lib.hid (by
    unfold cellsP
    by_cases hv : f.valid = true
    · rw [if_neg (by rw [hv]; decide)]
      split
      · simp
      · exact Nat.le_trans (cellsF_len _ _ _) (FaceV.len_le hv)
    · rw [if_pos (by simpa using hv)]
      simp)
  have WG : Hid (∀ c ∈ (cellsP f K).1, (1 ≤ f.eye ∧ f.eye ≤ 16) ∧ 0 ≤ c.1 ∧ c.1 ≤ 24) := Lib.hid (fun c hc => by
    unfold cellsP at hc
    by_cases hv : f.valid = true
    · rw [if_neg (by rw [hv]; decide)] at hc
      split at hc
      · cases hc
      · obtain ⟨i, hi, _, rfl⟩ := cellsF_mem.1 hc
        obtain ⟨k1, _⟩ := cellF_has hv (i := (i : Int)) ⟨by omega, by omega⟩
        have h1 := (hasF_iff.1 k1).1
        have h2 := FaceV.int hv
        exact ⟨(FaceV.valid_iff.1 hv).1, h1.1, by omega⟩
    · rw [if_pos (by simpa using hv)] at hc
      cases hc)
  clear hr
  have AL := Lib.hid (al1 w (.cells (f.cells a n) 28))
  go_enter Tryz.func63, Tryz.ntmps63
  go_upto_region 1 with fail
  obtain ⟨p, hp⟩ : ∃ p, Hid (w.heap.size = p) := ⟨_, Lib.hid rfl⟩
  rw [hp.out] at AL ⊢
  generalize (w.alloc (.cells (f.cells a n) 28)) = W0 at *
  have BF : Hid (Below w.heap.size w W0) := Lib.hid (by rw [hp.out]; exact AL.out.1)
  have XF : Hid (W0.heap[p]? = some (.cells (f.cells a n) 28 (0, 0))) := Lib.hid AL.out.2
  clear AL
  have c0 := qcell XF.out 0 (.int .i64 f.eye) rfl
  have c1 := qcell XF.out 1 (.int .i64 f.rings) rfl
  have c2 := qcell XF.out 2 (.int .i64 f.sectors) rfl
  have c3 := qcell XF.out 3 (.slice a f.kinds.length n) rfl
  go_wp2_with (first
    | (refine wpList_load_row rfl 28 _ rfl p rfl 28 (f.cells a n) (0, 0) _ XF.out Tryz.underlying28 rfl (by exact (qJF f a n)) ?_)
    | fail)
  refine (CA.out W0 BF.out).mono ?_
  rintro e V1 ⟨oa, oc, rfl, own, b⟩
  have R0 := Lib.hid (RdA.of_own own)
  clear own
  clear c0 c1 c2 c3
  replace BF := Lib.hid (BF.out.trans (b.mono BF.out.size))
  replace XF := Lib.hid (qblk b XF.out)
  clear b
  have c0 := qcell XF.out 0 (.int .i64 f.eye) rfl
  have c1 := qcell XF.out 1 (.int .i64 f.rings) rfl
  have c2 := qcell XF.out 2 (.int .i64 f.sectors) rfl
  have c3 := qcell XF.out 3 (.slice a f.kinds.length n) rfl
  have B1 := Lib.hid BF.out
  obtain ⟨l, hl⟩ : ∃ l, Hid ((cellsP f K).1 = l) := ⟨_, Lib.hid rfl⟩
  obtain ⟨er, her⟩ : ∃ er, Hid ((cellsP f K).2 = er) := ⟨_, Lib.hid rfl⟩
  rw [hl.out] at LL WG R0 ⊢
  rw [her.out]
  have RR := Lib.hid (fun W (hb : Below V1.heap.size V1 W) => R0.out.below hb)
  clear R0
  go_wp2_with (first
    | (refine wpList_load_row rfl 28 _ rfl p rfl 28 (f.cells a n) (0, 0) _ XF.out Tryz.underlying28 rfl (by exact (qJF f a n)) ?_)
    | fail)
  clear c0 c1 c2 c3
  go_loopw [8, 19] (fun s i wr => ∃ k : Nat, i = .int .i64 k ∧ s = .int .i64 (((l.take k).map fun c => weightF f c.1).sum) ∧ k ≤ l.length ∧ Hid (0 ≤ ((l.take k).map fun c => weightF f c.1).sum ∧ ((l.take k).map fun c => weightF f c.1).sum ≤ 100 * (k : Int)) ∧ Hid (Below V1.heap.size V1 wr) ∧ Hid (Below w.heap.size w wr) ∧ Hid (wr.heap[p]? = some (.cells (f.cells a n) 28 (0, 0)))) (fun _ i _ => l.length - (intOf i).toNat)
  case atStart => exact ⟨0, rfl, by simp, Nat.zero_le _, Lib.hid (by simp), Lib.hid (Below.refl _ _), BF, XF⟩
  case round =>
    clear BF XF
    obtain ⟨k, rfl, rfl, hk, SM, BV, BF, XF⟩ := hrel
    have c0 := qcell XF.out 0 (.int .i64 f.eye) rfl
    have c1 := qcell XF.out 1 (.int .i64 f.rings) rfl
    have c2 := qcell XF.out 2 (.int .i64 f.sectors) rfl
    have c3 := qcell XF.out 3 (.slice a f.kinds.length n) rfl
    by_cases hkn : k < l.length
    · have t0 : decide ((k : Int) < (l.length : Int)) = true := by simp; omega
      obtain ⟨c, hc⟩ : ∃ c, l[k]? = some c := ⟨l[k], List.getElem?_eq_getElem hkn⟩
      have WC := Lib.hid (WG.out c (List.mem_of_getElem? hc))
      have hk64 : (k : Int) + 1 ≤ 9223372036854775807 := by have := LL.out; omega
      have e1 : l.take (k + 1) = l.take k ++ [c] := by rw [List.take_add_one, hc]; rfl
      have E1 : Hid (((l.take (k + 1)).map fun c => weightF f c.1).sum = ((l.take k).map fun c => weightF f c.1).sum + weightF f c.1) := Lib.hid (by rw [e1, List.map_append, List.sum_append]; simp)
      have WF : Hid (0 ≤ weightF f c.1 ∧ weightF f c.1 ≤ 100) := Lib.hid (by have := WC.out; unfold weightF; omega)
      have KL : Hid (k ≤ 2304) := Lib.hid (by have := LL.out; omega)
      have W1 : Hid (wrap64 (((l.take k).map fun c => weightF f c.1).sum + weightF f c.1) = ((l.take (k + 1)).map fun c => weightF f c.1).sum) := Lib.hid (by have := SM.out; have := WF.out; have := KL.out; rw [E1.out]; unfold wrap64; omega)
      obtain ⟨b0, off, rfl, h4⟩ := RdA.at (RR.out _ BV.out) (by omega)
      have hx0 := h4 (k * 2) _ (cellsV_at l k c hc).1
      have hx1 := h4 (k * 2 + 1) _ (cellsV_at l k c hc).2
      rw [← Nat.add_assoc] at hx1
      obtain ⟨S, hS⟩ : ∃ S, Hid (((l.take k).map fun c => weightF f c.1).sum = S) := ⟨_, Lib.hid rfl⟩
      rw [hS.out] at W1 ⊢
      clear h4 e1 hc
      have HK64 := Lib.hid hk64
      clear hk64
      have HXX := Lib.hid (And.intro hx0 hx1)
      clear hx0 hx1
      have hx0 := HXX.out.1
      have hx1 := HXX.out.2
      go_upto_region 6 with (first
        | (refine wpList_load_row rfl 28 _ rfl p rfl 28 (f.cells a n) (0, 0) _ XF.out Tryz.underlying28 rfl (by exact (qJF f a n)) ?_)
        | fail)
      have AL := al1 wr (.cells #[.int .i64 c.1, .int .i64 c.2] 41)
      clear hx0 hx1 c0 c1 c2 c3
      have hq0 := qcell AL.2 0 (.int .i64 c.1) rfl
      replace BF := Lib.hid (BF.out.trans (AL.1.mono BF.out.size))
      replace BV := Lib.hid (BV.out.trans (AL.1.mono BV.out.size))
      replace XF := Lib.hid (qblk AL.1 XF.out)
      clear AL
      generalize wr.alloc (.cells #[.int .i64 c.1, .int .i64 c.2] 41) = V3 at *
      generalize wr.heap.size = q at *
      have c0 := qcell XF.out 0 (.int .i64 f.eye) rfl
      have c1 := qcell XF.out 1 (.int .i64 f.rings) rfl
      have c2 := qcell XF.out 2 (.int .i64 f.sectors) rfl
      have c3 := qcell XF.out 3 (.slice a f.kinds.length n) rfl
      go_wp2_with (first
        | (refine wpList_load_row rfl 28 _ rfl p rfl 28 (f.cells a n) (0, 0) _ XF.out Tryz.underlying28 rfl (by exact (qJF f a n)) ?_)
        | fail)
      refine (weight_any f a n c.1 V3 WC.out.1 WC.out.2).mono ?_
      rintro e V4 ⟨rfl, b⟩
      clear hq0
      replace BV := Lib.hid (BV.out.trans (b.mono BV.out.size))
      clear c0 c1 c2 c3
      replace BF := Lib.hid (BF.out.trans (b.mono BF.out.size))
      replace XF := Lib.hid (qblk b XF.out)
      clear b
      have c0 := qcell XF.out 0 (.int .i64 f.eye) rfl
      have c1 := qcell XF.out 1 (.int .i64 f.rings) rfl
      have c2 := qcell XF.out 2 (.int .i64 f.sectors) rfl
      have c3 := qcell XF.out 3 (.slice a f.kinds.length n) rfl
      have WE := W1.out
      have hk64 := HK64.out
      go_wp2_with (first
        | (refine wpList_load_row rfl 28 _ rfl p rfl 28 (f.cells a n) (0, 0) _ XF.out Tryz.underlying28 rfl (by exact (qJF f a n)) ?_)
        | fail)
      go_roundw
      case rel => exact ⟨k + 1, by simp, by rw [← W1.out], by omega, Lib.hid (by have := SM.out; have := WF.out; rw [E1.out]; omega), BV, BF, XF⟩
      case measure => simp [intOf]; omega
    · have t0 : decide ((k : Int) < (l.length : Int)) = false := by simp; omega
      have e : k = l.length := by omega
      subst e
      go_wp2_with (first
        | (refine wpList_load_row rfl 28 _ rfl p rfl 28 (f.cells a n) (0, 0) _ XF.out Tryz.underlying28 rfl (by exact (qJF f a n)) ?_)
        | fail)
      go_ret2
      unfold areaP
      rw [hl.out, her.out]
      exact ⟨by rw [List.take_length]; rfl, BF.out⟩
end Go.Proofs.YtimmadkbkimonaaGreatDoor
namespace Go.Proofs.YtimmadkbkimonaaGreatDoor
set_option linter.unusedSimpArgs false
set_option linter.unusedVariables false
open Go.RowKit

def withF (f : FaceV) (l : List Int) : FaceV := { f with kinds := l }
theorem qoneF (f : FaceV) (a : Option Addr) (n : Nat) : (f.cells a n).all (·.oneCell') = true := qone f a n
set_option maxHeartbeats 4000000 in
set_option maxRecDepth 100000 in
theorem with_any (f : FaceV) (a : Option Addr) (n : Nat) (l : List Int) (b : Option Addr) (m cb : Nat) (w : World) (hl : l.length = m) :
    Calls Tryz.prog 97 #[.agg (f.cells a n), .slice b m cb] w fun e w' => e = .returned (.agg ((withF f l).cells b cb)) ∧ Below w.heap.size w w' := by
  have JL := Lib.hid hl
  clear hl
  have AL := Lib.hid (al2 w (.cells (f.cells a n) 28) (.cells #[.int .i64 0, .int .i64 0, .int .i64 0, .slice none 0 0] 28))
  go_enter Tryz.func97, Tryz.ntmps97
  go_upto_region 1 with fail
  obtain ⟨p, hp⟩ : ∃ p, Hid (w.heap.size = p) := ⟨_, Lib.hid rfl⟩
  obtain ⟨z, hz⟩ : ∃ z, Hid (w.heap.size + 1 = z) := ⟨_, Lib.hid rfl⟩
  rw [hz.out] at AL ⊢
  rw [hp.out] at AL ⊢
  generalize ((w.alloc (.cells (f.cells a n) 28)).alloc (.cells #[.int .i64 0, .int .i64 0, .int .i64 0, .slice none 0 0] 28)) = W0 at *
  have BF : Hid (Below w.heap.size w W0) := Lib.hid (by rw [hp.out]; exact AL.out.1)
  have XF : Hid (W0.heap[p]? = some (.cells (f.cells a n) 28 (0, 0))) := Lib.hid AL.out.2.1
  have XZ : Hid (W0.heap[z]? = some (.cells (zeroF.cells none 0) 28 (0, 0))) := Lib.hid AL.out.2.2
  clear AL
  have c0 := qcell XF.out 0 (.int .i64 f.eye) rfl
  have c1 := qcell XF.out 1 (.int .i64 f.rings) rfl
  have c2 := qcell XF.out 2 (.int .i64 f.sectors) rfl
  have c3 := qcell XF.out 3 (.slice a f.kinds.length n) rfl
  have fz := qfroz XF.out 3
  go_upto_region 2 with (first
    | (refine wpList_load_row rfl 28 _ rfl p rfl 28 (f.cells a n) (0, 0) _ XF.out Tryz.underlying28 rfl (by exact (qJF f a n)) ?_)
    | (refine wpList_load_row rfl 28 _ rfl z rfl 28 (zeroF.cells none 0) (0, 0) _ XZ.out Tryz.underlying28 rfl (by exact (qJF zeroF none 0)) ?_)
    | fail)
  clear c0 c1 c2 c3
  clear fz
  have XG : Hid ((W0.setCell ⟨p, 3, none⟩ (.slice b m cb)).heap[p]? = some (.cells ((withF f l).cells b cb) 28 (0, 0))) := Lib.hid (by rw [qput_at XF.out 3 _, ← JL.out]; rfl)
  have HG := qput_grown W0 p 3 (.slice b m cb)
  replace BF := Lib.hid (qstep BF.out HG (by have h1 := hp.out; omega))
  replace XZ := Lib.hid (qgrown HG XZ.out (fun e => by have h1 := hp.out; have h2 := hz.out; have := Option.some.inj e; omega))
  clear HG XF
  generalize W0.setCell ⟨p, 3, none⟩ (.slice b m cb) = W1 at *
  go_wp2_with (first
    | (refine wpList_load_row rfl 28 _ rfl p rfl 28 ((withF f l).cells b cb) (0, 0) _ XG.out Tryz.underlying28 rfl (by exact (qJF (withF f l) b cb)) ?_)
    | (refine wpList_load_row rfl 28 _ rfl z rfl 28 (zeroF.cells none 0) (0, 0) _ XZ.out Tryz.underlying28 rfl (by exact (qJF zeroF none 0)) ?_)
    | (refine wpList_qstore rfl 28 _ _ rfl z (zeroF.cells none 0) ((withF f l).cells b cb) 28 rfl rfl XZ.out (by exact (qJF (withF f l) b cb)) rfl (qoneF (withF f l) b cb) ?_; intro VZ hzz hgz; replace BF := Lib.hid (qstep BF.out hgz (by have h1 := hz.out; omega)); replace XG := Lib.hid (qgrown hgz XG.out (fun e => by have h1 := hp.out; have h2 := hz.out; have := Option.some.inj e; omega)); replace XZ := Lib.hid hzz; clear hzz hgz)
    | fail)
  (try simp only [Exit.inBlock, Exit.then])
  refine bodyPost_ret (results_cell_row rfl _ VZ z 28 ((withF f l).cells b cb) (0, 0) _ rfl XZ.out Tryz.underlying28 rfl (by exact (qJF (withF f l) b cb))) rfl ?_
  exact ⟨rfl, BF.out⟩
end Go.Proofs.YtimmadkbkimonaaGreatDoor
namespace Go.Proofs.YtimmadkbkimonaaGreatDoor

section
variable {P : Program} {ops : Array Oper} {Q : Exit → Act → World → Prop} {md : Region.Mode} {m : Nat} {S : World → Prop}
def AnyBut (P : Program) (md : Region.Mode) (ops : Array Oper) (Q : Exit → Act → World → Prop) (m : Nat) (S : World → Prop) : Nat → Array Bool → Act → World → Prop
  | 0, l, a, w => Region.ready md ops l = [] ∧ Q .normal a w
  | n + 1, l, a, w => (Region.ready md ops l = [] → Q .normal a w) ∧ ∀ i ∈ Region.ready md ops l, wpOp P ops Q i (fun a' w' => (i ≠ m → S w') ∧ AnyBut P md ops Q m S n (l.setIfInBounds i true) a' w') a w
theorem AnyBut.any : ∀ (n : Nat) (l : Array Bool) (a : Act) (w : World), AnyBut P md ops Q m S n l a w → wpAny P md ops Q n l a w
  | 0, _, _, _, h => h
  | n + 1, _, _, _, h => ⟨h.1, fun i hi => wpOp_mono (fun a' w' h' => AnyBut.any n _ a' w' h'.2) (h.2 i hi)⟩
theorem AnyBut.done {l : Array Bool} {a : Act} {w : World} (hr : Region.ready md ops l = []) (h : Q .normal a w) : ∀ n, AnyBut P md ops Q m S n l a w
  | 0 => ⟨hr, h⟩
  | _ + 1 => ⟨fun _ => h, by rw [hr]; simp⟩
theorem not_ready {i : Nat} {l : Array Bool} (hm : Region.waitsFor md ops m i = true) (hi : l.getD i true = false) : m ∉ Region.ready md ops l := fun hr => by
  obtain ⟨oj, hj, e, he, hb, hon⟩ := Region.waitsFor_spec hm
  obtain ⟨_, oj', hj', hall⟩ := mem_ready.1 hr
  have h0 : oj' = oj := Option.some.inj (hj'.symm.trans hj)
  subst h0
  have h1 := hall e he hb
  rw [hon, getD_both hi] at h1
  cases h1
theorem AnyBut.first {i : Nat} {oi : Oper} {v : Value} (hi : ops[i]? = some oi) (hsel : ∀ (j : Nat) (o : Oper) cs b, ops[j]? = some o → o.op ≠ .select cs b) (hm : Region.waitsFor md ops m i = true) (hne : i ≠ m)
    (hQ : ∀ c a w, Q (.panic c) (a.put oi.dst v) w → Q (.panic c) a w) : ∀ (n : Nat) (l : Array Bool) (a : Act) (w : World),
      (∀ j oj, ops[j]? = some oj → j ≠ i → l.getD j true = false → (∀ e ∈ oj.after, Region.binds md e = true → e.on ≠ i) → oi.apart ops oj = true) →
      i ∈ Region.ready md ops l → YieldsIf P ops S oi v a → S w → AnyBut P md ops Q m S n (l.setIfInBounds i true) (a.put oi.dst v) w → AnyBut P md ops Q m S (n + 1) l a w := by
  intro n
  induction n with
  | zero =>
    intro l a w _ hr hy hS H
    refine ⟨fun h => (by rw [h] at hr; cases hr), fun j hj => ?_⟩
    by_cases e : j = i
    · rw [e]; exact hy.wpOp hi hS ⟨fun _ => hS, H⟩
    · have h1 := ready_mono hj e
      rw [H.1] at h1
      cases h1
  | succ n ih =>
    intro l a w hfree hr hy hS H
    refine ⟨fun h => (by rw [h] at hr; cases hr), fun j hj => ?_⟩
    by_cases e : j = i
    · rw [e]; exact hy.wpOp hi hS ⟨fun _ => hS, H⟩
    · obtain ⟨hjun, oj, hoj, hall⟩ := mem_ready.1 hj
      have hiun := (mem_ready.1 hr).1
      have hjm : j ≠ m := fun e2 => not_ready hm hiun (e2 ▸ hj)
      have hno : ∀ x ∈ oj.after, Region.binds md x = true → x.on ≠ i := fun x hx hb heq => by
        have h1 := hall x hx hb
        rw [heq, getD_both hiun] at h1
        cases h1
      have h2 := wpOp_putIf hoj (hfree j oj hoj e hjun hno) (fun cs b => hsel i oi cs b hi) (fun cs b => hsel j oj cs b hoj) hQ hy (H.2 j (ready_mono hj e))
      refine wpOp_mono (fun a' w' h3 => ⟨fun _ => h3.2.1 hjm, ih (l.setIfInBounds j true) a' w' (fun k ok hk hki hun hn => ?_) (ready_mono hr (Ne.symm e)) h3.1 (h3.2.1 hjm) ?_⟩) h2
      · refine hfree k ok hk hki ?_ hn
        by_cases e2 : j = k
        · rw [← e2]; exact hjun
        · rw [getD_set_ne true e2] at hun; exact hun
      · rw [Array.setIfInBounds_comm _ _ e]
        exact h3.2.2
theorem AnyBut.take {i : Nat} {oi : Oper} {v : Value} {n : Nat} {l : Array Bool} {a : Act} {w : World} (hi : ops[i]? = some oi) (hs : Region.noSelect ops = true) (hf : Region.free md ops l i = true) (hr : (Region.ready md ops l).contains i = true)
    (hm : (Region.waitsFor md ops m i && decide (i ≠ m)) = true) (hQ : ∀ c a w, Q (.panic c) (a.put oi.dst v) w → Q (.panic c) a w) (hy : YieldsIf P ops S oi v a) (hS : S w)
    (h : AnyBut P md ops Q m S n (l.setIfInBounds i true) (a.put oi.dst v) w) : AnyBut P md ops Q m S (n + 1) l a w := by
  rw [Bool.and_eq_true, decide_eq_true_eq] at hm
  exact AnyBut.first hi (Region.noSelect_spec hs) hm.1 hm.2 hQ n l a w (Region.free_spec hi hf) (by simpa using hr) hy hS h
def AllBut (P : Program) (md : Region.Mode) (ops : Array Oper) (Q : Exit → Act → World → Prop) (m : Nat) (S : World → Prop) (n : Nat) (l : Array Bool) (a : Act) (w : World) (rs : List Nat) : Prop :=
  ∀ i ∈ rs, wpOp P ops Q i (fun a' w' => (i ≠ m → S w') ∧ AnyBut P md ops Q m S n (l.setIfInBounds i true) a' w') a w
theorem AllBut.nil {n : Nat} {l : Array Bool} {a : Act} {w : World} : AllBut P md ops Q m S n l a w [] := fun _ h => by cases h
theorem AllBut.cons {n : Nat} {l : Array Bool} {a : Act} {w : World} {i : Nat} {o : Oper} {rs : List Nat} (ho : ops[i]? = some o)
    (h : ∀ K : Act → World → Prop, Shut (∀ a w, S w → (S w → AnyBut P md ops Q m S n (l.setIfInBounds i true) a w) → K a w) → if Region.wanted o (yielded ops a.tmps) = true then Oper.wp P o a w K Q else K (a.put o.dst undef) w)
    (hs : AllBut P md ops Q m S n l a w rs) : AllBut P md ops Q m S n l a w (i :: rs) := fun j hj => by
  rcases List.mem_cons.1 hj with e | hj
  · rw [e]
    exact wpOp_step ho (fun K hK => h K (fun a w hS hW => hK a w ⟨fun _ => hS, hW hS⟩))
  · exact hs j hj
theorem AllBut.last {n : Nat} {l : Array Bool} {a : Act} {w : World} {o : Oper} (ho : ops[m]? = some o)
    (h : ∀ K : Act → World → Prop, Shut (∀ a w, AnyBut P md ops Q m S n (l.setIfInBounds m true) a w → K a w) → if Region.wanted o (yielded ops a.tmps) = true then Oper.wp P o a w K Q else K (a.put o.dst undef) w) : AllBut P md ops Q m S n l a w [m] := fun j hj => by
  rw [List.mem_singleton.1 hj]
  exact wpOp_step ho (fun K hK => h K (fun a w hW => hK a w ⟨fun e => absurd rfl e, hW⟩))
theorem AnyBut.ready {rs : List Nat} {n : Nat} {l : Array Bool} {a : Act} {w : World} (hr : Region.ready md ops l = rs) (hne : rs ≠ []) (h : AllBut P md ops Q m S n l a w rs) : AnyBut P md ops Q m S (n + 1) l a w :=
  ⟨fun h0 => absurd (hr ▸ h0) hne, hr ▸ h⟩
theorem bW {n : Nat} {l : Array Bool} {a a' : Act} {w : World} (i : Nat) {oi : Oper} (hi : ops[i]? = some oi) (v : Value) (h : AnyBut P md ops Q m S n (l.setIfInBounds i true) a' w)
    (hs : Region.noSelect ops = true := by kernel_rfl) (hf : Region.free md ops l i = true := by kernel_rfl) (hr : (Region.ready md ops l).contains i = true := by kernel_rfl) (hm : (Region.waitsFor md ops m i && decide (i ≠ m)) = true := by kernel_rfl)
    (hQ : ∀ c a w, Q (.panic c) (a.put oi.dst v) w → Q (.panic c) a w := by exact fun _ _ _ h => h) (hS : S w := by assumption) (hy : YieldsIf P ops S oi v a := by exact Or.inl ⟨by kernel_rfl, by intro W _; go_simp⟩)
    (ha : a.put oi.dst v = a' := by first | (simp only [Act.put, List.getElem_toArray, List.getElem_cons_succ, List.getElem_cons_zero, List.setIfInBounds_toArray, List.set_cons_zero, List.set_cons_succ]; rfl) | rfl) :
    AnyBut P md ops Q m S (n + 1) l a w := AnyBut.take hi hs hf hr hm hQ hy hS (ha ▸ h)
theorem bS {n : Nat} {l : Array Bool} {a a' : Act} {w : World} (i : Nat) {oi : Oper} (hi : ops[i]? = some oi) (v : Value) (hq : ∀ W, S W → (execOp a.eval oi).run P W = .ok (.value v) W) (h : AnyBut P md ops Q m S n (l.setIfInBounds i true) a' w)
    (hs : Region.noSelect ops = true := by kernel_rfl) (hf : Region.free md ops l i = true := by kernel_rfl) (hr : (Region.ready md ops l).contains i = true := by kernel_rfl) (hm : (Region.waitsFor md ops m i && decide (i ≠ m)) = true := by kernel_rfl)
    (hQ : ∀ c a w, Q (.panic c) (a.put oi.dst v) w → Q (.panic c) a w := by exact fun _ _ _ h => h) (hS : S w := by assumption) (hw : Region.wanted oi (yielded ops a.tmps) = true := by kernel_rfl)
    (ha : a.put oi.dst v = a' := by first | (simp only [Act.put, List.getElem_toArray, List.getElem_cons_succ, List.getElem_cons_zero, List.setIfInBounds_toArray, List.set_cons_zero, List.set_cons_succ]; rfl) | rfl) :
    AnyBut P md ops Q m S (n + 1) l a w := AnyBut.take hi hs hf hr hm hQ (.inl ⟨hw, hq⟩) hS (ha ▸ h)
theorem bR {n : Nat} {l : Array Bool} {a : Act} {w : World} (i : Nat) {o : Oper} (ho : ops[i]? = some o)
    (h : ∀ K : Act → World → Prop, Shut (∀ a w, S w → (S w → AnyBut P md ops Q m S n (l.setIfInBounds i true) a w) → K a w) → if Region.wanted o (yielded ops a.tmps) = true then Oper.wp P o a w K Q else K (a.put o.dst undef) w)
    (hr : Region.ready md ops l = [i] := by kernel_rfl) : AnyBut P md ops Q m S (n + 1) l a w := AnyBut.ready hr (by simp) (AllBut.cons ho h AllBut.nil)
theorem bL {n : Nat} {l : Array Bool} {a : Act} {w : World} {o : Oper} (ho : ops[m]? = some o)
    (h : ∀ K : Act → World → Prop, Shut (∀ a w, AnyBut P md ops Q m S n (l.setIfInBounds m true) a w → K a w) → if Region.wanted o (yielded ops a.tmps) = true then Oper.wp P o a w K Q else K (a.put o.dst undef) w)
    (hr : Region.ready md ops l = [m] := by kernel_rfl) : AnyBut P md ops Q m S (n + 1) l a w := AnyBut.ready hr (by simp) (AllBut.last ho h)
theorem bK {n : Nat} {l : Array Bool} {a a' : Act} {w : World} {K : Act → World → Prop} (hK : Shut (∀ a w, S w → (S w → AnyBut P md ops Q m S n l a w) → K a w)) (hS : S w) (h : S w → AnyBut P md ops Q m S n l a' w)
    (ha : a = a' := by first | (simp only [Act.put, List.getElem_toArray, List.getElem_cons_succ, List.getElem_cons_zero, List.setIfInBounds_toArray, List.set_cons_zero, List.set_cons_succ]; rfl) | rfl) : K a w := by
  subst ha
  exact hK.out _ _ hS h
theorem bE {n : Nat} {l : Array Bool} {a : Act} {w : World} {Q : Exit → Act → World → Prop} (h : Q .normal a w) (hr : Region.ready md ops l = [] := by kernel_rfl) : AnyBut P md ops (NoPanic Q) m S n l a w := AnyBut.done hr (NoPanic.normal h) _
theorem bD {id : Nat} {a : Act} {w : World} {Q : Exit → Act → World → Prop} (m : Nat) (S : World → Prop) (hS : S w.drew) (h : S w.drew → AnyBut P .any ops (NoPanic Q) m S ops.size (Array.replicate ops.size false) a w.drew) (hm : P.follows .mixedOrders = true := by kernel_rfl) :
    (Code.region id ops true).wp P Q a w := wp_region_noPanic (wp_region_any hm (AnyBut.any _ _ _ _ (h hS)))
end
end Go.Proofs.YtimmadkbkimonaaGreatDoor
namespace Go.Proofs.YtimmadkbkimonaaGreatDoor
set_option linter.unusedSimpArgs false
set_option linter.unusedVariables false
open Go.RowKit

def mapR (f : FaceV) (s : Nat) (of : Int → Int) (i j : Nat) : List Int := mapK f s of i ++ (List.range j).map fun (j : Nat) => f.kat (indexF f i (of j)).toNat
theorem mapR_len (f : FaceV) (s : Nat) (of : Int → Int) (i j : Nat) : (mapR f s of i j).length = i * s + j := by
  unfold mapR
  rw [List.length_append, mapK_len, List.length_map, List.length_range]
theorem mapR_zero (f : FaceV) (s : Nat) (of : Int → Int) (i : Nat) : mapR f s of i 0 = mapK f s of i := by unfold mapR; simp
theorem mapR_next (f : FaceV) (s : Nat) (of : Int → Int) (i j : Nat) : mapR f s of i (j + 1) = mapR f s of i j ++ [f.kat (indexF f i (of j)).toNat] := by
  unfold mapR
  rw [List.range_succ, List.map_append, List.append_assoc]
  rfl
theorem mapR_row (f : FaceV) (s : Nat) (of : Int → Int) (i : Nat) : mapR f s of i s = mapK f s of (i + 1) := by
  unfold mapR mapK
  rw [List.range_succ, List.flatMap_append]
  simp
def outF (f : FaceV) (s : Nat) (l : List Int) : FaceV := ⟨f.eye, f.rings, s, l⟩
structure MapAt (w : World) (p z o : Nat) (f : FaceV) (a : Option Addr) (n s : Nat) (l : List Int) (oa : Option Addr) (oc : Nat) (W : World) : Prop where
  bel : Below w.heap.size w W
  p : W.heap[p]? = some (.cells (f.cells a n) 28 (0, 0))
  z : W.heap[z]? = some (.cells (zeroF.cells none 0) 28 (0, 0))
  o : W.heap[o]? = some (.cells ((outF f s l).cells oa oc) 28 (0, 0))
  own : W.ownsRow w.heap.size 3 1 (.slice oa l.length oc) l.length (l.map intV)
theorem MapAt.below {w : World} {p z o : Nat} {f : FaceV} {a : Option Addr} {n s : Nat} {l : List Int} {oa : Option Addr} {oc : Nat} {W W' : World} (h : MapAt w p z o f a n s l oa oc W) (hb : Below W.heap.size W W') : MapAt w p z o f a n s l oa oc W' :=
  ⟨h.bel.trans (hb.mono h.bel.size), qblk hb h.p, qblk hb h.z, qblk hb h.o, own_below h.own hb⟩
section
variable {P : Program} {ops : Array Oper}
theorem bDq {id : Nat} {a : Act} {w W : World} {Q : Exit → Act → World → Prop} (m : Nat) (S : World → Prop) (hS : S W) (h : S W → AnyBut P .any ops (NoPanic Q) m S ops.size (Array.replicate ops.size false) a W) (hW : w.drew = W := by assumption) (hm : P.follows .mixedOrders = true := by kernel_rfl) :
    (Code.region id ops true).wp P Q a w := by
  subst hW
  exact bD m S hS h hm
end
set_option maxHeartbeats 4000000 in
set_option maxRecDepth 100000 in
theorem mapped_any (f : FaceV) (a : Option Addr) (n s : Nat) (of : Int → Int) (fn : Nat) (cap : Array Value) (w : World) (hv : f.valid = true) (hr : RdI w a f.kinds.length n f.kinds) (hs : 1 ≤ s ∧ s ≤ 96)
    (hfn : ∀ (args : Array Value) (w : World), (callFunc fn args).run Tryz.prog w = .ok (.enter fn args) w)
    (hcl : ∀ (j : Nat) W, Below w.heap.size w W → j < s → Calls Tryz.prog fn (#[.int .i64 j] ++ cap) W fun e W' => e = .returned (.int .i64 (of j)) ∧ Below W.heap.size W W') :
    Calls Tryz.prog 100 #[.agg (f.cells a n), .int .i64 s, .func (.func fn) #[] cap] w fun e w' => ∃ a' n', e = .returned (.agg ((mapF f s of).cells a' n')) ∧ w'.ownsRow w.heap.size 3 1 (.slice a' (mapK f s of f.R).length n') (mapK f s of f.R).length ((mapK f s of f.R).map intV) ∧ Below w.heap.size w w' := by
  have HR := Lib.hid (fun W (hb : Below w.heap.size w W) => hr.below hb)
  have HCL := Lib.hid hcl
  have HFN := Lib.hid hfn
  have IV := Lib.hid (FaceV.int hv)
  have NV := Lib.hid (FaceV.nat hv)
  have LL := Lib.hid (FaceV.len_le hv)
  have HV := Lib.hid hv
  have HS := Lib.hid hs
  clear hr hcl hfn hv hs
  have AL := Lib.hid (al2 w (.cells (f.cells a n) 28) (.cells #[.int .i64 0, .int .i64 0, .int .i64 0, .slice none 0 0] 28))
  go_enter Tryz.func100, Tryz.ntmps100
  go_upto_region 1 with fail
  obtain ⟨p, hp⟩ : ∃ p, Hid (w.heap.size = p) := ⟨_, Lib.hid rfl⟩
  obtain ⟨z, hz⟩ : ∃ z, Hid (w.heap.size + 1 = z) := ⟨_, Lib.hid rfl⟩
  rw [hz.out] at AL ⊢
  rw [hp.out] at AL ⊢
  generalize ((w.alloc (.cells (f.cells a n) 28)).alloc (.cells #[.int .i64 0, .int .i64 0, .int .i64 0, .slice none 0 0] 28)) = W0 at *
  have BF : Hid (Below w.heap.size w W0) := Lib.hid (by rw [hp.out]; exact AL.out.1)
  have XF : Hid (W0.heap[p]? = some (.cells (f.cells a n) 28 (0, 0))) := Lib.hid AL.out.2.1
  have XZ : Hid (W0.heap[z]? = some (.cells (zeroF.cells none 0) 28 (0, 0))) := Lib.hid AL.out.2.2
  clear AL
  have c0 := qcell XF.out 0 (.int .i64 f.eye) rfl
  have c1 := qcell XF.out 1 (.int .i64 f.rings) rfl
  have c2 := qcell XF.out 2 (.int .i64 f.sectors) rfl
  have c3 := qcell XF.out 3 (.slice a f.kinds.length n) rfl
  go_upto_region 2 with (first
    | (refine wpList_load_row rfl 28 _ rfl p rfl 28 (f.cells a n) (0, 0) _ XF.out Tryz.underlying28 rfl (by exact (qJF f a n)) ?_)
    | (refine wpList_load_row rfl 28 _ rfl z rfl 28 (zeroF.cells none 0) (0, 0) _ XZ.out Tryz.underlying28 rfl (by exact (qJF zeroF none 0)) ?_)
    | (refine wpList_store_new W0 rfl 28 _ _ rfl (zeroF.cells none 0) ((outF f s []).cells none 0) rfl rfl (by exact qJF (outF f s []) none 0) rfl (qone (outF f s []) none 0) ?_)
    | fail)
  clear c0 c1 c2 c3
  have AL := al1 W0 (.cells ((outF f s []).cells none 0) 28)
  have M0 : Hid (MapAt w p z W0.heap.size f a n s (mapR f s of 0 0) none 0 (W0.alloc (.cells ((outF f s []).cells none 0) 28))) := Lib.hid ⟨BF.out.trans (AL.1.mono BF.out.size), qblk AL.1 XF.out, qblk AL.1 XZ.out, AL.2, World.ownsRow_nil _ _ _ _⟩
  obtain ⟨o, ho⟩ : ∃ o, Hid (W0.heap.size = o) := ⟨_, Lib.hid rfl⟩
  have OGE : Hid (w.heap.size ≤ o ∧ o ≠ p ∧ o ≠ z ∧ w.heap.size = p ∧ w.heap.size + 1 = z) := Lib.hid (by have h1 := qlt XF.out; have h2 := qlt XZ.out; have := BF.out.size; have := ho.out; have := hp.out; have := hz.out; omega)
  rw [ho.out] at M0 ⊢
  clear AL BF XF XZ
  generalize W0.alloc (.cells ((outF f s []).cells none 0) 28) = W1 at *
  have c1 := qcell M0.out.p 1 (.int .i64 f.rings) rfl
  go_wp2_with fail
  clear c1
  have eR := NV.out.1
  have eRR : f.rings = (f.R : Int) := eR
  rw [eRR]
  clear eR eRR
  go_loopw [18] (fun i wr => ∃ (k : Nat) (oa : Option Addr) (oc : Nat), i = .int .i64 k ∧ k ≤ f.R ∧ Hid (MapAt w p z o f a n s (mapR f s of k 0) oa oc wr)) (fun i _ => f.R - (intOf i).toNat)
  case atStart => exact ⟨0, none, 0, rfl, Nat.zero_le _, M0⟩
  case round =>
    clear M0
    obtain ⟨i, oa, oc, rfl, hi, M1⟩ := hrel
    have hi64 : (i : Int) + 1 ≤ 9223372036854775807 := by have := NV.out; omega
    by_cases hiR : i < f.R
    · have t0 : decide ((i : Int) < (f.R : Int)) = true := by simp; omega
      go_wp2_with fail
      generalize wr = X1 at *
      have HI64 := Lib.hid hi64
      clear hi64 t0
      go_loopw [22] (fun v wr => ∃ (j : Nat) (oa : Option Addr) (oc : Nat), v = .int .i64 j ∧ j ≤ s ∧ Hid (MapAt w p z o f a n s (mapR f s of i j) oa oc wr)) (fun v _ => s - (intOf v).toNat)
      case atStart => exact ⟨0, oa, oc, rfl, Nat.zero_le _, M1⟩
      case round =>
        clear M1
        obtain ⟨j, oa, oc, rfl, hj, M1⟩ := hrel
        by_cases hjs : j < s
        · have t0 : decide ((j : Int) < (s : Int)) = true := by simp; omega
          go_upto_region 8 with fail
          clear t0
          have hd : Below wr.heap.size wr wr.drew := (Below.refl _ _).drew
          replace M1 := Lib.hid (M1.out.below hd)
          clear hd
          obtain ⟨V0, hV0⟩ : ∃ V0, wr.drew = V0 := ⟨_, rfl⟩
          rw [hV0] at M1
          have HIR : Hid (0 ≤ (i : Int) ∧ (i : Int) ≤ f.rings - 1) := Lib.hid (by have := NV.out.1; omega)
          have IL := Lib.hid (index_lt HV.out HIR.out (of j))
          obtain ⟨q, hq⟩ : ∃ q, Hid ((indexF f i (of j)).toNat = q) := ⟨_, Lib.hid rfl⟩
          have HQ : Hid (indexF f i (of j) = (q : Int)) := Lib.hid (by have := IL.out; have := hq.out; omega)
          have HQL : Hid (q < f.kinds.length) := Lib.hid (by have := IL.out; have := hq.out; omega)
          obtain ⟨b0, off, ha, _⟩ := (HR.out V0 M1.out.bel).get (FaceV.kat_at HQL.out)
          subst ha
          have RC : Hid (∀ W, Below w.heap.size w W → W.cell? ⟨b0, off + q, none⟩ = some (.int .i64 (f.kat q))) := Lib.hid (fun W hb => by
            obtain ⟨b1, o1, e1, h1⟩ := (HR.out W hb).get (FaceV.kat_at HQL.out)
            cases e1
            exact h1)
          have JF := Lib.hid (qJF f (some ⟨b0, off, none⟩) n)
          have ML := Lib.hid (mapR_len f s of i j)
          have MLB : Hid ((mapR f s of i j).length ≤ 10000) := Lib.hid (by
            rw [ML.out]
            have h1 := NV.out
            have h2 : i * s ≤ 24 * 96 := Nat.mul_le_mul (by omega) (by have := HS.out; omega)
            have := HS.out
            omega)
          refine bDq 15 (fun W => Below w.heap.size w W ∧ W.heap[p]? = some (.cells (f.cells (some ⟨b0, off, none⟩) n) 28 (0, 0)) ∧ W.heap[o]? = some (.cells ((outF f s (mapR f s of i j)).cells oa oc) 28 (0, 0))) ⟨by exact M1.out.bel, M1.out.p, M1.out.o⟩ (fun hHeld => ?_)
          clear hV0
          refine bW 0 rfl (.pointer (some ⟨o, 3, none⟩)) ?_
          refine bS 1 rfl (.slice oa (mapR f s of i j).length oc) (fun W hW => by have c := qcell hW.2.2 3 (.slice oa (mapR f s of i j).length oc) rfl; go_simp) ?_
          refine bW 2 rfl (.pointer (some ⟨p, 3, none⟩)) ?_
          refine bS 3 rfl (.slice (some ⟨b0, off, none⟩) f.kinds.length n) (fun W hW => by have c := qcell hW.2.1 3 (.slice (some ⟨b0, off, none⟩) f.kinds.length n) rfl; go_simp) ?_
          refine bW 4 rfl (.agg (f.cells (some ⟨b0, off, none⟩) n)) (hy := qyrow (by kernel_rfl) 28 _ rfl p rfl _ 28 (0, 0) _ (fun W hW => hW.2.1) Tryz.underlying28 rfl (by exact JF.out)) ?_
          refine bW 5 rfl (.int .i64 i) ?_
          refine bW 6 rfl (.func (.func fn) #[] cap) ?_
          refine bW 7 rfl (.int .i64 j) ?_
          refine bR 8 rfl (fun K hK => ?_)
          have hfn := HFN.out
          go_simp
          refine (HCL.out j V0 M1.out.bel (by omega)).mono ?_
          clear hfn
          rintro e V1 ⟨rfl, b⟩
          replace M1 := Lib.hid (M1.out.below b)
          clear b
          dsimp only
          refine bK hK ⟨M1.out.bel, M1.out.p, M1.out.o⟩ (fun hHeld => ?_)
          clear hK K
          refine bR 9 rfl (fun K hK => ?_)
          go_simp
          refine (index_any f (some ⟨b0, off, none⟩) n i (of j) V1 (by have := IV.out; omega) (by have := HIR.out; have := IV.out; omega)).mono ?_
          rintro e V2 ⟨rfl, b⟩
          replace M1 := Lib.hid (M1.out.below b)
          clear b
          dsimp only
          rw [HQ.out]
          refine bK hK ⟨M1.out.bel, M1.out.p, M1.out.o⟩ (fun hHeld => ?_)
          clear hK K
          have hql : q < f.kinds.length := HQL.out
          refine bW 10 rfl (.pointer (some ⟨b0, off + q, none⟩)) ?_
          clear hql
          refine bS 11 rfl (.int .i64 (f.kat q)) (fun W hW => by have c := RC.out W hW.1; go_simp) ?_
          refine bR 12 rfl (fun K hK => ?_)
          rw [if_pos (by kernel_rfl)]
          refine qbuild (w' := V2.alloc (.cells #[.int .i64 (f.kat q)] 3)) (.slice (some ⟨V2.heap.size, 0, none⟩) 1 1) (by kernel_rfl) ?_
          have L5 := Lib.hid (lit_int V2 (f.kat q))
          replace M1 := Lib.hid (M1.out.below (zB V2 (.cells #[.int .i64 (f.kat q)] 3)))
          obtain ⟨p5, hp5⟩ : ∃ z, Hid (V2.heap.size = z) := ⟨_, Lib.hid rfl⟩
          rw [hp5.out] at L5 ⊢
          generalize V2.alloc (.cells #[.int .i64 (f.kat q)] 3) = V3 at *
          refine bK hK ⟨M1.out.bel, M1.out.p, M1.out.o⟩ (fun hHeld => ?_)
          clear hK K
          refine bR 13 rfl (fun K hK => ?_)
          rw [if_pos (by kernel_rfl)]
          obtain ⟨a7, c7, V7, hrun, ho7, hk7, hb7⟩ := run_app_q V3 w.heap.size oa _ oc _ M1.out.own (some ⟨p5, 0, none⟩) 1 1 [f.kat q] L5.out (by have := MLB.out; omega) M1.out.bel.size
          refine qappend _ _ _ rfl _ _ _ rfl rfl hrun ?_
          clear hrun
          have F7 := Lib.hid (show Below w.heap.size w V7 ∧ V7.heap[p]? = some (.cells (f.cells (some ⟨b0, off, none⟩) n) 28 (0, 0)) ∧ V7.heap[o]? = some (.cells ((outF f s (mapR f s of i j)).cells oa oc) 28 (0, 0)) ∧ V7.heap[z]? = some (.cells (zeroF.cells none 0) 28 (0, 0)) from ⟨hb7 _ M1.out.bel, hk7 _ _ M1.out.p (by simp), hk7 _ _ M1.out.o (by simp), hk7 _ _ M1.out.z (by simp)⟩)
          have O7 := Lib.hid ho7
          clear hk7 hb7 ho7 M1 L5
          refine bK hK ⟨F7.out.1, F7.out.2.1, F7.out.2.2.1⟩ (fun hHeld => ?_)
          clear hK K
          refine bW 14 rfl (.pointer (some ⟨o, 3, none⟩)) ?_
          refine bL rfl (fun K hK => ?_)
          have hce := qcell F7.out.2.2.1 3 (.slice oa (mapR f s of i j).length oc) rfl
          have hfz := qfroz F7.out.2.2.1 3
          go_simp
          refine hK.out _ _ ?_
          clear hK K hce hfz hHeld
          refine bE ?_
          have HG := qput_grown V7 o 3 (.slice a7 ((mapR f s of i j).length + 1) c7)
          have M2 : Hid (MapAt w p z o f (some ⟨b0, off, none⟩) n s (mapR f s of i (j + 1)) a7 c7 (V7.setCell ⟨o, 3, none⟩ (.slice a7 ((mapR f s of i j).length + 1) c7))) := Lib.hid ⟨qstep F7.out.1 HG OGE.out.1, qgrown HG F7.out.2.1 (fun e => OGE.out.2.1 (Option.some.inj e).symm), qgrown HG F7.out.2.2.2 (fun e => OGE.out.2.2.1 (Option.some.inj e).symm), by
            rw [qput_at F7.out.2.2.1 3 _, mapR_next, hq.out]
            unfold outF FaceV.cells
            dsimp only
            rw [List.length_append]
            rfl, by
            rw [mapR_next, hq.out, List.length_append]
            exact O7.out.kept HG (.inr (qown_no O7.out F7.out.2.2.1 (by simp)).symm)⟩
          clear HG F7 O7
          generalize V7.setCell ⟨o, 3, none⟩ (.slice a7 ((mapR f s of i j).length + 1) c7) = V8 at *
          have hj64 : (j : Int) + 1 ≤ 9223372036854775807 := by have := HS.out; omega
          go_wp2_with fail
          go_roundw
          case rel => exact ⟨j + 1, a7, c7, by simp, by omega, M2⟩
          case measure => simp [intOf]; omega
        · have t0 : decide ((j : Int) < (s : Int)) = false := by simp; omega
          have e : j = s := by omega
          subst e
          have hi64 := HI64.out
          go_wp2_with fail
          go_roundw
          case rel =>
            refine ⟨i + 1, oa, oc, by simp, by omega, ?_⟩
            rw [mapR_zero, ← mapR_row]
            exact M1
          case measure => simp [intOf]; omega
    · have t0 : decide ((i : Int) < (f.R : Int)) = false := by simp; omega
      have e : i = f.R := by omega
      subst e
      clear hi64
      have e9 : outF f s (mapR f s of f.R 0) = mapF f s of := by rw [mapR_zero]; rfl
      have XO := Lib.hid M1.out.o
      have XZ := Lib.hid M1.out.z
      have OW := Lib.hid M1.out.own
      have BF := Lib.hid M1.out.bel
      rw [e9] at XO
      rw [mapR_zero] at OW
      clear M1 e9
      go_wp2_with (first
        | (refine wpList_load_row rfl 28 _ rfl o rfl 28 ((mapF f s of).cells oa oc) (0, 0) _ XO.out Tryz.underlying28 rfl (by exact (qJF (mapF f s of) oa oc)) ?_)
        | (refine wpList_qstore rfl 28 _ _ rfl z (zeroF.cells none 0) ((mapF f s of).cells oa oc) 28 rfl rfl XZ.out (by exact (qJF (mapF f s of) oa oc)) rfl (qone (mapF f s of) oa oc) ?_; intro VZ hzz hgz; replace BF := Lib.hid (qstep BF.out hgz (by have h1 := OGE.out; omega)); replace OW := Lib.hid (OW.out.kept hgz (.inr (qown_no OW.out XZ.out (by simp)).symm)); replace XZ := Lib.hid hzz; clear hzz hgz)
        | fail)
      (try simp only [Exit.inBlock, Exit.then])
      refine bodyPost_ret (results_cell_row rfl _ VZ z 28 ((mapF f s of).cells oa oc) (0, 0) _ rfl XZ.out Tryz.underlying28 rfl (by exact (qJF (mapF f s of) oa oc))) rfl ?_
      exact ⟨oa, oc, rfl, OW.out, BF.out⟩
end Go.Proofs.YtimmadkbkimonaaGreatDoor
namespace Go.Proofs.YtimmadkbkimonaaGreatDoor
open Go.RowKit

def strokesP (m : Int) (l : List Int) : Prop := ∀ i, i < l.length → inB (l[i]?.getD 0) 0 m = true ∧ (0 < i → l[i-1]?.getD 0 ≤ l[i]?.getD 0)
instance (m : Int) (l : List Int) : Decidable (strokesP m l) := by unfold strokesP; infer_instance
theorem int_ne {x y : Int} (h : ¬ x = y) : (x != y) = true := by simp [h]
theorem int_eq {x y : Int} (h : x = y) : (x != y) = false := by simp [h]
theorem ilist_ext {l m : List Int} (hl : l.length = m.length) (h : ∀ j, j < l.length → l[j]?.getD 0 = m[j]?.getD 0) : l = m := by
  apply List.ext_getElem hl
  intro i h1 h2
  have := h i h1
  simpa [List.getElem?_eq_getElem h1, List.getElem?_eq_getElem h2] using this

end Go.Proofs.YtimmadkbkimonaaGreatDoor
namespace Go.Proofs.YtimmadkbkimonaaGreatDoor
set_option linter.unusedSimpArgs false
set_option linter.unusedVariables false
open Go.RowKit

def cmpZ : List Int → List Int → Int
  | [], [] => 0
  | [], _ :: _ => -1
  | _ :: _, [] => 1
  | x :: xs, y :: ys => if x < y then -1 else if y < x then 1 else cmpZ xs ys
theorem cmpZ_self : ∀ l, cmpZ l l = 0
  | [] => rfl
  | x :: xs => by unfold cmpZ; rw [if_neg (by omega), if_neg (by omega)]; exact cmpZ_self xs
theorem cmpZ_trans : ∀ l m n, cmpZ l m < 0 → cmpZ m n < 0 → cmpZ l n < 0
  | [], [], _, h, _ => by simp [cmpZ] at h
  | [], _ :: _, [], _, h => by simp [cmpZ] at h
  | [], _ :: _, _ :: _, _, _ => by simp [cmpZ]
  | _ :: _, [], _, h, _ => by simp [cmpZ] at h
  | _ :: _, _ :: _, [], _, h => by simp [cmpZ] at h
  | x :: xs, y :: ys, z :: zs, h1, h2 => by
    unfold cmpZ at h1 h2 ⊢
    split at h1
    · split at h2
      · rw [if_pos (by omega)]; decide
      · split at h2
        · cases h2
        · rw [if_pos (by omega)]; decide
    · split at h1
      · cases h1
      · split at h2
        · rw [if_pos (by omega)]; decide
        · split at h2
          · cases h2
          · rw [if_neg (by omega), if_neg (by omega)]
            exact cmpZ_trans xs ys zs h1 h2
def normalF (f : FaceV) : FaceV := (List.range f.S).foldl (fun least (b : Nat) => if cmpZ (turnF f b).kinds least.kinds < 0 then turnF f b else least) f
def normalP (f : FaceV) : FaceV × Int := if f.valid = true then (normalF f, 0) else (zeroF, 10)
section
variable {f g : FaceV}
theorem turn_zero (h : f.valid = true) : turnF f 0 = f := turn_dvd h (by simp)
theorem normal_go (h : f.valid = true) : ∀ k, k ≤ f.S → ∃ a : Int, (List.range k).foldl (fun least (b : Nat) => if cmpZ (turnF f b).kinds least.kinds < 0 then turnF f b else least) f = turnF f a ∧ (∀ b : Nat, b < k → ¬ cmpZ (turnF f b).kinds (turnF f a).kinds < 0) ∧ ¬ cmpZ f.kinds (turnF f a).kinds < 0
  | 0, _ => ⟨0, by rw [turn_zero h]; rfl, fun b hb => by omega, by rw [turn_zero h, cmpZ_self]; decide⟩
  | k + 1, hk => by
    obtain ⟨a, e, h1, h2⟩ := normal_go h k (by omega)
    rw [List.range_succ, List.foldl_append, e]
    simp only [List.foldl_cons, List.foldl_nil]
    by_cases hc : cmpZ (turnF f (k : Nat)).kinds (turnF f a).kinds < 0
    · rw [if_pos hc]
      refine ⟨k, rfl, fun b hb hlt => ?_, fun hlt => h2 (cmpZ_trans _ _ _ hlt hc)⟩
      by_cases hbk : b < k
      · exact h1 b hbk (cmpZ_trans _ _ _ hlt hc)
      · have : b = k := by omega
        subst this
        rw [cmpZ_self] at hlt
        cases hlt
    · rw [if_neg hc]
      refine ⟨a, rfl, fun b hb hlt => ?_, h2⟩
      by_cases hbk : b < k
      · exact h1 b hbk hlt
      · have : b = k := by omega
        subst this
        exact hc hlt
theorem normal_spec (h : f.valid = true) : ∃ a : Int, normalF f = turnF f a ∧ ∀ b : Int, ¬ cmpZ (turnF f b).kinds (normalF f).kinds < 0 := by
  obtain ⟨a, e, h1, _⟩ := normal_go h f.S (Nat.le_refl _)
  refine ⟨a, e, fun b hlt => ?_⟩
  have e2 : normalF f = turnF f a := e
  rw [e2] at hlt
  have hb0 := Int.emod_nonneg b (show f.sectors ≠ 0 by have := (FaceV.nat h).2.1; have := (FaceV.nat h).2.2.2.2.1; omega)
  have hb1 := Int.emod_lt_of_pos b (show 0 < f.sectors by have := (FaceV.nat h).2.1; have := (FaceV.nat h).2.2.2.2.1; omega)
  refine h1 (b % f.sectors).toNat (by have := (FaceV.nat h).2.1; omega) ?_
  rw [Int.toNat_of_nonneg hb0, turn_mod h]
  exact hlt
theorem normal_valid (h : f.valid = true) : (normalF f).valid = true := by
  obtain ⟨a, e, _⟩ := normal_spec h
  rw [e]
  exact turn_valid h a
end
end Go.Proofs.YtimmadkbkimonaaGreatDoor
