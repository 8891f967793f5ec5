/- Parts of the proof, in this order: with, Set of stones; A region that draws its order and whose last operation (number m: a store) hits what it loads: a condition S on the world, shown anew behind each operation but that one; header of stones; Steps of a list of operations, each with its value told; parseHeader of stones; Parse of stones at a text whose first line is wrong; Regions: what the flood leaves, plain; A range over a function whose iterator keeps state of its own in cells: one law, over any program, at the wide fence; From a walk that knows of no fence to one under the wide fence, in a round or not; a range over a function whose assignments make memory; Maps from int to int: what such a map in memory reads as, and its operations in these words; Cells, Area of stones. -/
import Derived.OrdersHeld
import Derived.StillTail
import Derived.Deep.RegionHeld3
import Derived.WalkKit
import Derived.Tactics2
import Derived.Laws.StructEq
import Derived.RangeFuncNested
import Derived.RangeFuncBound
import Derived.RangeFuncCalls
import Derived.RangeFuncLeaves
import Derived.OwnWalkIn
import Derived.TacticsInMore
import Derived.LoopNIn
import Derived.LoopIn
import Derived.Shelf.RegionOpen
import Derived.Maps.RangeWalk
import Derived.Maps.OwnSet
import Derived.DeepKeys4
import Derived.Test.YtimmadkbkimonaaGreatDoorKPsx1
set_option linter.unusedSimpArgs false
set_option linter.unusedVariables false
open List renaming getElem_toArray → lq0, getElem_cons_succ → lq1, getElem_cons_zero → lq2, setIfInBounds_toArray → lq3, set_cons_zero → lq4, set_cons_succ → lq5
namespace Go.Proofs.YtimmadkbkimonaaGreatDoor
set_option linter.unusedSimpArgs false
set_option linter.unusedVariables false
open Go.RowKit

def withF (f : FaceV) (l : List Int) : FaceV := { f with kinds := l }
theorem qoneF (f : FaceV) (a : Option Addr) (n : Nat) : (f.cells a n).all (·.oneCell') = true := qone f a n
set_option maxHeartbeats 4000000 in
set_option maxRecDepth 100000 in
theorem with_any (f : FaceV) (a : Option Addr) (n : Nat) (l : List Int) (b : Option Addr) (m cb : Nat) (w : World) (hl : l.length = m) :
    Calls Tryz.prog 97 #[.agg (f.cells a n), .slice b m cb] w fun e w' => e = .returned (.agg ((withF f l).cells b cb)) ∧ Below w.heap.size w w' := by
  have JL := Lib.hid hl
  clear hl
  have AL := Lib.hid (al2 w (.cells (f.cells a n) 28) (.cells #[.int .i64 0, .int .i64 0, .int .i64 0, .slice none 0 0] 28))
  go_enter Tryz.func97, Tryz.ntmps97
  go_upto_region 1 with fail
  obtain ⟨p, hp⟩ : ∃ p, Hid (w.heap.size = p) := ⟨_, Lib.hid rfl⟩
  obtain ⟨z, hz⟩ : ∃ z, Hid (w.heap.size + 1 = z) := ⟨_, Lib.hid rfl⟩
  rw [hz.out] at AL ⊢
  rw [hp.out] at AL ⊢
  generalize ((w.alloc (.cells (f.cells a n) 28)).alloc (.cells #[.int .i64 0, .int .i64 0, .int .i64 0, .slice none 0 0] 28)) = W0 at *
  have BF : Hid (Below w.heap.size w W0) := Lib.hid (by rw [hp.out]; exact AL.out.1)
  have XF : Hid (W0.heap[p]? = some (.cells (f.cells a n) 28 (0, 0))) := Lib.hid AL.out.2.1
  have XZ : Hid (W0.heap[z]? = some (.cells (zeroF.cells none 0) 28 (0, 0))) := Lib.hid AL.out.2.2
  clear AL
  have c0 := qcell XF.out 0 (.int .i64 f.eye) rfl
  have c1 := qcell XF.out 1 (.int .i64 f.rings) rfl
  have c2 := qcell XF.out 2 (.int .i64 f.sectors) rfl
  have c3 := qcell XF.out 3 (.slice a f.kinds.length n) rfl
  have fz := qfroz XF.out 3
  go_upto_region 2 with (first
    | (refine wpList_load_row rfl 28 _ rfl p rfl 28 (f.cells a n) (0, 0) _ XF.out Tryz.underlying28 rfl (by exact (qJF f a n)) ?_)
    | (refine wpList_load_row rfl 28 _ rfl z rfl 28 (zeroF.cells none 0) (0, 0) _ XZ.out Tryz.underlying28 rfl (by exact (qJF zeroF none 0)) ?_)
    | fail)
  clear c0 c1 c2 c3
  clear fz
  have XG : Hid ((W0.setCell ⟨p, 3, none⟩ (.slice b m cb)).heap[p]? = some (.cells ((withF f l).cells b cb) 28 (0, 0))) := Lib.hid (by rw [qput_at XF.out 3 _, ← JL.out]; rfl)
  have HG := qput_grown W0 p 3 (.slice b m cb)
  replace BF := Lib.hid (qstep BF.out HG (by have h1 := hp.out; omega))
  replace XZ := Lib.hid (qgrown HG XZ.out (fun e => by have h1 := hp.out; have h2 := hz.out; have := Option.some.inj e; omega))
  clear HG XF
  generalize W0.setCell ⟨p, 3, none⟩ (.slice b m cb) = W1 at *
  go_wp2_with (first
    | (refine wpList_load_row rfl 28 _ rfl p rfl 28 ((withF f l).cells b cb) (0, 0) _ XG.out Tryz.underlying28 rfl (by exact (qJF (withF f l) b cb)) ?_)
    | (refine wpList_load_row rfl 28 _ rfl z rfl 28 (zeroF.cells none 0) (0, 0) _ XZ.out Tryz.underlying28 rfl (by exact (qJF zeroF none 0)) ?_)
    | (refine wpList_qstore rfl 28 _ _ rfl z (zeroF.cells none 0) ((withF f l).cells b cb) 28 rfl rfl XZ.out (by exact (qJF (withF f l) b cb)) rfl (qoneF (withF f l) b cb) ?_; intro VZ hzz hgz; replace BF := Lib.hid (qstep BF.out hgz (by have h1 := hz.out; omega)); replace XG := Lib.hid (qgrown hgz XG.out (fun e => by have h1 := hp.out; have h2 := hz.out; have := Option.some.inj e; omega)); replace XZ := Lib.hid hzz; clear hzz hgz)
    | fail)
  (try simp only [Exit.inBlock, Exit.then])
  refine bodyPost_ret (results_cell_row rfl _ VZ z 28 ((withF f l).cells b cb) (0, 0) _ rfl XZ.out Tryz.underlying28 rfl (by exact (qJF (withF f l) b cb))) rfl ?_
  exact ⟨rfl, BF.out⟩
end Go.Proofs.YtimmadkbkimonaaGreatDoor
namespace Go.Proofs.YtimmadkbkimonaaGreatDoor

section
variable {P : Program} {ops : Array Oper} {Q : Exit → Act → World → Prop} {md : Region.Mode} {m : Nat} {S : World → Prop}
def AnyBut (P : Program) (md : Region.Mode) (ops : Array Oper) (Q : Exit → Act → World → Prop) (m : Nat) (S : World → Prop) : Nat → Array Bool → Act → World → Prop
  | 0, l, a, w => Region.ready md ops l = [] ∧ Q .normal a w
  | n + 1, l, a, w => (Region.ready md ops l = [] → Q .normal a w) ∧ ∀ i ∈ Region.ready md ops l, wpOp P ops Q i (fun a' w' => (i ≠ m → S w') ∧ AnyBut P md ops Q m S n (l.setIfInBounds i true) a' w') a w
theorem AnyBut.any : ∀ (n : Nat) (l : Array Bool) (a : Act) (w : World), AnyBut P md ops Q m S n l a w → wpAny P md ops Q n l a w
  | 0, _, _, _, h => h
  | n + 1, _, _, _, h => ⟨h.1, fun i hi => wpOp_mono (fun a' w' h' => AnyBut.any n _ a' w' h'.2) (h.2 i hi)⟩
theorem AnyBut.done {l : Array Bool} {a : Act} {w : World} (hr : Region.ready md ops l = []) (h : Q .normal a w) : ∀ n, AnyBut P md ops Q m S n l a w
  | 0 => ⟨hr, h⟩
  | _ + 1 => ⟨fun _ => h, by rw [hr]; simp⟩
theorem not_ready {i : Nat} {l : Array Bool} (hm : Region.waitsFor md ops m i = true) (hi : l.getD i true = false) : m ∉ Region.ready md ops l := fun hr => by
  obtain ⟨oj, hj, e, he, hb, hon⟩ := Region.waitsFor_spec hm
  obtain ⟨_, oj', hj', hall⟩ := mem_ready.1 hr
  have h0 : oj' = oj := Option.some.inj (hj'.symm.trans hj)
  subst h0
  have h1 := hall e he hb
  rw [hon, getD_both hi] at h1
  cases h1
theorem AnyBut.first {i : Nat} {oi : Oper} {v : Value} (hi : ops[i]? = some oi) (hsel : ∀ (j : Nat) (o : Oper) cs b, ops[j]? = some o → o.op ≠ .select cs b) (hm : Region.waitsFor md ops m i = true) (hne : i ≠ m)
    (hQ : ∀ c a w, Q (.panic c) (a.put oi.dst v) w → Q (.panic c) a w) : ∀ (n : Nat) (l : Array Bool) (a : Act) (w : World),
      (∀ j oj, ops[j]? = some oj → j ≠ i → l.getD j true = false → (∀ e ∈ oj.after, Region.binds md e = true → e.on ≠ i) → oi.apart ops oj = true) →
      i ∈ Region.ready md ops l → YieldsIf P ops S oi v a → S w → AnyBut P md ops Q m S n (l.setIfInBounds i true) (a.put oi.dst v) w → AnyBut P md ops Q m S (n + 1) l a w := by
  intro n
  induction n with
  | zero =>
    intro l a w _ hr hy hS H
    refine ⟨fun h => (by rw [h] at hr; cases hr), fun j hj => ?_⟩
    by_cases e : j = i
    · rw [e]; exact hy.wpOp hi hS ⟨fun _ => hS, H⟩
    · have h1 := ready_mono hj e
      rw [H.1] at h1
      cases h1
  | succ n ih =>
    intro l a w hfree hr hy hS H
    refine ⟨fun h => (by rw [h] at hr; cases hr), fun j hj => ?_⟩
    by_cases e : j = i
    · rw [e]; exact hy.wpOp hi hS ⟨fun _ => hS, H⟩
    · obtain ⟨hjun, oj, hoj, hall⟩ := mem_ready.1 hj
      have hiun := (mem_ready.1 hr).1
      have hjm : j ≠ m := fun e2 => not_ready hm hiun (e2 ▸ hj)
      have hno : ∀ x ∈ oj.after, Region.binds md x = true → x.on ≠ i := fun x hx hb heq => by
        have h1 := hall x hx hb
        rw [heq, getD_both hiun] at h1
        cases h1
      have h2 := wpOp_putIf hoj (hfree j oj hoj e hjun hno) (fun cs b => hsel i oi cs b hi) (fun cs b => hsel j oj cs b hoj) hQ hy (H.2 j (ready_mono hj e))
      refine wpOp_mono (fun a' w' h3 => ⟨fun _ => h3.2.1 hjm, ih (l.setIfInBounds j true) a' w' (fun k ok hk hki hun hn => ?_) (ready_mono hr (Ne.symm e)) h3.1 (h3.2.1 hjm) ?_⟩) h2
      · refine hfree k ok hk hki ?_ hn
        by_cases e2 : j = k
        · rw [← e2]; exact hjun
        · rw [getD_set_ne true e2] at hun; exact hun
      · rw [Array.setIfInBounds_comm _ _ e]
        exact h3.2.2
theorem AnyBut.take {i : Nat} {oi : Oper} {v : Value} {n : Nat} {l : Array Bool} {a : Act} {w : World} (hi : ops[i]? = some oi) (hs : Region.noSelect ops = true) (hf : Region.free md ops l i = true) (hr : (Region.ready md ops l).contains i = true)
    (hm : (Region.waitsFor md ops m i && decide (i ≠ m)) = true) (hQ : ∀ c a w, Q (.panic c) (a.put oi.dst v) w → Q (.panic c) a w) (hy : YieldsIf P ops S oi v a) (hS : S w)
    (h : AnyBut P md ops Q m S n (l.setIfInBounds i true) (a.put oi.dst v) w) : AnyBut P md ops Q m S (n + 1) l a w := by
  rw [Bool.and_eq_true, decide_eq_true_eq] at hm
  exact AnyBut.first hi (Region.noSelect_spec hs) hm.1 hm.2 hQ n l a w (Region.free_spec hi hf) (by simpa using hr) hy hS h
def AllBut (P : Program) (md : Region.Mode) (ops : Array Oper) (Q : Exit → Act → World → Prop) (m : Nat) (S : World → Prop) (n : Nat) (l : Array Bool) (a : Act) (w : World) (rs : List Nat) : Prop :=
  ∀ i ∈ rs, wpOp P ops Q i (fun a' w' => (i ≠ m → S w') ∧ AnyBut P md ops Q m S n (l.setIfInBounds i true) a' w') a w
theorem AllBut.nil {n : Nat} {l : Array Bool} {a : Act} {w : World} : AllBut P md ops Q m S n l a w [] := fun _ h => by cases h
theorem AllBut.cons {n : Nat} {l : Array Bool} {a : Act} {w : World} {i : Nat} {o : Oper} {rs : List Nat} (ho : ops[i]? = some o)
    (h : ∀ K : Act → World → Prop, Shut (∀ a w, S w → (S w → AnyBut P md ops Q m S n (l.setIfInBounds i true) a w) → K a w) → if Region.wanted o (yielded ops a.tmps) = true then Oper.wp P o a w K Q else K (a.put o.dst undef) w)
    (hs : AllBut P md ops Q m S n l a w rs) : AllBut P md ops Q m S n l a w (i :: rs) := fun j hj => by
  rcases List.mem_cons.1 hj with e | hj
  · rw [e]
    exact wpOp_step ho (fun K hK => h K (fun a w hS hW => hK a w ⟨fun _ => hS, hW hS⟩))
  · exact hs j hj
theorem AllBut.last {n : Nat} {l : Array Bool} {a : Act} {w : World} {o : Oper} (ho : ops[m]? = some o)
    (h : ∀ K : Act → World → Prop, Shut (∀ a w, AnyBut P md ops Q m S n (l.setIfInBounds m true) a w → K a w) → if Region.wanted o (yielded ops a.tmps) = true then Oper.wp P o a w K Q else K (a.put o.dst undef) w) : AllBut P md ops Q m S n l a w [m] := fun j hj => by
  rw [List.mem_singleton.1 hj]
  exact wpOp_step ho (fun K hK => h K (fun a w hW => hK a w ⟨fun e => absurd rfl e, hW⟩))
theorem AnyBut.ready {rs : List Nat} {n : Nat} {l : Array Bool} {a : Act} {w : World} (hr : Region.ready md ops l = rs) (hne : rs ≠ []) (h : AllBut P md ops Q m S n l a w rs) : AnyBut P md ops Q m S (n + 1) l a w :=
  ⟨fun h0 => absurd (hr ▸ h0) hne, hr ▸ h⟩
theorem bW {n : Nat} {l : Array Bool} {a a' : Act} {w : World} (i : Nat) {oi : Oper} (hi : ops[i]? = some oi) (v : Value) (h : AnyBut P md ops Q m S n (l.setIfInBounds i true) a' w)
    (hs : Region.noSelect ops = true := by kernel_rfl) (hf : Region.free md ops l i = true := by kernel_rfl) (hr : (Region.ready md ops l).contains i = true := by kernel_rfl) (hm : (Region.waitsFor md ops m i && decide (i ≠ m)) = true := by kernel_rfl)
    (hQ : ∀ c a w, Q (.panic c) (a.put oi.dst v) w → Q (.panic c) a w := by exact fun _ _ _ h => h) (hS : S w := by assumption) (hy : YieldsIf P ops S oi v a := by exact Or.inl ⟨by kernel_rfl, by intro W _; go_simp⟩)
    (ha : a.put oi.dst v = a' := by first | (simp only [Act.put, List.getElem_toArray, List.getElem_cons_succ, List.getElem_cons_zero, List.setIfInBounds_toArray, List.set_cons_zero, List.set_cons_succ]; rfl) | rfl) :
    AnyBut P md ops Q m S (n + 1) l a w := AnyBut.take hi hs hf hr hm hQ hy hS (ha ▸ h)
theorem bS {n : Nat} {l : Array Bool} {a a' : Act} {w : World} (i : Nat) {oi : Oper} (hi : ops[i]? = some oi) (v : Value) (hq : ∀ W, S W → (execOp a.eval oi).run P W = .ok (.value v) W) (h : AnyBut P md ops Q m S n (l.setIfInBounds i true) a' w)
    (hs : Region.noSelect ops = true := by kernel_rfl) (hf : Region.free md ops l i = true := by kernel_rfl) (hr : (Region.ready md ops l).contains i = true := by kernel_rfl) (hm : (Region.waitsFor md ops m i && decide (i ≠ m)) = true := by kernel_rfl)
    (hQ : ∀ c a w, Q (.panic c) (a.put oi.dst v) w → Q (.panic c) a w := by exact fun _ _ _ h => h) (hS : S w := by assumption) (hw : Region.wanted oi (yielded ops a.tmps) = true := by kernel_rfl)
    (ha : a.put oi.dst v = a' := by first | (simp only [Act.put, List.getElem_toArray, List.getElem_cons_succ, List.getElem_cons_zero, List.setIfInBounds_toArray, List.set_cons_zero, List.set_cons_succ]; rfl) | rfl) :
    AnyBut P md ops Q m S (n + 1) l a w := AnyBut.take hi hs hf hr hm hQ (.inl ⟨hw, hq⟩) hS (ha ▸ h)
theorem bR {n : Nat} {l : Array Bool} {a : Act} {w : World} (i : Nat) {o : Oper} (ho : ops[i]? = some o)
    (h : ∀ K : Act → World → Prop, Shut (∀ a w, S w → (S w → AnyBut P md ops Q m S n (l.setIfInBounds i true) a w) → K a w) → if Region.wanted o (yielded ops a.tmps) = true then Oper.wp P o a w K Q else K (a.put o.dst undef) w)
    (hr : Region.ready md ops l = [i] := by kernel_rfl) : AnyBut P md ops Q m S (n + 1) l a w := AnyBut.ready hr (by simp) (AllBut.cons ho h AllBut.nil)
theorem bL {n : Nat} {l : Array Bool} {a : Act} {w : World} {o : Oper} (ho : ops[m]? = some o)
    (h : ∀ K : Act → World → Prop, Shut (∀ a w, AnyBut P md ops Q m S n (l.setIfInBounds m true) a w → K a w) → if Region.wanted o (yielded ops a.tmps) = true then Oper.wp P o a w K Q else K (a.put o.dst undef) w)
    (hr : Region.ready md ops l = [m] := by kernel_rfl) : AnyBut P md ops Q m S (n + 1) l a w := AnyBut.ready hr (by simp) (AllBut.last ho h)
theorem bK {n : Nat} {l : Array Bool} {a a' : Act} {w : World} {K : Act → World → Prop} (hK : Shut (∀ a w, S w → (S w → AnyBut P md ops Q m S n l a w) → K a w)) (hS : S w) (h : S w → AnyBut P md ops Q m S n l a' w)
    (ha : a = a' := by first | (simp only [Act.put, List.getElem_toArray, List.getElem_cons_succ, List.getElem_cons_zero, List.setIfInBounds_toArray, List.set_cons_zero, List.set_cons_succ]; rfl) | rfl) : K a w := by
  subst ha
  exact hK.out _ _ hS h
theorem bE {n : Nat} {l : Array Bool} {a : Act} {w : World} {Q : Exit → Act → World → Prop} (h : Q .normal a w) (hr : Region.ready md ops l = [] := by kernel_rfl) : AnyBut P md ops (NoPanic Q) m S n l a w := AnyBut.done hr (NoPanic.normal h) _
theorem bD {id : Nat} {a : Act} {w : World} {Q : Exit → Act → World → Prop} (m : Nat) (S : World → Prop) (hS : S w.drew) (h : S w.drew → AnyBut P .any ops (NoPanic Q) m S ops.size (Array.replicate ops.size false) a w.drew) (hm : P.follows .mixedOrders = true := by kernel_rfl) :
    (Code.region id ops true).wp P Q a w := wp_region_noPanic (wp_region_any hm (AnyBut.any _ _ _ _ (h hS)))
end
end Go.Proofs.YtimmadkbkimonaaGreatDoor
namespace Go.Proofs.YtimmadkbkimonaaGreatDoor
set_option linter.unusedSimpArgs false
set_option linter.unusedVariables false
open Go.RowKit

theorem dig_all : (List.range 100).all (fun n => Lib.decDigits n == itoaB n) = true := by decide +kernel
theorem dig_itoa {n : Nat} (h : n < 100) : Lib.decDigits n = itoaB n := by
  have := List.all_eq_true.1 dig_all n (List.mem_range.2 h)
  simpa using this
def headS (f : FaceV) : ByteArray := ⟨(headB f).toArray⟩
theorem bytes_ext {a b : ByteArray} (h : a.data.toList = b.data.toList) : a = b := by
  obtain ⟨⟨x⟩⟩ := a
  obtain ⟨⟨y⟩⟩ := b
  simp only at h
  subst h
  rfl
theorem headS_eq {f : FaceV} (h : headF f = true) : (((((⟨#[102, 97, 99, 101, 32]⟩ : ByteArray) ++ ⟨(Lib.decDigits f.eye.toNat).toArray⟩) ++ ⟨#[32]⟩) ++ ⟨(Lib.decDigits f.rings.toNat).toArray⟩) ++ ⟨#[32]⟩) ++ ⟨(Lib.decDigits f.sectors.toNat).toArray⟩ = headS f := by
  have hh := headF_iff.1 h
  rw [dig_itoa (n := f.eye.toNat) (by omega), dig_itoa (n := f.rings.toNat) (by omega), dig_itoa (n := f.sectors.toNat) (by omega)]
  apply bytes_ext
  unfold headS headB
  simp [faceB]
theorem sz1 : (⟨#[32]⟩ : ByteArray).size = 1 := rfl
theorem sz5 : (⟨#[102, 97, 99, 101, 32]⟩ : ByteArray).size = 5 := rfl
set_option maxHeartbeats 4000000 in
set_option maxRecDepth 100000 in
theorem header_any (f : FaceV) (a : Option Addr) (n : Nat) (w : World) (hv : headF f = true) : Calls Tryz.prog 74 #[.agg (f.cells a n)] w fun e w' => e = .returned (.string (headS f)) ∧ Below w.heap.size w w' := by
  have DL : Hid ((Lib.decDigits f.eye.toNat).length ≤ 2 ∧ (Lib.decDigits f.rings.toNat).length ≤ 2 ∧ (Lib.decDigits f.sectors.toNat).length ≤ 2) := Lib.hid (by
    have hh := headF_iff.1 hv
    rw [dig_itoa (n := f.eye.toNat) (by omega), dig_itoa (n := f.rings.toNat) (by omega), dig_itoa (n := f.sectors.toNat) (by omega)]
    have h : ∀ n, (itoaB n).length ≤ 2 := fun n => by unfold itoaB; split <;> simp
    exact ⟨h _, h _, h _⟩)
  have HH := Lib.hid (headF_iff.1 hv)
  have EQ := Lib.hid (headS_eq hv)
  have IE := Lib.hid (fun W => sh_strconv_Itoa_small f.eye.toNat (by have := HH.out; omega) W)
  have IR := Lib.hid (fun W => sh_strconv_Itoa_small f.rings.toNat (by have := HH.out; omega) W)
  have IS := Lib.hid (fun W => sh_strconv_Itoa_small f.sectors.toNat (by have := HH.out; omega) W)
  rw [Int.toNat_of_nonneg (by have := HH.out; omega)] at IE IR IS
  clear hv
  obtain ⟨x1, hx1⟩ : ∃ x, Hid ((⟨(Lib.decDigits f.eye.toNat).toArray⟩ : ByteArray) = x) := ⟨_, Lib.hid rfl⟩
  obtain ⟨x2, hx2⟩ : ∃ x, Hid ((⟨(Lib.decDigits f.rings.toNat).toArray⟩ : ByteArray) = x) := ⟨_, Lib.hid rfl⟩
  obtain ⟨x3, hx3⟩ : ∃ x, Hid ((⟨(Lib.decDigits f.sectors.toNat).toArray⟩ : ByteArray) = x) := ⟨_, Lib.hid rfl⟩
  have L1 : Hid (x1.size ≤ 2) := Lib.hid (by rw [← hx1.out]; exact DL.out.1)
  have L2 : Hid (x2.size ≤ 2) := Lib.hid (by rw [← hx2.out]; exact DL.out.2.1)
  have L3 : Hid (x3.size ≤ 2) := Lib.hid (by rw [← hx3.out]; exact DL.out.2.2)
  rw [hx1.out] at EQ IE
  rw [hx2.out] at EQ IR
  rw [hx3.out] at EQ IS
  clear hx1 hx2 hx3 DL
  obtain ⟨s1, hs1⟩ : ∃ x, Hid ((⟨#[102, 97, 99, 101, 32]⟩ : ByteArray) ++ x1 = x) := ⟨_, Lib.hid rfl⟩
  obtain ⟨s2, hs2⟩ : ∃ x, Hid (s1 ++ (⟨#[32]⟩ : ByteArray) = x) := ⟨_, Lib.hid rfl⟩
  obtain ⟨s3, hs3⟩ : ∃ x, Hid (s2 ++ x2 = x) := ⟨_, Lib.hid rfl⟩
  obtain ⟨s4, hs4⟩ : ∃ x, Hid (s3 ++ (⟨#[32]⟩ : ByteArray) = x) := ⟨_, Lib.hid rfl⟩
  obtain ⟨s5, hs5⟩ : ∃ x, Hid (s4 ++ x3 = x) := ⟨_, Lib.hid rfl⟩
  rw [hs1.out, hs2.out, hs3.out, hs4.out, hs5.out] at EQ
  have M1 : Hid (s1.size ≤ 10) := Lib.hid (by have := L1.out; rw [← hs1.out, ByteArray.size_append]; show 5 + _ ≤ _; omega)
  have M2 : Hid (s2.size ≤ 12) := Lib.hid (by have := M1.out; rw [← hs2.out, ByteArray.size_append]; show _ + 1 ≤ _; omega)
  have M3 : Hid (s3.size ≤ 20) := Lib.hid (by have := M2.out; have := L2.out; rw [← hs3.out, ByteArray.size_append]; omega)
  have M4 : Hid (s4.size ≤ 22) := Lib.hid (by have := M3.out; rw [← hs4.out, ByteArray.size_append]; show _ + 1 ≤ _; omega)
  have AL := Lib.hid (al1 w (.cells (f.cells a n) 28))
  go_enter Tryz.func74, Tryz.ntmps74
  go_upto_region 1 with fail
  obtain ⟨p, hp⟩ : ∃ p, Hid (w.heap.size = p) := ⟨_, Lib.hid rfl⟩
  rw [hp.out] at AL ⊢
  generalize (w.alloc (.cells (f.cells a n) 28)) = W0 at *
  have BF : Hid (Below w.heap.size w W0) := Lib.hid (by rw [hp.out]; exact AL.out.1)
  have XF : Hid (W0.heap[p]? = some (.cells (f.cells a n) 28 (0, 0))) := Lib.hid AL.out.2
  clear AL
  have c0 := qcell XF.out 0 (.int .i64 f.eye) rfl
  have c1 := qcell XF.out 1 (.int .i64 f.rings) rfl
  have c2 := qcell XF.out 2 (.int .i64 f.sectors) rfl
  have c3 := qcell XF.out 3 (.slice a f.kinds.length n) rfl
  clear c0 c1 c2 c3
  have hd : Below W0.heap.size W0 W0.drew := (Below.refl _ _).drew
  replace BF := Lib.hid (BF.out.drew)
  replace XF := Lib.hid (qblk hd XF.out)
  refine zD (fun W => Below w.heap.size w W ∧ W.heap[p]? = some (.cells (f.cells a n) 28 (0, 0))) ⟨BF.out, XF.out⟩ (fun hHeld => ?_)
  clear hd
  generalize W0.drew = V0 at *
  refine zW 0 rfl (.pointer (some ⟨p, 0, none⟩)) ?_
  refine zS 1 rfl (.int .i64 f.eye) (fun W hW => by have c := qcell hW.2 0 (.int .i64 f.eye) rfl; go_simp) ?_
  refine zW 5 rfl (.pointer (some ⟨p, 1, none⟩)) ?_
  refine zS 6 rfl (.int .i64 f.rings) (fun W hW => by have c := qcell hW.2 1 (.int .i64 f.rings) rfl; go_simp) ?_
  refine zW 10 rfl (.pointer (some ⟨p, 2, none⟩)) ?_
  refine zS 11 rfl (.int .i64 f.sectors) (fun W hW => by have c := qcell hW.2 2 (.int .i64 f.sectors) rfl; go_simp) ?_
  refine zR 2 rfl (fun K hK => ?_)
  go_simp
  refine (IE.out _).mono ?_
  rintro e V1 ⟨rfl, rfl⟩
  dsimp only
  refine zK hK ⟨BF.out, XF.out⟩ (fun hHeld => ?_)
  clear hK K
  refine zW 3 rfl (.string s1) (hy := .inl ⟨by kernel_rfl, by intro W _; have e := hs1.out; go_simp; have l1 := L1.out; have l2 := L1.out; (try simp only [sz1, sz5]); omega⟩) ?_
  refine zW 4 rfl (.string s2) (hy := .inl ⟨by kernel_rfl, by intro W _; have e := hs2.out; go_simp; have l1 := M1.out; have l2 := M1.out; (try simp only [sz1, sz5]); omega⟩) ?_
  refine zR 7 rfl (fun K hK => ?_)
  go_simp
  refine (IR.out _).mono ?_
  rintro e V1 ⟨rfl, rfl⟩
  dsimp only
  refine zK hK ⟨BF.out, XF.out⟩ (fun hHeld => ?_)
  clear hK K
  refine zW 8 rfl (.string s3) (hy := .inl ⟨by kernel_rfl, by intro W _; have e := hs3.out; go_simp; have l1 := M2.out; have l2 := L2.out; (try simp only [sz1, sz5]); omega⟩) ?_
  refine zW 9 rfl (.string s4) (hy := .inl ⟨by kernel_rfl, by intro W _; have e := hs4.out; go_simp; have l1 := M3.out; have l2 := M3.out; (try simp only [sz1, sz5]); omega⟩) ?_
  refine zR 12 rfl (fun K hK => ?_)
  go_simp
  refine (IS.out _).mono ?_
  rintro e V1 ⟨rfl, rfl⟩
  dsimp only
  refine zK hK ⟨BF.out, XF.out⟩ (fun hHeld => ?_)
  clear hK K
  refine zW 13 rfl (.string s5) (hy := .inl ⟨by kernel_rfl, by intro W _; have e := hs5.out; go_simp; have l1 := M4.out; have l2 := L3.out; (try simp only [sz1, sz5]); omega⟩) ?_
  refine zW 14 rfl (.string s5) ?_
  refine zE ?_
  go_wp2_with fail
  go_ret
  exact ⟨by rw [← EQ.out]; rfl, BF.out⟩
end Go.Proofs.YtimmadkbkimonaaGreatDoor
namespace Go.Proofs.YtimmadkbkimonaaGreatDoor
section
variable {P : Program} {ops : Array Oper} {Q : Exit → Act → World → Prop} {rest : List Oper} {o : Oper} {a a' : Act} {w : World}
theorem yW (v : Value) (h : wpList P ops Q rest a' w) (hy : YieldsIf P ops (fun W => W = w) o v a := by exact Or.inl ⟨by kernel_rfl, by intro W hW; rw [hW]; go_simp⟩)
    (ha : a.put o.dst v = a' := by first | (simp only [Act.put, List.getElem_toArray, List.getElem_cons_succ, List.getElem_cons_zero, List.setIfInBounds_toArray, List.set_cons_zero, List.set_cons_succ]; rfl) | rfl) : wpList P ops Q (o :: rest) a w := by
  subst ha
  unfold wpList
  rcases hy with ⟨hw, hv⟩ | ⟨hw, rfl⟩
  · rw [if_pos hw]
    left
    unfold Oper.wp
    rw [hv w rfl]
    exact h
  · rw [if_neg (by rw [hw]; exact Bool.false_ne_true)]
    exact h
theorem yM (v : Value) (h : wpList P ops Q rest a' w) (hw : Region.wanted o (yielded ops a.tmps) = true := by kernel_rfl) (hv : ∀ W, (execOp a.eval o).run P W = .ok (.value v) W := by intro W; kernel_rfl)
    (ha : a.put o.dst v = a' := by first | (simp only [Act.put, List.getElem_toArray, List.getElem_cons_succ, List.getElem_cons_zero, List.setIfInBounds_toArray, List.set_cons_zero, List.set_cons_succ]; rfl) | rfl) : wpList P ops Q (o :: rest) a w :=
  yW v h (.inl ⟨hw, fun W _ => hv W⟩) ha
theorem yR (h : ∀ K : Act → World → Prop, RowKit.Hid (∀ a w, wpList P ops Q rest a w → K a w) → o.wp P a w K Q) (hw : Region.wanted o (yielded ops a.tmps) = true := by kernel_rfl) : wpList P ops Q (o :: rest) a w := by
  unfold wpList
  rw [if_pos hw]
  exact .inl (h _ (Lib.hid fun _ _ h => h))
theorem yK {K : Act → World → Prop} (hK : RowKit.Hid (∀ a w, wpList P ops Q rest a w → K a w)) (h : wpList P ops Q rest a' w)
    (ha : a = a' := by first | (simp only [Act.put, List.getElem_toArray, List.getElem_cons_succ, List.getElem_cons_zero, List.setIfInBounds_toArray, List.set_cons_zero, List.set_cons_succ]; rfl) | rfl) : K a w := by
  subst ha
  exact hK.out _ _ h
theorem yE (h : Q .normal a w) : wpList P ops Q [] a w := wpList_nil h
theorem yB {id : Nat} {l : List Oper} (h : wpList P l.toArray Q l a w) : (Code.region id l.toArray false).wp P Q a w := wp_region_lit h
end
end Go.Proofs.YtimmadkbkimonaaGreatDoor
namespace Go.Proofs.YtimmadkbkimonaaGreatDoor
set_option linter.unusedSimpArgs false
set_option linter.unusedVariables false
open Go.RowKit

def EnvW (W : World) : Prop := (∃ m, W.cell? ⟨0, 0, none⟩ = some (.int .i64 m)) ∧ (∃ ev, W.cell? ⟨3, 0, none⟩ = some ev ∧ (ev = .nilIface ∨ ∃ te pe, ev = .iface te pe)) ∧ ∃ ev, W.cell? ⟨4, 0, none⟩ = some ev ∧ (ev = .nilIface ∨ ∃ te pe, ev = .iface te pe)
theorem EnvW.below {W W' : World} (h : EnvW W) (hb : Below W.heap.size W W') : EnvW W' := by
  obtain ⟨⟨m, h1⟩, ⟨e1, h2, h3⟩, ⟨e2, h4, h5⟩⟩ := h
  exact ⟨⟨m, (hb.cell (p := ⟨0, 0, none⟩) (World.block_lt_of_cell? W _ h1)).trans h1⟩, ⟨e1, (hb.cell (p := ⟨3, 0, none⟩) (World.block_lt_of_cell? W _ h2)).trans h2, h3⟩, ⟨e2, (hb.cell (p := ⟨4, 0, none⟩) (World.block_lt_of_cell? W _ h4)).trans h4, h5⟩⟩
def atoiV (l : List UInt8) : Int := match Lib.atoiAll l with
  | Lib.NumEnd.ok v => v
  | Lib.NumEnd.syntax => 0
  | Lib.NumEnd.range => Lib.atoiSat l
theorem atoi_any (s : ByteArray) (w : World) (hs : s.size ≤ 1000000) (he : EnvW w) : Calls Tryz.prog 124 #[.string s] w fun e w' => (∃ ev, e = .returned (.tuple #[.int .i64 (atoiV s.data.toList), ev])) ∧ Below w.heap.size w w' := by
  obtain ⟨_, ⟨e1, h2, h3⟩, ⟨e2, h4, h5⟩⟩ := he
  unfold atoiV
  match h : Lib.atoiAll s.data.toList with
  | Lib.NumEnd.ok v =>
    refine (sh_strconv_Atoi_ok s (by omega) v h w).mono ?_
    rintro e W ⟨rfl, hw⟩
    refine ⟨⟨_, rfl⟩, ?_⟩
    rcases hw with rfl | ⟨t, rfl⟩
    · exact Below.refl _ _
    · exact Lib.bytesWorld_below _ _ _
  | Lib.NumEnd.syntax =>
    refine (sh_strconv_Atoi_syntax s (by omega) h e1 w h2 h3).mono ?_
    rintro e W ⟨N, rfl, _, _, hb⟩
    exact ⟨⟨_, rfl⟩, hb⟩
  | Lib.NumEnd.range =>
    refine (sh_strconv_Atoi_range s (by omega) h e2 w h4 h5).mono ?_
    rintro e W ⟨N, rfl, _, _, hb⟩
    exact ⟨⟨_, rfl⟩, hb⟩
def wordsS (s : ByteArray) : List ByteArray := Lib.splitB ⟨#[32]⟩ 0 (Lib.countB s ⟨#[32]⟩) s
theorem wordsS_len (s : ByteArray) : (wordsS s).length = Lib.countB s ⟨#[32]⟩ + 1 := Lib.splitB_all ⟨#[32]⟩ (by decide) 0 _ s rfl
theorem splitB_size (sep : ByteArray) : ∀ (k : Nat) (s x : ByteArray), x ∈ Lib.splitB sep 0 k s → x.size ≤ s.size
  | 0, s, x, h => by
    have := List.mem_singleton.1 h
    subst this; exact Nat.le_refl _
  | k + 1, s, x, h => by
    unfold Lib.splitB at h
    split at h
    · have := List.mem_singleton.1 h
      subst this; exact Nat.le_refl _
    · rcases List.mem_cons.1 h with h | h
      · subst h
        rw [ByteArray.size_extract]; omega
      · have := splitB_size sep k _ x h
        rw [ByteArray.size_extract] at this; omega
theorem wordsS_size (s x : ByteArray) (h : x ∈ wordsS s) : x.size ≤ s.size := splitB_size _ _ s x h
def hdrF (s : ByteArray) : FaceV × Bool := match wordsS s with
  | [_, a, b, c] => (⟨atoiV a.data.toList, atoiV b.data.toList, atoiV c.data.toList, []⟩, headF ⟨atoiV a.data.toList, atoiV b.data.toList, atoiV c.data.toList, []⟩ && headS ⟨atoiV a.data.toList, atoiV b.data.toList, atoiV c.data.toList, []⟩ == s)
  | _ => (zeroF, false)
def hdrC (a b c : Int) (k : Nat) : Array Value := #[.int .i64 (if 0 < k then a else 0), .int .i64 (if 1 < k then b else 0), .int .i64 (if 2 < k then c else 0), .slice none 0 0]
theorem hdrF_four {s w0 a b c : ByteArray} (h : wordsS s = [w0, a, b, c]) : hdrF s = (⟨atoiV a.data.toList, atoiV b.data.toList, atoiV c.data.toList, []⟩, headF ⟨atoiV a.data.toList, atoiV b.data.toList, atoiV c.data.toList, []⟩ && headS ⟨atoiV a.data.toList, atoiV b.data.toList, atoiV c.data.toList, []⟩ == s) := by
  unfold hdrF
  rw [h]
theorem hdrF_not {s : ByteArray} (h : (wordsS s).length ≠ 4) : hdrF s = (zeroF, false) := by
  unfold hdrF
  split
  · rename_i h1; rw [h1] at h; exact absurd rfl h
  · rfl
set_option maxHeartbeats 4000000 in
set_option maxRecDepth 100000 in
theorem parseHeader_any (s : ByteArray) (w : World) (hs : s.size ≤ 100000) (he : EnvW w) : Calls Tryz.prog 81 #[.string s] w fun e w' => e = .returned (.tuple #[.agg ((hdrF s).1.cells none 0), .bool (hdrF s).2]) ∧ Below w.heap.size w w' := by
  have EV := Lib.hid (fun W (hb : Below w.heap.size w W) => he.below hb)
  have HS := Lib.hid hs
  clear he hs
  have AL := Lib.hid (al2 w (.cells #[.int .i64 0, .int .i64 0, .int .i64 0, .slice none 0 0] 28) (.cells #[.int .i64 0, .int .i64 0, .int .i64 0, .slice none 0 0] 28))
  go_enter Tryz.func81, Tryz.ntmps81
  go_upto_region 2 with fail
  obtain ⟨z, hz⟩ : ∃ z, Hid (w.heap.size = z) := ⟨_, Lib.hid rfl⟩
  obtain ⟨p, hp⟩ : ∃ p, Hid (w.heap.size + 1 = p) := ⟨_, Lib.hid rfl⟩
  rw [hp.out] at AL ⊢
  rw [hz.out] at AL ⊢
  generalize ((w.alloc (.cells #[.int .i64 0, .int .i64 0, .int .i64 0, .slice none 0 0] 28)).alloc (.cells #[.int .i64 0, .int .i64 0, .int .i64 0, .slice none 0 0] 28)) = W0 at *
  have BF : Hid (Below w.heap.size w W0) := Lib.hid (by rw [hz.out]; exact AL.out.1)
  have XZ : Hid (W0.heap[z]? = some (.cells (zeroF.cells none 0) 28 (0, 0))) := Lib.hid AL.out.2.1
  have XP : Hid (W0.heap[p]? = some (.cells (zeroF.cells none 0) 28 (0, 0))) := Lib.hid AL.out.2.2
  clear AL
  go_wp2_with fail
  obtain ⟨m, hm⟩ := (EV.out W0 BF.out).1
  refine (sh_strings_Split s ⟨#[32]⟩ m W0 (by have := HS.out; omega) hm (by decide)).mono ?_
  rintro e V1 ⟨rfl, hV1⟩
  have eW : Lib.splitB ⟨#[32]⟩ 0 (Lib.countB s ⟨#[32]⟩) s = wordsS s := rfl
  rw [eW] at hV1
  clear eW hm
  have AL := al1 W0 (.cells ((wordsS s).map Value.string).toArray 9)
  rw [← hV1] at AL
  obtain ⟨g, hg⟩ : ∃ x, Hid (W0.heap.size = x) := ⟨_, Lib.hid rfl⟩
  have NG : Hid (z ≠ p ∧ g ≠ p ∧ w.heap.size ≤ p ∧ w.heap.size ≤ z) := Lib.hid (by have h1 := hz.out; have h2 := hp.out; have h3 := qlt XP.out; have h4 := hg.out; omega)
  replace BF := Lib.hid (BF.out.trans (AL.1.mono BF.out.size))
  replace XZ := Lib.hid (qblk AL.1 XZ.out)
  replace XP := Lib.hid (qblk AL.1 XP.out)
  have XG := Lib.hid AL.2
  rw [hg.out] at XG ⊢
  clear AL hV1
  obtain ⟨L, hL⟩ : ∃ L, Hid ((Lib.countB s ⟨#[32]⟩ + 1) = L) := ⟨_, Lib.hid rfl⟩
  have WL := Lib.hid (wordsS_len s)
  rw [hL.out] at WL ⊢
  by_cases h4 : L = 4
  · subst h4
    obtain ⟨w0, a1, a2, a3, hw⟩ : ∃ w0 a1 a2 a3, wordsS s = [w0, a1, a2, a3] := by
      have h := WL.out
      match wordsS s, h with
      | [w0, a1, a2, a3], _ => exact ⟨w0, a1, a2, a3, rfl⟩
    have HD := Lib.hid (hdrF_four hw)
    have S1 := Lib.hid (wordsS_size s a1 (by rw [hw]; simp))
    have S2 := Lib.hid (wordsS_size s a2 (by rw [hw]; simp))
    have S3 := Lib.hid (wordsS_size s a3 (by rw [hw]; simp))
    rw [hw] at XG
    have XW : Hid (V1.heap[g]? = some (.cells #[.string w0, .string a1, .string a2, .string a3] 9 (0, 0))) := Lib.hid XG.out
    clear XG hw WL hL
    obtain ⟨v1, hv1⟩ : ∃ v, Hid (atoiV a1.data.toList = v) := ⟨_, Lib.hid rfl⟩
    obtain ⟨v2, hv2⟩ : ∃ v, Hid (atoiV a2.data.toList = v) := ⟨_, Lib.hid rfl⟩
    obtain ⟨v3, hv3⟩ : ∃ v, Hid (atoiV a3.data.toList = v) := ⟨_, Lib.hid rfl⟩
    rw [hv1.out, hv2.out, hv3.out] at HD
    go_upto_region 5 with fail
    refine yB ?_
    refine yW (.pointer (some ⟨p, 0, none⟩)) ?_
    refine yW (.pointer (some ⟨p, 1, none⟩)) ?_
    refine yW (.pointer (some ⟨p, 2, none⟩)) ?_
    refine yR (fun K hK => ?_)
    refine qbuild (w' := V1.alloc (.cells #[.pointer (some ⟨p, 0, none⟩), .pointer (some ⟨p, 1, none⟩), .pointer (some ⟨p, 2, none⟩)] 142)) (.slice (some ⟨V1.heap.size, 0, none⟩) 3 3) (by kernel_rfl) ?_
    have AL := al1 V1 (.cells #[.pointer (some ⟨p, 0, none⟩), .pointer (some ⟨p, 1, none⟩), .pointer (some ⟨p, 2, none⟩)] 142)
    have hd := AL.1
    obtain ⟨R, hR⟩ : ∃ x, Hid (V1.heap.size = x) := ⟨_, Lib.hid rfl⟩
    have NR : Hid (R ≠ p) := Lib.hid (by have h1 := qlt XP.out; have h2 := hR.out; omega)
    replace BF := Lib.hid (BF.out.trans (hd.mono BF.out.size))
    replace XZ := Lib.hid (qblk hd XZ.out)
    replace XP := Lib.hid (qblk hd XP.out)
    replace XW := Lib.hid (qblk hd XW.out)
    have XR := Lib.hid AL.2
    rw [hR.out] at XR ⊢
    clear AL hd
    generalize V1.alloc (.cells #[.pointer (some ⟨p, 0, none⟩), .pointer (some ⟨p, 1, none⟩), .pointer (some ⟨p, 2, none⟩)] 142) = V2 at *
    refine yK hK ?_
    clear hK K
    refine yW (.int .i64 3) ?_
    refine yM (.int .i64 0) ?_
    refine yE ?_
    go_wp2_with fail
    go_loopw [20] (fun v wr => ∃ k : Nat, v = .int .i64 (k : Int) ∧ k ≤ 3 ∧ Hid (Below w.heap.size w wr) ∧ Hid (wr.heap[z]? = some (.cells (zeroF.cells none 0) 28 (0, 0))) ∧ Hid (wr.heap[p]? = some (.cells (hdrC v1 v2 v3 k) 28 (0, 0))) ∧ Hid (wr.heap[g]? = some (.cells #[.string w0, .string a1, .string a2, .string a3] 9 (0, 0))) ∧ Hid (wr.heap[R]? = some (.cells #[.pointer (some ⟨p, 0, none⟩), .pointer (some ⟨p, 1, none⟩), .pointer (some ⟨p, 2, none⟩)] 142 (0, 0)))) (fun v _ => 3 - (intOf v).toNat)
    case atStart => exact ⟨0, rfl, by omega, BF, XZ, XP, XW, XR⟩
    case round =>
      clear BF XZ XP XW XR
      obtain ⟨k, rfl, hk, BF, XZ, XP, XW, XR⟩ := hrel
      rcases (show k = 0 ∨ k = 1 ∨ k = 2 ∨ k = 3 by omega) with rfl | rfl | rfl | rfl
      · have cr := qcell XR.out 0 (.pointer (some ⟨p, 0, none⟩)) rfl
        have cw := qcell XW.out 1 (.string a1) rfl
        go_upto_region 8 with fail
        go_wp2_with fail
        refine (atoi_any a1 _ (by have := S1.out; have := HS.out; omega) (EV.out _ BF.out)).mono ?_
        rintro e X1 ⟨⟨ev, rfl⟩, b⟩
        clear cr cw
        replace BF := Lib.hid (BF.out.trans (b.mono BF.out.size))
        replace XZ := Lib.hid (qblk b XZ.out)
        replace XP := Lib.hid (qblk b XP.out)
        replace XW := Lib.hid (qblk b XW.out)
        replace XR := Lib.hid (qblk b XR.out)
        clear b
        rw [hv1.out]
        have cp := qcell XP.out 0 (.int .i64 0) rfl
        have fz := qfroz XP.out 0
        go_upto_region 9 with fail
        clear cp fz
        have HG := qput_grown X1 p 0 (.int .i64 v1)
        replace BF := Lib.hid (qstep BF.out HG NG.out.2.2.1)
        have XP2 : Hid ((X1.setCell ⟨p, 0, none⟩ (.int .i64 v1)).heap[p]? = some (.cells (hdrC v1 v2 v3 1) 28 (0, 0))) := Lib.hid (by rw [qput_at XP.out 0 _]; rfl)
        replace XZ := Lib.hid (qgrown HG XZ.out (fun e => NG.out.1 (Option.some.inj e)))
        replace XW := Lib.hid (qgrown HG XW.out (fun e => NG.out.2.1 (Option.some.inj e)))
        replace XR := Lib.hid (qgrown HG XR.out (fun e => NR.out (Option.some.inj e)))
        clear HG XP
        generalize X1.setCell ⟨p, 0, none⟩ (.int .i64 v1) = X2 at *
        go_wp2_with fail
        go_roundw
        case rel => exact ⟨1, rfl, by omega, BF, XZ, XP2, XW, XR⟩
        case measure => simp [intOf]
      · have cr := qcell XR.out 1 (.pointer (some ⟨p, 1, none⟩)) rfl
        have cw := qcell XW.out 2 (.string a2) rfl
        go_upto_region 8 with fail
        go_wp2_with fail
        refine (atoi_any a2 _ (by have := S2.out; have := HS.out; omega) (EV.out _ BF.out)).mono ?_
        rintro e X1 ⟨⟨ev, rfl⟩, b⟩
        clear cr cw
        replace BF := Lib.hid (BF.out.trans (b.mono BF.out.size))
        replace XZ := Lib.hid (qblk b XZ.out)
        replace XP := Lib.hid (qblk b XP.out)
        replace XW := Lib.hid (qblk b XW.out)
        replace XR := Lib.hid (qblk b XR.out)
        clear b
        rw [hv2.out]
        have cp := qcell XP.out 1 (.int .i64 0) rfl
        have fz := qfroz XP.out 1
        go_upto_region 9 with fail
        clear cp fz
        have HG := qput_grown X1 p 1 (.int .i64 v2)
        replace BF := Lib.hid (qstep BF.out HG NG.out.2.2.1)
        have XP2 : Hid ((X1.setCell ⟨p, 1, none⟩ (.int .i64 v2)).heap[p]? = some (.cells (hdrC v1 v2 v3 2) 28 (0, 0))) := Lib.hid (by rw [qput_at XP.out 1 _]; rfl)
        replace XZ := Lib.hid (qgrown HG XZ.out (fun e => NG.out.1 (Option.some.inj e)))
        replace XW := Lib.hid (qgrown HG XW.out (fun e => NG.out.2.1 (Option.some.inj e)))
        replace XR := Lib.hid (qgrown HG XR.out (fun e => NR.out (Option.some.inj e)))
        clear HG XP
        generalize X1.setCell ⟨p, 1, none⟩ (.int .i64 v2) = X2 at *
        go_wp2_with fail
        go_roundw
        case rel => exact ⟨2, rfl, by omega, BF, XZ, XP2, XW, XR⟩
        case measure => simp [intOf]
      · have cr := qcell XR.out 2 (.pointer (some ⟨p, 2, none⟩)) rfl
        have cw := qcell XW.out 3 (.string a3) rfl
        go_upto_region 8 with fail
        go_wp2_with fail
        refine (atoi_any a3 _ (by have := S3.out; have := HS.out; omega) (EV.out _ BF.out)).mono ?_
        rintro e X1 ⟨⟨ev, rfl⟩, b⟩
        clear cr cw
        replace BF := Lib.hid (BF.out.trans (b.mono BF.out.size))
        replace XZ := Lib.hid (qblk b XZ.out)
        replace XP := Lib.hid (qblk b XP.out)
        replace XW := Lib.hid (qblk b XW.out)
        replace XR := Lib.hid (qblk b XR.out)
        clear b
        rw [hv3.out]
        have cp := qcell XP.out 2 (.int .i64 0) rfl
        have fz := qfroz XP.out 2
        go_upto_region 9 with fail
        clear cp fz
        have HG := qput_grown X1 p 2 (.int .i64 v3)
        replace BF := Lib.hid (qstep BF.out HG NG.out.2.2.1)
        have XP2 : Hid ((X1.setCell ⟨p, 2, none⟩ (.int .i64 v3)).heap[p]? = some (.cells (hdrC v1 v2 v3 3) 28 (0, 0))) := Lib.hid (by rw [qput_at XP.out 2 _]; rfl)
        replace XZ := Lib.hid (qgrown HG XZ.out (fun e => NG.out.1 (Option.some.inj e)))
        replace XW := Lib.hid (qgrown HG XW.out (fun e => NG.out.2.1 (Option.some.inj e)))
        replace XR := Lib.hid (qgrown HG XR.out (fun e => NR.out (Option.some.inj e)))
        clear HG XP
        generalize X1.setCell ⟨p, 2, none⟩ (.int .i64 v3) = X2 at *
        go_wp2_with fail
        go_roundw
        case rel => exact ⟨3, rfl, by omega, BF, XZ, XP2, XW, XR⟩
        case measure => simp [intOf]
      · have F3 : Hid (wr.heap[p]? = some (.cells ((⟨v1, v2, v3, []⟩ : FaceV).cells none 0) 28 (0, 0))) := Lib.hid XP.out
        clear XP XW XR
        obtain ⟨F, hF⟩ : ∃ F : FaceV, Hid (F = ⟨v1, v2, v3, []⟩) := ⟨_, Lib.hid rfl⟩
        have e1 : Hid (F.eye = v1 ∧ F.rings = v2 ∧ F.sectors = v3) := Lib.hid (by rw [hF.out]; exact ⟨rfl, rfl, rfl⟩)
        rw [← hF.out] at HD F3
        have N1 : Hid (inB v1 1 16 = false → headF F = false) := Lib.hid (fun h => by unfold headF; rw [e1.out.1, h]; rfl)
        have N2 : Hid (inB v2 1 24 = false → headF F = false) := Lib.hid (fun h => by unfold headF; rw [e1.out.2.1, h]; simp)
        have N3 : Hid (inB v3 2 96 = false → headF F = false) := Lib.hid (fun h => by unfold headF; rw [e1.out.2.2, h]; simp)
        have NY : Hid (inB v1 1 16 = true → inB v2 1 24 = true → inB v3 2 96 = true → headF F = true) := Lib.hid (fun h1 h2 h3 => by unfold headF; rw [e1.out.1, e1.out.2.1, e1.out.2.2, h1, h2, h3]; rfl)
        have p0 := qcell F3.out 0 (.int .i64 v1) (by rw [hF.out]; rfl)
        have p1 := qcell F3.out 1 (.int .i64 v2) (by rw [hF.out]; rfl)
        have p2 := qcell F3.out 2 (.int .i64 v3) (by rw [hF.out]; rfl)
        clear hv1 hv2 hv3 S1 S2 S3
        go_upto_region 10 with fail
        refine yB ?_
        refine yW (.pointer (some ⟨p, 0, none⟩)) ?_
        refine yW (.int .i64 v1) ?_
        refine yR (fun K hK => ?_)
        go_simp
        refine (within_any v1 1 16 _).mono ?_
        rintro e wr ⟨rfl, rfl⟩
        cases h1 : inB v1 1 16
        · have HN := Lib.hid (N1.out h1)
          clear h1
          try dsimp only
          refine yK hK ?_
          clear hK K
          refine yM (.bool false) ?_
          go_skip
          refine yM (.bool false) ?_
          refine yM (.bool false) ?_
          go_skip
          refine yM (.bool false) ?_
          refine yM (.bool false) ?_
          refine yE ?_
          go_upto_region 11 with fail
          clear p0 p1 p2
          clear N1 N2 N3 NY
          have hzd : Below wr.heap.size wr wr.drew := (Below.refl _ _).drew
          replace XZ := Lib.hid (qblk hzd XZ.out)
          clear hzd
          have hd : Below wr.heap.size wr wr.drew := (Below.refl _ _).drew
          replace BF := Lib.hid (BF.out.drew)
          replace F3 := Lib.hid (qblk hd F3.out)
          refine zD (fun W => Below w.heap.size w W ∧ W.heap[p]? = some (.cells (F.cells none 0) 28 (0, 0))) ⟨BF.out, F3.out⟩ (fun hHeld => ?_)
          clear hd
          generalize wr.drew = V3 at *
          refine zT 0 rfl (.agg (F.cells none 0)) (qyrow (by kernel_rfl) 28 _ rfl p rfl _ 28 (0, 0) _ (fun W hW => hW.2) Tryz.underlying28 rfl (by exact (qJF F none 0))) ?_
          refine zW 1 rfl (.bool false) ?_
          refine zW 2 rfl (.bool false) ?_
          refine zW 3 rfl undef (hy := .inr ⟨by kernel_rfl, rfl⟩) ?_
          refine zW 4 rfl undef (hy := .inr ⟨by kernel_rfl, rfl⟩) ?_
          refine zW 5 rfl undef (hy := .inr ⟨by kernel_rfl, rfl⟩) ?_
          refine zW 6 rfl undef (hy := .inr ⟨by kernel_rfl, rfl⟩) ?_
          refine zW 7 rfl (.bool false) ?_
          have HR : Hid (hdrF s = (F, false)) := Lib.hid (by rw [HD.out, HN.out, Bool.false_and])
          refine zR 8 rfl (fun K hK => ?_)
          rw [if_pos (by kernel_rfl)]
          refine qstore 28 _ _ rfl z (zeroF.cells none 0) (F.cells none 0) 28 rfl rfl XZ.out (by exact qJF F none 0) rfl (qone F none 0) ?_
          intro X h8 hg8 hs8
          replace BF := Lib.hid (qstep BF.out hg8 NG.out.2.2.2)
          replace F3 := Lib.hid (qgrown hg8 F3.out (fun e => NG.out.1 (Option.some.inj e).symm))
          replace XZ := Lib.hid h8
          clear h8 hg8 hs8
          refine zK hK ⟨BF.out, F3.out⟩ (fun hHeld => ?_)
          clear hK K
          refine zW 9 rfl (.bool false) ?_
          refine zE ?_
          clear hHeld
          go_wp2_with fail
          (try simp only [Exit.inBlock, Exit.then])
          refine bodyPost_ret (results_ct rfl _ X z 28 (F.cells none 0) (0, 0) _ rfl XZ.out Tryz.underlying28 rfl (by exact qJF F none 0)) rfl ?_
          rw [HR.out]
          exact ⟨rfl, BF.out⟩
        · have H1 := Lib.hid h1
          clear h1
          try dsimp only
          refine yK hK ?_
          clear hK K
          refine yM (.bool true) ?_
          refine yW (.pointer (some ⟨p, 1, none⟩)) ?_
          refine yW (.int .i64 v2) ?_
          refine yR (fun K hK => ?_)
          go_simp
          refine (within_any v2 1 24 _).mono ?_
          rintro e wr ⟨rfl, rfl⟩
          cases h2 : inB v2 1 24
          · have HN := Lib.hid (N2.out h2)
            clear h2
            try dsimp only
            refine yK hK ?_
            clear hK K
            refine yM (.bool false) ?_
            refine yM (.bool false) ?_
            go_skip
            refine yM (.bool false) ?_
            refine yM (.bool false) ?_
            refine yE ?_
            go_upto_region 11 with fail
            clear p0 p1 p2
            clear N1 N2 N3 NY
            have hzd : Below wr.heap.size wr wr.drew := (Below.refl _ _).drew
            replace XZ := Lib.hid (qblk hzd XZ.out)
            clear hzd
            have hd : Below wr.heap.size wr wr.drew := (Below.refl _ _).drew
            replace BF := Lib.hid (BF.out.drew)
            replace F3 := Lib.hid (qblk hd F3.out)
            refine zD (fun W => Below w.heap.size w W ∧ W.heap[p]? = some (.cells (F.cells none 0) 28 (0, 0))) ⟨BF.out, F3.out⟩ (fun hHeld => ?_)
            clear hd
            generalize wr.drew = V3 at *
            refine zT 0 rfl (.agg (F.cells none 0)) (qyrow (by kernel_rfl) 28 _ rfl p rfl _ 28 (0, 0) _ (fun W hW => hW.2) Tryz.underlying28 rfl (by exact (qJF F none 0))) ?_
            refine zW 1 rfl (.bool false) ?_
            refine zW 2 rfl (.bool false) ?_
            refine zW 3 rfl undef (hy := .inr ⟨by kernel_rfl, rfl⟩) ?_
            refine zW 4 rfl undef (hy := .inr ⟨by kernel_rfl, rfl⟩) ?_
            refine zW 5 rfl undef (hy := .inr ⟨by kernel_rfl, rfl⟩) ?_
            refine zW 6 rfl undef (hy := .inr ⟨by kernel_rfl, rfl⟩) ?_
            refine zW 7 rfl (.bool false) ?_
            have HR : Hid (hdrF s = (F, false)) := Lib.hid (by rw [HD.out, HN.out, Bool.false_and])
            refine zR 8 rfl (fun K hK => ?_)
            rw [if_pos (by kernel_rfl)]
            refine qstore 28 _ _ rfl z (zeroF.cells none 0) (F.cells none 0) 28 rfl rfl XZ.out (by exact qJF F none 0) rfl (qone F none 0) ?_
            intro X h8 hg8 hs8
            replace BF := Lib.hid (qstep BF.out hg8 NG.out.2.2.2)
            replace F3 := Lib.hid (qgrown hg8 F3.out (fun e => NG.out.1 (Option.some.inj e).symm))
            replace XZ := Lib.hid h8
            clear h8 hg8 hs8
            refine zK hK ⟨BF.out, F3.out⟩ (fun hHeld => ?_)
            clear hK K
            refine zW 9 rfl (.bool false) ?_
            refine zE ?_
            clear hHeld
            go_wp2_with fail
            (try simp only [Exit.inBlock, Exit.then])
            refine bodyPost_ret (results_ct rfl _ X z 28 (F.cells none 0) (0, 0) _ rfl XZ.out Tryz.underlying28 rfl (by exact qJF F none 0)) rfl ?_
            rw [HR.out]
            exact ⟨rfl, BF.out⟩
          · have H2 := Lib.hid h2
            clear h2
            try dsimp only
            refine yK hK ?_
            clear hK K
            refine yM (.bool true) ?_
            refine yM (.bool true) ?_
            refine yW (.pointer (some ⟨p, 2, none⟩)) ?_
            refine yW (.int .i64 v3) ?_
            refine yR (fun K hK => ?_)
            go_simp
            refine (within_any v3 2 96 _).mono ?_
            rintro e wr ⟨rfl, rfl⟩
            cases h3 : inB v3 2 96
            · have HN := Lib.hid (N3.out h3)
              clear h3
              try dsimp only
              refine yK hK ?_
              clear hK K
              refine yM (.bool false) ?_
              refine yM (.bool false) ?_
              refine yE ?_
              go_upto_region 11 with fail
              clear p0 p1 p2
              clear N1 N2 N3 NY
              have hzd : Below wr.heap.size wr wr.drew := (Below.refl _ _).drew
              replace XZ := Lib.hid (qblk hzd XZ.out)
              clear hzd
              have hd : Below wr.heap.size wr wr.drew := (Below.refl _ _).drew
              replace BF := Lib.hid (BF.out.drew)
              replace F3 := Lib.hid (qblk hd F3.out)
              refine zD (fun W => Below w.heap.size w W ∧ W.heap[p]? = some (.cells (F.cells none 0) 28 (0, 0))) ⟨BF.out, F3.out⟩ (fun hHeld => ?_)
              clear hd
              generalize wr.drew = V3 at *
              refine zT 0 rfl (.agg (F.cells none 0)) (qyrow (by kernel_rfl) 28 _ rfl p rfl _ 28 (0, 0) _ (fun W hW => hW.2) Tryz.underlying28 rfl (by exact (qJF F none 0))) ?_
              refine zW 1 rfl (.bool false) ?_
              refine zW 2 rfl (.bool false) ?_
              refine zW 3 rfl undef (hy := .inr ⟨by kernel_rfl, rfl⟩) ?_
              refine zW 4 rfl undef (hy := .inr ⟨by kernel_rfl, rfl⟩) ?_
              refine zW 5 rfl undef (hy := .inr ⟨by kernel_rfl, rfl⟩) ?_
              refine zW 6 rfl undef (hy := .inr ⟨by kernel_rfl, rfl⟩) ?_
              refine zW 7 rfl (.bool false) ?_
              have HR : Hid (hdrF s = (F, false)) := Lib.hid (by rw [HD.out, HN.out, Bool.false_and])
              refine zR 8 rfl (fun K hK => ?_)
              rw [if_pos (by kernel_rfl)]
              refine qstore 28 _ _ rfl z (zeroF.cells none 0) (F.cells none 0) 28 rfl rfl XZ.out (by exact qJF F none 0) rfl (qone F none 0) ?_
              intro X h8 hg8 hs8
              replace BF := Lib.hid (qstep BF.out hg8 NG.out.2.2.2)
              replace F3 := Lib.hid (qgrown hg8 F3.out (fun e => NG.out.1 (Option.some.inj e).symm))
              replace XZ := Lib.hid h8
              clear h8 hg8 hs8
              refine zK hK ⟨BF.out, F3.out⟩ (fun hHeld => ?_)
              clear hK K
              refine zW 9 rfl (.bool false) ?_
              refine zE ?_
              clear hHeld
              go_wp2_with fail
              (try simp only [Exit.inBlock, Exit.then])
              refine bodyPost_ret (results_ct rfl _ X z 28 (F.cells none 0) (0, 0) _ rfl XZ.out Tryz.underlying28 rfl (by exact qJF F none 0)) rfl ?_
              rw [HR.out]
              exact ⟨rfl, BF.out⟩
            · have H3 := Lib.hid h3
              clear h3
              have HN := Lib.hid (NY.out H1.out H2.out H3.out)
              try dsimp only
              refine yK hK ?_
              clear hK K
              refine yM (.bool true) ?_
              refine yM (.bool true) ?_
              refine yE ?_
              go_upto_region 11 with fail
              clear p0 p1 p2
              clear N1 N2 N3 NY
              have hzd : Below wr.heap.size wr wr.drew := (Below.refl _ _).drew
              replace XZ := Lib.hid (qblk hzd XZ.out)
              clear hzd
              have hd : Below wr.heap.size wr wr.drew := (Below.refl _ _).drew
              replace BF := Lib.hid (BF.out.drew)
              replace F3 := Lib.hid (qblk hd F3.out)
              refine zD (fun W => Below w.heap.size w W ∧ W.heap[p]? = some (.cells (F.cells none 0) 28 (0, 0))) ⟨BF.out, F3.out⟩ (fun hHeld => ?_)
              clear hd
              generalize wr.drew = V3 at *
              refine zT 0 rfl (.agg (F.cells none 0)) (qyrow (by kernel_rfl) 28 _ rfl p rfl _ 28 (0, 0) _ (fun W hW => hW.2) Tryz.underlying28 rfl (by exact (qJF F none 0))) ?_
              refine zW 1 rfl (.bool true) ?_
              refine zW 2 rfl (.bool true) ?_
              refine zT 3 rfl (.agg (F.cells none 0)) (qyrow (by kernel_rfl) 28 _ rfl p rfl _ 28 (0, 0) _ (fun W hW => hW.2) Tryz.underlying28 rfl (by exact (qJF F none 0))) ?_
              refine zW 5 rfl (.string s) ?_
              refine zR 4 rfl (fun K hK => ?_)
              go_simp
              refine (header_any F none 0 V3 HN.out).mono ?_
              rintro e V4 ⟨rfl, b⟩
              replace XZ := Lib.hid (qblk b XZ.out)
              replace BF := Lib.hid (BF.out.trans (b.mono BF.out.size))
              replace F3 := Lib.hid (qblk b F3.out)
              clear b
              dsimp only
              refine zK hK ⟨BF.out, F3.out⟩ (fun hHeld => ?_)
              clear hK K
              refine zW 6 rfl (.bool (headS F == s)) (hy := .inl ⟨by kernel_rfl, by intro W _; go_simp; exact (beq_toListBytes _ _).symm⟩) ?_
              refine zW 7 rfl (.bool (headS F == s)) ?_
              have HR : Hid (hdrF s = (F, headS F == s)) := Lib.hid (by rw [HD.out, HN.out, Bool.true_and])
              refine zR 8 rfl (fun K hK => ?_)
              rw [if_pos (by kernel_rfl)]
              refine qstore 28 _ _ rfl z (zeroF.cells none 0) (F.cells none 0) 28 rfl rfl XZ.out (by exact qJF F none 0) rfl (qone F none 0) ?_
              intro X h8 hg8 hs8
              replace BF := Lib.hid (qstep BF.out hg8 NG.out.2.2.2)
              replace F3 := Lib.hid (qgrown hg8 F3.out (fun e => NG.out.1 (Option.some.inj e).symm))
              replace XZ := Lib.hid h8
              clear h8 hg8 hs8
              refine zK hK ⟨BF.out, F3.out⟩ (fun hHeld => ?_)
              clear hK K
              refine zW 9 rfl (.bool (headS F == s)) ?_
              refine zE ?_
              clear hHeld
              go_wp2_with fail
              (try simp only [Exit.inBlock, Exit.then])
              refine bodyPost_ret (results_ct rfl _ X z 28 (F.cells none 0) (0, 0) _ rfl XZ.out Tryz.underlying28 rfl (by exact qJF F none 0)) rfl ?_
              rw [HR.out]
              exact ⟨rfl, BF.out⟩
  · have hb : (((L : Nat) : Int) != 4) = true := by rw [bne_iff_ne]; omega
    have HN := Lib.hid (hdrF_not (s := s) (by rw [WL.out]; exact h4))
    go_wp2_with (first
      | (refine wpList_load_row rfl 28 _ rfl z rfl 28 (zeroF.cells none 0) (0, 0) _ XZ.out Tryz.underlying28 rfl (by exact (qJF zeroF none 0)) ?_)
      | (refine wpList_load_row rfl 28 _ rfl p rfl 28 (zeroF.cells none 0) (0, 0) _ XP.out Tryz.underlying28 rfl (by exact (qJF zeroF none 0)) ?_)
      | (refine wpList_qstore rfl 28 _ _ rfl z (zeroF.cells none 0) (zeroF.cells none 0) 28 rfl rfl XZ.out (by exact (qJF zeroF none 0)) rfl (qone zeroF none 0) ?_; intro VZ hzz hgz; replace BF := Lib.hid (qstep BF.out hgz (by have h1 := hz.out; omega)); replace XP := Lib.hid (qgrown hgz XP.out (fun e => by have h1 := hp.out; have h2 := hz.out; have := Option.some.inj e; omega)); replace XZ := Lib.hid hzz; clear hzz hgz)
      | fail)
    (try simp only [Exit.inBlock, Exit.then])
    refine bodyPost_ret (results_ct rfl _ VZ z 28 (zeroF.cells none 0) (0, 0) _ rfl XZ.out Tryz.underlying28 rfl (by exact (qJF zeroF none 0))) rfl ?_
    rw [HN.out]
    exact ⟨rfl, BF.out⟩
end Go.Proofs.YtimmadkbkimonaaGreatDoor
namespace Go.Proofs.YtimmadkbkimonaaGreatDoor
set_option linter.unusedSimpArgs false
set_option linter.unusedVariables false
open Go.RowKit

theorem results_ctt {P : Program} {fn : Func} {r s t : Nat} {ty : TypeId} (h : fn.results = #[.cell r ty, .tmp s, .tmp t]) (tmps : Array Value) (w : World) (p : Nat) (pt : TypeId) (cs : Array Value) (fr : Nat × Nat) (d : TypeDesc) (hp : tmps.getD r undef = .pointer (some ⟨p, 0, none⟩)) (hw : w.heap[p]? = some (.cells cs pt fr)) (hu : P.underlying ty = some d) (hd : (match d with | .struct _ | .array _ _ => true | _ => false) = true) (hi : (P.info? ty).map (·.size) = some cs.size) :
    (results fn tmps).run P w = .ok (.tuple #[.agg cs, tmps.getD s undef, tmps.getD t undef]) w := by
  have hp' : tmps[r]?.getD undef = .pointer (some ⟨p, 0, none⟩) := by simpa using hp
  simp [results, h, hp', asAddr, run_loadVar_row w p pt ty cs fr d hw hu hd hi]
set_option maxHeartbeats 4000000 in
set_option maxRecDepth 100000 in
theorem parseX_any (s line rest : ByteArray) (ended : Bool) (w : World) (hs : s.size ≤ 65536) (he : EnvW w) (hl : s.data.toList ≠ []) (hc : Lib.cut s.data.toList [10] = (line.data.toList, rest.data.toList, ended)) (hh : line.size ≠ 0 ∧ line.size ≤ 100000 ∧ (hdrF line).2 = false) : Calls Tryz.prog 20 #[.string s] w fun e w' => e = .returned (.tuple #[.agg (zeroF.cells none 0), .int .i64 11, .int .i64 1]) ∧ Below w.heap.size w w' := by
  have EV := Lib.hid (fun W (hb : Below w.heap.size w W) => he.below hb)
  have HS := Lib.hid hs
  have HC := Lib.hid hc
  have HL := Lib.hid hl
  have HH := Lib.hid hh
  clear he hs hc hl hh
  have t0 : decide ((65536 : Int) < (s.size : Int)) = false := by have := HS.out; simp; omega
  have AL := Lib.hid (al1 w (.cells #[.int .i64 0, .int .i64 0, .int .i64 0, .slice none 0 0] 28))
  go_enter Tryz.func20, Tryz.ntmps20
  go_upto_region 3 with fail
  obtain ⟨z, hz⟩ : ∃ z, Hid (w.heap.size = z) := ⟨_, Lib.hid rfl⟩
  rw [hz.out] at AL ⊢
  generalize (w.alloc (.cells #[.int .i64 0, .int .i64 0, .int .i64 0, .slice none 0 0] 28)) = W0 at *
  have BF : Hid (Below w.heap.size w W0) := Lib.hid (by rw [hz.out]; exact AL.out.1)
  have XZ : Hid (W0.heap[z]? = some (.cells (zeroF.cells none 0) 28 (0, 0))) := Lib.hid AL.out.2
  clear AL
  clear t0
  go_upto_region 5 with fail
  have AL := al1 W0 (.cells #[.int .i64 0, .int .i64 0, .int .i64 0, .slice none 0 0] 28)
  obtain ⟨p, hp⟩ : ∃ x, Hid (W0.heap.size = x) := ⟨_, Lib.hid rfl⟩
  have NG : Hid (z ≠ p ∧ w.heap.size ≤ p ∧ w.heap.size ≤ z) := Lib.hid (by have h1 := hz.out; have h2 := hp.out; have h3 := qlt XZ.out; have h4 := BF.out.size; omega)
  replace BF := Lib.hid (BF.out.trans (AL.1.mono BF.out.size))
  replace XZ := Lib.hid (qblk AL.1 XZ.out)
  have XP := Lib.hid AL.2
  rw [hp.out] at XP ⊢
  clear AL
  generalize W0.alloc (.cells #[.int .i64 0, .int .i64 0, .int .i64 0, .slice none 0 0] 28) = W1 at *
  replace XP := Lib.hid (show W1.heap[p]? = some (.cells (zeroF.cells none 0) 28 (0, 0)) from XP.out)
  go_wp2_with fail
  refine wp_loop_once ?_
  have sn : (s.toList == ([] : List UInt8)) = false := by
    rw [ByteArray.toList_eq]
    have h := HL.out
    cases e : s.data.toList with
    | nil => exact absurd e (by have := HL.out; simpa using this)
    | cons a b => rfl
  go_upto_region 8 with fail
  clear sn
  obtain ⟨m, hm⟩ := (EV.out W1 BF.out).1
  go_wp2_with fail
  refine (sh_strings_Cut s ⟨#[10]⟩ m W1 (by have := HS.out; omega) hm).mono ?_
  rintro e V1 ⟨rfl, q9, rfl⟩
  clear hm
  have b : Below W1.heap.size W1 (W1.drewN q9) := ⟨rfl, rfl, rfl, Nat.le_refl _, fun _ _ => rfl⟩
  replace BF := Lib.hid (BF.out.trans (b.mono BF.out.size))
  replace XZ := Lib.hid (qblk b XZ.out)
  replace XP := Lib.hid (qblk b XP.out)
  clear b
  generalize W1.drewN q9 = V1 at *
  rw [HC.out]
  have c1 := qcell XP.out 1 (.int .i64 0) rfl
  have c2 := qcell XP.out 2 (.int .i64 0) rfl
  have tl : ((line.size : Int) == 0) = false := by have := HH.out.1; rw [beq_eq_false_iff_ne]; omega
  go_upto_region 12 with fail
  clear c1 c2 tl
  go_wp2_with fail
  refine (parseHeader_any line V1 HH.out.2.1 (EV.out V1 BF.out)).mono ?_
  rintro e V2 ⟨rfl, b⟩
  replace BF := Lib.hid (BF.out.trans (b.mono BF.out.size))
  replace XZ := Lib.hid (qblk b XZ.out)
  replace XP := Lib.hid (qblk b XP.out)
  clear b
  rw [HH.out.2.2]
  go_wp2_with (first
    | (refine wpList_qstore rfl 28 _ _ rfl p (zeroF.cells none 0) ((hdrF line).1.cells none 0) 28 rfl rfl XP.out (by exact qJF (hdrF line).1 none 0) rfl (qone (hdrF line).1 none 0) ?_; intro V3 hzz hgz; replace BF := Lib.hid (qstep BF.out hgz NG.out.2.1); replace XZ := Lib.hid (qgrown hgz XZ.out (fun e => NG.out.1 (Option.some.inj e))); replace XP := Lib.hid hzz; clear hzz hgz)
    | (refine wpList_qstore rfl 28 _ _ rfl z (zeroF.cells none 0) (zeroF.cells none 0) 28 rfl rfl XZ.out (by exact qJF zeroF none 0) rfl (qone zeroF none 0) ?_; intro V4 hzz hgz; replace BF := Lib.hid (qstep BF.out hgz NG.out.2.2); replace XZ := Lib.hid hzz; clear hzz hgz)
    | fail)
  (try simp only [Exit.inBlock, Exit.then])
  refine bodyPost_ret (results_ctt rfl _ V4 z 28 (zeroF.cells none 0) (0, 0) _ rfl XZ.out Tryz.underlying28 rfl (by exact qJF zeroF none 0)) rfl ?_
  exact ⟨rfl, BF.out⟩
end Go.Proofs.YtimmadkbkimonaaGreatDoor
namespace Go.Proofs.YtimmadkbkimonaaGreatDoor
set_option linter.unusedSimpArgs false
set_option linter.unusedVariables false
open Go.RowKit

abbrev OfM := Int → Option Int
def updM (o : OfM) (k v : Int) : OfM := fun a => if a = k then some v else o a
def landB (f : FaceV) (i : Int) : Bool := decide (f.kat i.toNat = 0)
def visitF (f : FaceV) (i m : Int) (st : OfM × List Int) (n : Int) : OfM × List Int := if ((st.1 n).isNone && (landB f n == landB f i)) = true then (updM st.1 n m, st.2 ++ [n]) else st
def floodG (nb : Int → List Int) (f : FaceV) (i m : Int) : Nat → OfM × List Int → OfM
  | 0, st => st.1
  | fuel + 1, st => match st.2.getLast? with
    | none => st.1
    | some x => floodG nb f i m fuel ((nb x).foldl (visitF f i m) (st.1, st.2.dropLast))
def regStepG (nb : Int → List Int) (f : FaceV) (st : OfM × Int) (i : Nat) : OfM × Int := if (st.1 i).isSome = true then st else (floodG nb f i st.2 (f.kinds.length + 1) (updM st.1 i st.2, [(i : Int)]), st.2 + 1)
def regionsG (nb : Int → List Int) (f : FaceV) (k : Nat) : OfM × Int := (List.range k).foldl (regStepG nb f) (fun _ => none, 0)
abbrev floodF (f : FaceV) := floodG (neighF f) f
abbrev regionsN (f : FaceV) := regionsG (neighF f) f
def regionsF (f : FaceV) : OfM × Int := regionsN f f.kinds.length
theorem regionsN_succ (nb : Int → List Int) (f : FaceV) (k : Nat) : regionsG nb f (k + 1) = regStepG nb f (regionsG nb f k) k := by
  unfold regionsG
  rw [List.range_succ, List.foldl_append]
  rfl
def regAt (f : FaceV) (o : OfM) (r : Int) (k : Nat) : List Int := (List.range k).filterMap fun (j : Nat) => if o (j : Int) = some r then some (j : Int) else none
def regListF (f : FaceV) : List (List Int) := (List.range (regionsF f).2.toNat).map fun (r : Nat) => regAt f (regionsF f).1 r f.kinds.length
inductive Reach (f : FaceV) : Int → Int → Prop where
  | refl (x : Int) : Reach f x x
  | step {x y z : Int} : Reach f x y → z ∈ neighF f y → landB f z = landB f y → Reach f x z
def InF (f : FaceV) (x : Int) : Prop := 0 ≤ x ∧ x < f.kinds.length
section
variable {f : FaceV}
theorem Reach.trans {x y z : Int} (h1 : Reach f x y) (h2 : Reach f y z) : Reach f x z := by
  induction h2 with
  | refl => exact h1
  | step _ h3 h4 ih => exact .step ih h3 h4
theorem Reach.land {x y : Int} (h : Reach f x y) : landB f y = landB f x := by
  induction h with
  | refl => rfl
  | step _ _ h4 ih => exact h4.trans ih
theorem neigh_in (hv : f.valid = true) {x y : Int} (hx : InF f x) (hy : y ∈ neighF f x) : InF f y ∧ x ∈ neighF f y ∧ y ≠ x := by
  obtain ⟨h1, h2⟩ := cellF_has hv hx
  rw [← h2] at hy
  obtain ⟨c, hc, rfl⟩ := (neigh_mem hv h1).1 hy
  have hh := beside_has hv h1 hc
  obtain ⟨h3, h4⟩ := index_back hv hh
  refine ⟨h3, ?_, fun e => ?_⟩
  · have := (neigh_mem hv hh (n := x)).2 ⟨cellF f x, beside_sym hv h1 hc, h2.symm⟩
    exact this
  · refine beside_ne hv h1 hc ?_
    rw [← h4, e]
theorem Reach.inF (hv : f.valid = true) {x y : Int} (h : Reach f x y) (hx : InF f x) : InF f y := by
  induction h with
  | refl => exact hx
  | step _ h3 _ ih => exact (neigh_in hv ih h3).1
theorem Reach.symm (hv : f.valid = true) {x y : Int} (h : Reach f x y) (hx : InF f x) : Reach f y x := by
  induction h with
  | refl => exact .refl _
  | step h2 h3 h4 ih =>
    have hy := h2.inF hv hx
    exact (Reach.step (.refl _) (neigh_in hv hy h3).2.1 h4.symm).trans ih
def freeN (f : FaceV) (o : OfM) : Nat := (List.range f.kinds.length).countP fun (j : Nat) => (o (j : Int)).isNone
theorem countP_lt {p q : Nat → Bool} : ∀ {l : List Nat} {x : Nat}, x ∈ l → p x = true → q x = false → (∀ y ∈ l, q y = true → p y = true) → l.countP q + 1 ≤ l.countP p
  | [], x, h, _, _, _ => by cases h
  | y :: l, x, h, h1, h2, h3 => by
    have hle : l.countP q ≤ l.countP p := List.countP_mono_left fun z hz hq => h3 z (List.mem_cons_of_mem _ hz) hq
    rw [List.countP_cons, List.countP_cons]
    rcases List.mem_cons.1 h with e | h
    · subst e
      rw [if_pos h1, if_neg (by rw [h2]; decide)]
      omega
    · have := countP_lt h h1 h2 (fun z hz hq => h3 z (List.mem_cons_of_mem _ hz) hq)
      have h4 := h3 y (List.mem_cons_self ..)
      split <;> split <;> first | omega | (rename_i a b; exact absurd (h4 a) b)
theorem free_upd {o : OfM} {n m : Int} (hn : InF f n) (h0 : o n = none) : freeN f (updM o n m) + 1 ≤ freeN f o := by
  unfold freeN
  refine countP_lt (x := n.toNat) (List.mem_range.2 (by unfold InF at hn; omega)) ?_ ?_ fun y _ hq => ?_
  · rw [Int.toNat_of_nonneg hn.1, h0]; rfl
  · rw [Int.toNat_of_nonneg hn.1]; simp [updM]
  · unfold updM at hq
    by_cases e : (y : Int) = n
    · rw [if_pos e] at hq; cases hq
    · rw [if_neg e] at hq; exact hq
structure RgI (f : FaceV) (o : OfM) (m : Int) : Prop where
  inr : ∀ x r, o x = some r → InF f x ∧ 0 ≤ r ∧ r < m
  cl : ∀ x r y, o x = some r → y ∈ neighF f x → landB f y = landB f x → o y = some r
  co : ∀ x y r, o x = some r → o y = some r → Reach f x y
structure FlI (f : FaceV) (o0 : OfM) (i m : Int) (o : OfM) (work : List Int) (nb : Int → Prop) : Prop where
  old : ∀ x r, o0 x = some r → o x = some r
  new : ∀ x r, o x = some r → o0 x = some r ∨ (r = m ∧ o0 x = none ∧ InF f x ∧ Reach f i x)
  at_ : o i = some m
  wk : ∀ x ∈ work, o x = some m
  cl : ∀ x y, o x = some m → x ∉ work → y ∈ neighF f x → landB f y = landB f x → nb x ∨ o y = some m
theorem FlI.visit {o0 o : OfM} {i m n at_ : Int} {work : List Int} {done : List Int} (h0 : RgI f o0 m) (hv : f.valid = true) (hat : o at_ = some m) (hai : InF f at_ ∧ Reach f i at_) (hn : n ∈ neighF f at_) (h : FlI f o0 i m o work (fun x => x = at_)) (hdone : ∀ y ∈ done, landB f y = landB f at_ → o y = some m) :
    FlI f o0 i m (visitF f i m (o, work) n).1 (visitF f i m (o, work) n).2 (fun x => x = at_) ∧ (visitF f i m (o, work) n).1 at_ = some m ∧ (∀ y ∈ done ++ [n], landB f y = landB f at_ → (visitF f i m (o, work) n).1 y = some m) ∧ freeN f (visitF f i m (o, work) n).1 + (visitF f i m (o, work) n).2.length ≤ freeN f o + work.length := by
  have hni := neigh_in hv hai.1 hn
  have hla : landB f at_ = landB f i := hai.2.land
  unfold visitF
  by_cases hq : ((o n).isNone && (landB f n == landB f i)) = true
  · rw [if_pos hq]
    rw [Bool.and_eq_true, beq_iff_eq, Option.isNone_iff_eq_none] at hq
    have hne : ∀ x r, o x = some r → x ≠ n := fun x r hx e => by rw [e, hq.1] at hx; cases hx
    have hup : ∀ x r, o x = some r → updM o n m x = some r := fun x r hx => by unfold updM; rw [if_neg (hne x r hx)]; exact hx
    have h00 : o0 n = none := by
      cases e : o0 n with
      | none => rfl
      | some r => have := h.old n r e; rw [hq.1] at this; cases this
    refine ⟨⟨fun x r hx => hup x r (h.old x r hx), fun x r hx => ?_, hup i m h.at_, fun x hx => ?_, fun x y hx hxw hy hl => ?_⟩, hup _ _ hat, fun y hy hl => ?_, ?_⟩
    · by_cases e : x = n
      · subst e
        have hx : updM o x m x = some r := hx
        rw [show updM o x m x = some m by simp [updM]] at hx
        cases hx
        exact .inr ⟨rfl, h00, hni.1, .step hai.2 hn (by rw [hq.2, hla])⟩
      · have hx : updM o n m x = some r := hx
        unfold updM at hx
        rw [if_neg e] at hx
        exact h.new x r hx
    · rcases List.mem_append.1 hx with hx | hx
      · exact hup x m (h.wk x hx)
      · rw [List.mem_singleton.1 hx]; simp [updM]
    · by_cases e : x = n
      · subst e
        exact absurd (List.mem_append_right _ (List.mem_singleton.2 rfl)) hxw
      · have hx2 : o x = some m := by
          have hx : updM o n m x = some m := hx
          unfold updM at hx
          rw [if_neg e] at hx
          exact hx
        rcases h.cl x y hx2 (fun hw => hxw (List.mem_append_left _ hw)) hy hl with h5 | h5
        · exact .inl h5
        · exact .inr (hup y m h5)
    · rcases List.mem_append.1 hy with hy | hy
      · exact hup y m (hdone y hy hl)
      · rw [List.mem_singleton.1 hy]; simp [updM]
    · have := free_upd (m := m) hni.1 hq.1
      rw [List.length_append]
      simp
      omega
  · rw [if_neg hq]
    refine ⟨h, hat, fun y hy hl => ?_, Nat.le_refl _⟩
    rcases List.mem_append.1 hy with hy | hy
    · exact hdone y hy hl
    · rw [List.mem_singleton.1 hy] at hl ⊢
      have hs : (o n).isSome = true := by
        cases e : o n with
        | some r => rfl
        | none =>
          refine absurd ?_ hq
          rw [e, hl, hla]
          simp
      obtain ⟨r, hr⟩ := Option.isSome_iff_exists.1 hs
      rcases h.new n r hr with h5 | h5
      · -- a region that is done holds all that is beside it
        have h6 := h0.cl n r at_ h5 hni.2.1 hl.symm
        have h7 := h.old at_ r h6
        rw [hat] at h7
        cases h7
        have := (h0.inr n m h5).2.2
        omega
      · show o n = some m
        rw [hr, h5.1]
theorem FlI.round {o0 o : OfM} {i m at_ : Int} {work : List Int} (h0 : RgI f o0 m) (hv : f.valid = true) (hat : o at_ = some m) (hai : InF f at_ ∧ Reach f i at_) : ∀ (ns done : List Int), (∀ n ∈ ns, n ∈ neighF f at_) → FlI f o0 i m o work (fun x => x = at_) → (∀ y ∈ done, landB f y = landB f at_ → o y = some m) →
    FlI f o0 i m (ns.foldl (visitF f i m) (o, work)).1 (ns.foldl (visitF f i m) (o, work)).2 (fun x => x = at_) ∧ (ns.foldl (visitF f i m) (o, work)).1 at_ = some m ∧ (∀ y ∈ done ++ ns, landB f y = landB f at_ → (ns.foldl (visitF f i m) (o, work)).1 y = some m) ∧ freeN f (ns.foldl (visitF f i m) (o, work)).1 + (ns.foldl (visitF f i m) (o, work)).2.length ≤ freeN f o + work.length
  | [], done, _, h, hd => ⟨h, hat, by simpa using hd, Nat.le_refl _⟩
  | n :: ns, done, hns, h, hd => by
    obtain ⟨g1, g2, g3, g4⟩ := FlI.visit h0 hv hat hai (hns n (List.mem_cons_self ..)) h hd
    rw [List.foldl_cons]
    obtain ⟨k1, k2, k3, k4⟩ := FlI.round h0 hv g2 hai ns (done ++ [n]) (fun x hx => hns x (List.mem_cons_of_mem _ hx)) g1 g3
    refine ⟨k1, k2, fun y hy hl => k3 y ?_ hl, Nat.le_trans k4 g4⟩
    rw [List.append_assoc]
    exact hy
theorem FlI.pop {nb : Int → List Int} (hnb : ∀ x, InF f x → ∀ y, y ∈ nb x ↔ y ∈ neighF f x) {o0 o : OfM} {i m x : Int} {ws : List Int} (h0 : RgI f o0 m) (hv : f.valid = true) (h : FlI f o0 i m o (ws ++ [x]) (fun _ => False)) :
    FlI f o0 i m ((nb x).foldl (visitF f i m) (o, ws)).1 ((nb x).foldl (visitF f i m) (o, ws)).2 (fun _ => False) ∧ freeN f ((nb x).foldl (visitF f i m) (o, ws)).1 + ((nb x).foldl (visitF f i m) (o, ws)).2.length + 1 ≤ freeN f o + (ws ++ [x]).length := by
  have hx := h.wk x (List.mem_append_right _ (List.mem_singleton.2 rfl))
  have hxi : InF f x ∧ Reach f i x := by
    rcases h.new x m hx with h5 | h5
    · have := (h0.inr x m h5).2.2; omega
    · exact h5.2.2
  have hw : FlI f o0 i m o ws (fun y => y = x) := ⟨h.old, h.new, h.at_, fun y hy => h.wk y (List.mem_append_left _ hy), fun a y ha haw hy hl => by
    by_cases e : a = x
    · exact .inl e
    · rcases h.cl a y ha (fun hm => by
        rcases List.mem_append.1 hm with hm | hm
        · exact haw hm
        · exact e (List.mem_singleton.1 hm)) hy hl with h5 | h5
      · exact h5.elim
      · exact .inr h5⟩
  obtain ⟨k1, k2, k3, k4⟩ := FlI.round h0 hv hx hxi (nb x) [] (fun n hn => (hnb x hxi.1 n).1 hn) hw (fun y hy => by cases hy)
  refine ⟨⟨k1.old, k1.new, k1.at_, k1.wk, fun a y ha haw hy hl => .inr ?_⟩, by rw [List.length_append]; simp; omega⟩
  rcases k1.cl a y ha haw hy hl with h5 | h5
  · rw [h5] at hy hl
    exact k3 y (by simpa using (hnb x hxi.1 y).2 hy) hl
  · exact h5
theorem flood_spec {nb : Int → List Int} (hnb : ∀ x, InF f x → ∀ y, y ∈ nb x ↔ y ∈ neighF f x) {o0 : OfM} {i m : Int} (h0 : RgI f o0 m) (hv : f.valid = true) : ∀ (fuel : Nat) (o : OfM) (work : List Int), FlI f o0 i m o work (fun _ => False) → freeN f o + work.length ≤ fuel → FlI f o0 i m (floodG nb f i m fuel (o, work)) [] (fun _ => False)
  | 0, o, work, h, hf => by
    have : work = [] := List.length_eq_zero_iff.1 (by omega)
    subst this
    exact h
  | fuel + 1, o, work, h, hf => by
    unfold floodG
    rcases List.eq_nil_or_concat work with e | ⟨ws, x, e⟩
    · subst e
      exact h
    · rw [List.concat_eq_append] at e
      subst e
      have hl : ((o, ws ++ [x]) : OfM × List Int).2.getLast? = some x := by simp
      have hd : ((o, ws ++ [x]) : OfM × List Int).2.dropLast = ws := by simp
      rw [hl, hd]
      obtain ⟨k1, k2⟩ := h.pop hnb h0 hv
      show FlI f o0 i m (floodG nb f i m fuel ((nb x).foldl (visitF f i m) (o, ws))) [] (fun _ => False)
      exact flood_spec hnb h0 hv fuel _ _ k1 (by omega)
theorem free_le (o : OfM) : freeN f o ≤ f.kinds.length := by
  unfold freeN
  refine Nat.le_trans List.countP_le_length ?_
  rw [List.length_range]
  exact Nat.le_refl _
theorem FlI.start {o0 : OfM} {i m : Int} (h0 : RgI f o0 m) (hi : InF f i) (hn : o0 i = none) : FlI f o0 i m (updM o0 i m) [i] (fun _ => False) := by
  have hup : ∀ x r, o0 x = some r → updM o0 i m x = some r := fun x r hx => by unfold updM; rw [if_neg (fun e => by rw [e, hn] at hx; cases hx)]; exact hx
  refine ⟨hup, fun x r hx => ?_, by simp [updM], fun x hx => by rw [List.mem_singleton.1 hx]; simp [updM], fun x y hx hxw hy hl => ?_⟩
  · unfold updM at hx
    by_cases e : x = i
    · rw [if_pos e] at hx
      cases hx
      exact .inr ⟨rfl, by rw [e]; exact hn, by rw [e]; exact hi, by rw [e]; exact .refl _⟩
    · rw [if_neg e] at hx
      exact .inl hx
  · have e : x ≠ i := fun e => hxw (List.mem_singleton.2 e)
    unfold updM at hx
    rw [if_neg e] at hx
    have := (h0.inr x m hx).2.2
    omega
theorem flood_next {nb : Int → List Int} (hnb : ∀ x, InF f x → ∀ y, y ∈ nb x ↔ y ∈ neighF f x) {o0 : OfM} {i m : Int} (h0 : RgI f o0 m) (hv : f.valid = true) (hm : 0 ≤ m) (hi : InF f i) (hn : o0 i = none) : RgI f (floodG nb f i m (f.kinds.length + 1) (updM o0 i m, [i])) (m + 1) ∧ (∀ x r, o0 x = some r → floodG nb f i m (f.kinds.length + 1) (updM o0 i m, [i]) x = some r) ∧ (∀ x, floodG nb f i m (f.kinds.length + 1) (updM o0 i m, [i]) x = some m ↔ o0 x = none ∧ InF f x ∧ Reach f i x) := by
  have h1 := flood_spec hnb h0 hv (f.kinds.length + 1) (updM o0 i m) [i] (FlI.start h0 hi hn) (by have := free_le (f := f) (updM o0 i m); simp; omega)
  generalize floodG nb f i m (f.kinds.length + 1) (updM o0 i m, [i]) = o at *
  have hmine : ∀ x, o x = some m → o0 x = none ∧ InF f x ∧ Reach f i x := fun x hx => by
    rcases h1.new x m hx with h5 | h5
    · have := (h0.inr x m h5).2.2; omega
    · exact h5.2
  have hall : ∀ x, Reach f i x → o x = some m := fun x hr => by
    induction hr with
    | refl => exact h1.at_
    | step _ h3 h4 ih =>
      rcases h1.cl _ _ ih (by simp) h3 h4 with h5 | h5
      · exact h5.elim
      · exact h5
  have hold : ∀ x r, o x = some r → r ≠ m → o0 x = some r := fun x r hx hr => by
    rcases h1.new x r hx with h5 | h5
    · exact h5
    · exact absurd h5.1 hr
  refine ⟨⟨fun x r hx => ?_, fun x r y hx hy hl => ?_, fun x y r hx hy => ?_⟩, h1.old, fun x => ⟨hmine x, fun h => hall x h.2.2⟩⟩
  · by_cases e : r = m
    · rw [e] at hx ⊢
      exact ⟨(hmine x hx).2.1, hm, by omega⟩
    · have := h0.inr x r (hold x r hx e)
      exact ⟨this.1, this.2.1, by omega⟩
  · by_cases e : r = m
    · rw [e] at hx ⊢
      exact hall y (.step (hmine x hx).2.2 hy hl)
    · exact h1.old y r (h0.cl x r y (hold x r hx e) hy hl)
  · by_cases e : r = m
    · rw [e] at hx hy
      exact ((hmine x hx).2.2.symm hv hi).trans (hmine y hy).2.2
    · exact h0.co x y r (hold x r hx e) (hold y r hy e)
structure RgK (f : FaceV) (k : Nat) (o : OfM) (m : Int) : Prop where
  rg : RgI f o m
  m0 : 0 ≤ m
  dn : ∀ j : Nat, j < k → (o j).isSome = true
  fst : ∀ r, 0 ≤ r → r < m → ∃ j : Nat, j < k ∧ o j = some r ∧ ∀ x, o x = some r → (j : Int) ≤ x
  ord : ∀ r s x y, o x = some r → o y = some s → (∀ z, o z = some r → x ≤ z) → (∀ z, o z = some s → y ≤ z) → r < s → x < y
theorem regionsG_spec {nb : Int → List Int} (hnb : ∀ x, InF f x → ∀ y, y ∈ nb x ↔ y ∈ neighF f x) (hv : f.valid = true) : ∀ k, k ≤ f.kinds.length → RgK f k (regionsG nb f k).1 (regionsG nb f k).2
  | 0, _ => ⟨⟨(fun x r h => by cases h), (fun x r y h => by cases h), (fun x y r h => by cases h)⟩, Int.le_refl _, (fun j hj => by omega), (fun r h1 h2 => by have h2 : r < 0 := h2; omega), (fun r s x y h => by cases h)⟩
  | k + 1, hk => by
    have ih := regionsG_spec hnb hv k (by omega)
    rw [regionsN_succ]
    generalize regionsG nb f k = st at *
    obtain ⟨o, m⟩ := st
    unfold regStepG
    by_cases hs : (o (k : Int)).isSome = true
    · rw [if_pos hs]
      refine ⟨ih.rg, ih.m0, fun j hj => ?_, fun r h1 h2 => ?_, ih.ord⟩
      · by_cases e : j = k
        · rw [e]; exact hs
        · exact ih.dn j (by omega)
      · obtain ⟨j, g1, g2, g3⟩ := ih.fst r h1 h2
        exact ⟨j, by omega, g2, g3⟩
    · rw [if_neg hs]
      have hn : o (k : Int) = none := by
        cases e : o (k : Int) with
        | none => rfl
        | some r => rw [e] at hs; exact absurd rfl hs
      obtain ⟨g1, g2, g3⟩ := flood_next hnb ih.rg hv ih.m0 (i := (k : Int)) ⟨by omega, by omega⟩ hn
      dsimp only
      generalize floodG nb f (k : Int) m (f.kinds.length + 1) (updM o (k : Int) m, [(k : Int)]) = o2 at *
      have hnew : ∀ x, o2 x = some m → (k : Int) ≤ x := fun x hx => by
        have h5 := (g3 x).1 hx
        have h6 : ¬ x < (k : Int) := fun h6 => by
          have := ih.dn x.toNat (by have := h5.2.1.1; omega)
          rw [Int.toNat_of_nonneg h5.2.1.1, h5.1] at this
          cases this
        omega
      have hkm : o2 (k : Int) = some m := (g3 k).2 ⟨hn, ⟨by omega, by omega⟩, .refl _⟩
      have hback : ∀ x r, o2 x = some r → r ≠ m → o x = some r := fun x r hx hr => by
        cases e : o x with
        | some s =>
          have := g2 x s e
          rw [hx] at this
          rw [Option.some.inj this]
        | none =>
          have h7 := (g1.inr x r hx)
          obtain ⟨j, j1, j2, j3⟩ := ih.fst r h7.2.1 (by omega)
          have h8 := g1.co (j : Int) x r (g2 _ _ j2) hx
          have h9 : ∀ y, Reach f (j : Int) y → o y = some r := fun y hy => by
            induction hy with
            | refl => exact j2
            | step _ a b ih2 => exact ih.rg.cl _ _ _ ih2 a b
          have := h9 x h8
          rw [e] at this
          cases this
      refine ⟨g1, by have := ih.m0; show 0 ≤ m + 1; omega, fun j hj => ?_, fun r h1 h2 => ?_, fun r s x y hx hy hx2 hy2 hrs => ?_⟩
      · by_cases e : j = k
        · rw [e, hkm]; rfl
        · obtain ⟨r, hr⟩ := Option.isSome_iff_exists.1 (ih.dn j (by omega))
          rw [g2 _ _ hr]; rfl
      · by_cases e : r = m
        · rw [e]
          exact ⟨k, by omega, hkm, hnew⟩
        · obtain ⟨j, j1, j2, j3⟩ := ih.fst r h1 (by have h2 : r < m + 1 := h2; omega)
          exact ⟨j, by omega, g2 _ _ j2, fun x hx => j3 x (hback x r hx e)⟩
      · have hs2 := (g1.inr y s hy).2.2
        by_cases e : s = m
        · have hr : r ≠ m := by omega
          rw [e] at hy
          have h5 := hnew y hy
          have h6 := hx
          obtain ⟨j, j1, j2, j3⟩ := ih.fst r (g1.inr x r hx).2.1 (by omega)
          have := hx2 (j : Int) (g2 _ _ j2)
          omega
        · exact ih.ord r s x y (hback x r hx (by omega)) (hback y s hy e) (fun z hz => hx2 z (g2 z r hz)) (fun z hz => hy2 z (g2 z s hz)) hrs
theorem regionsN_spec (hv : f.valid = true) : ∀ k, k ≤ f.kinds.length → RgK f k (regionsN f k).1 (regionsN f k).2 := regionsG_spec (fun _ _ _ => Iff.rfl) hv
theorem RgI.reach {o : OfM} {m : Int} (h : RgI f o m) {x y r : Int} (hx : o x = some r) (hr : Reach f x y) : o y = some r := by
  induction hr with
  | refl => exact hx
  | step _ h3 h4 ih => exact h.cl _ _ _ ih h3 h4
theorem RgK.same {o o' : OfM} {m m' : Int} (h : RgK f f.kinds.length o m) (h' : RgK f f.kinds.length o' m') : o = o' ∧ m = m' := by
  have dom : ∀ {p : OfM} {q : Int}, RgK f f.kinds.length p q → ∀ x, InF f x → ∃ r, p x = some r := fun hp x hx => by
    have := hp.dn x.toNat (by have := hx.1; have := hx.2; omega)
    rw [Int.toNat_of_nonneg hx.1] at this
    exact Option.isSome_iff_exists.1 this
  have eqv : ∀ {p p' : OfM} {q q' : Int}, RgK f f.kinds.length p q → RgK f f.kinds.length p' q' → ∀ x y r, p x = some r → p y = some r → ∃ s, p' x = some s ∧ p' y = some s := fun hp hp' x y r hx hy => by
    obtain ⟨s, hs⟩ := dom hp' x (hp.rg.inr x r hx).1
    refine ⟨s, hs, ?_⟩
    exact hp'.rg.reach hs (hp.rg.co x y r hx hy)
  have key : ∀ n : Nat, (∀ x (r : Nat), r < n → (o x = some (r : Int) ↔ o' x = some (r : Int))) := by
    intro n
    induction n with
    | zero => intro x r hr; omega
    | succ n ih =>
      have one : ∀ {p p' : OfM} {q q' : Int}, RgK f f.kinds.length p q → RgK f f.kinds.length p' q' → (∀ x (r : Nat), r < n → (p x = some (r : Int) ↔ p' x = some (r : Int))) → ∀ x, p x = some (n : Int) → p' x = some (n : Int) := fun {p p' q q'} hp hp' ih x hx => by
        obtain ⟨j, j1, j2, j3⟩ := hp.fst n (by omega) (hp.rg.inr x n hx).2.2
        obtain ⟨s, s1, s2⟩ := eqv hp hp' j x n j2 hx
        have hs := hp'.rg.inr _ _ s1
        have h1 : (n : Int) ≤ s := Int.not_lt.1 fun hlt => by
          have := (ih (j : Int) s.toNat (by omega)).2 (by rw [Int.toNat_of_nonneg hs.2.1]; exact s1)
          rw [j2] at this
          cases this
          omega
        by_cases e : s = n
        · rw [s2, e]
        · -- the other's region n begins ahead of this one
          obtain ⟨k, k1, k2, k3⟩ := hp'.fst n (by omega) (by omega)
          obtain ⟨k', g1, g2, g3⟩ := hp'.fst s hs.2.1 hs.2.2
          have hkj := hp'.ord n s k k' k2 g2 k3 g3 (by omega)
          have hjk := g3 j s1
          obtain ⟨t, ht⟩ := dom hp (k : Int) ⟨by omega, by omega⟩
          have hti := hp.rg.inr _ _ ht
          have h2 : (n : Int) ≤ t := Int.not_lt.1 fun hlt => by
            have := (ih (k : Int) t.toNat (by omega)).1 (by rw [Int.toNat_of_nonneg hti.2.1]; exact ht)
            rw [k2] at this
            cases this
            omega
          have hne : t ≠ n := fun e2 => by
            rw [e2] at ht
            obtain ⟨u, u1, u2⟩ := eqv hp hp' k j n ht j2
            rw [k2] at u1
            rw [s1] at u2
            cases u1
            cases u2
            exact e rfl
          obtain ⟨i, i1, i2, i3⟩ := hp.fst t hti.2.1 hti.2.2
          have := hp.ord n t j i j2 i2 j3 i3 (by omega)
          have := i3 k ht
          omega
      intro x r hr
      by_cases e : r = n
      · subst e
        exact ⟨one h h' ih x, one h' h (fun x r hr => (ih x r hr).symm) x⟩
      · exact ih x r (by omega)
  have heq : ∀ x, o x = o' x := fun x => by
    cases e : o x with
    | some r =>
      have hr := (h.rg.inr x r e).2.1
      have := (key (r.toNat + 1) x r.toNat (by omega)).1 (by rw [Int.toNat_of_nonneg hr]; exact e)
      rw [this, Int.toNat_of_nonneg hr]
    | none =>
      cases e2 : o' x with
      | none => rfl
      | some r =>
        have hr := (h'.rg.inr x r e2).2.1
        have := (key (r.toNat + 1) x r.toNat (by omega)).2 (by rw [Int.toNat_of_nonneg hr]; exact e2)
        rw [e] at this
        cases this
  refine ⟨funext heq, ?_⟩
  have hle : ∀ {p p' : OfM} {q q' : Int}, RgK f f.kinds.length p q → RgK f f.kinds.length p' q' → p = p' → q ≤ q' := fun {p p' q q'} hp hp' e => Int.not_lt.1 fun hlt => by
    obtain ⟨j, j1, j2, _⟩ := hp.fst q' hp'.m0 hlt
    rw [e] at j2
    have := (hp'.rg.inr _ _ j2).2.2
    omega
  exact Int.le_antisymm (hle h h' (funext heq)) (hle h' h (funext heq).symm)
end
end Go.Proofs.YtimmadkbkimonaaGreatDoor
namespace Go.Proofs.YtimmadkbkimonaaGreatDoor
open Go.RowKit

def LoopAt (rec : LoopState → Option Code → Loop) (D : Nat) (st : LoopState) (pe : Option Code) (W : World) : Prop :=
  W.heap[D + 1]? = some (.loop (rec st pe)) ∧ W.heap[D]? = some (.deferred (some []))

theorem LoopAt.kept {rec : LoopState → Option Code → Loop} {D : Nat} {st : LoopState} {pe : Option Code} {W W' : World} (h : LoopAt rec D st pe W) (hk : KeepsFrom D W W') : LoopAt rec D st pe W' :=
  ⟨hk.same _ _ (by omega) h.1 rfl, hk.same _ _ (Nat.le_refl _) h.2 rfl⟩

def roundEnd (D : Nat) (B : World → Prop) (X : Code → World → Prop) (W : World) : Exit → Act → World → Prop
  | .normal, _, W' => KeepsFrom D W W' ∧ B W'
  | .ret, _, W' => KeepsFrom D W W' ∧ X .ret W'
  | .exit id, _, W' => KeepsFrom D W W' ∧ X (.exit id) W'
  | .goto t, _, W' => KeepsFrom D W W' ∧ X (.goto t) W'
  | .panic _, _, _ => False
  | .outgrown, _, _ => False

end Go.Proofs.YtimmadkbkimonaaGreatDoor
namespace Go.Proofs.YtimmadkbkimonaaGreatDoor
open Go.RowKit

def Wide (F : Fence) : Prop := F = Fence.wide ∨ ∃ l, F = Fence.wide.inRound l
theorem Wide.fn {F : Fence} (h : Wide F) (f : FuncId) : F.fn f := by
  rcases h with rfl | ⟨l, rfl⟩ <;> trivial
theorem Wide.depth {F : Fence} (h : Wide F) : F.depth.isSome = true → ∀ {p : Prop}, p := by
  rcases h with rfl | ⟨l, rfl⟩ <;> intro h' <;> simp [Fence.wide] at h'
theorem Wide.calls {F : Fence} (h : Wide F) {n : Nat} {P : Program} {f : FuncId} {args : Array Value} {w : World} {R : Ending → World → Prop} (hc : Calls P f args w R) : CallsIn F n P f args w R := by
  rcases h with rfl | ⟨l, rfl⟩
  · exact callsIn_wide.2 hc
  · exact CallsIn.inRound l (callsIn_wide.2 hc)
theorem Wide.rows {F : Fence} (h : Wide F) {n : Nat} {P : Program} {row : String} {args : Array Value} {w : World} {R : Value → World → Prop} (hc : Rows P row args w R) : RowsIn F n P row args w R := by
  rcases h with rfl | ⟨l, rfl⟩ <;> exact fun c cs _ => let ⟨v, w', r, s⟩ := hc c cs; ⟨v, w', r, stepsIn_wide.2 s⟩
theorem wpIn_of_wp {F : Fence} (hF : Wide F) {n : Nat} {P : Program} {o : Oper} {a : Act} {w : World} {K : Act → World → Prop} {Q : Exit → Act → World → Prop} (hnd : ∀ c, o.op ≠ .defer c) (h : o.wp P a w K Q) : o.wpIn F n P a w K Q := by
  refine ⟨fun f _ => hF.fn f, ?_⟩
  rw [Oper.semAt_plain F _ _ hnd]
  unfold Oper.wp at h
  generalize (execOp a.eval o).run P w = r at h
  unfold Oper.upon at h
  unfold Oper.uponIn
  cases r with
  | ok v w' =>
    cases v with
    | enter f args => exact ⟨fun h' => hF.depth h', hF.calls h⟩
    | row r args => exact ⟨fun h' => hF.depth h', hF.rows h⟩
    | round _ _ _ _ _ => exact (show False from h).elim
    | _ => exact h
  | halt s w' => cases s <;> exact h
def noDefer (l : List Oper) : Bool := l.all fun o => match o.op with | .defer _ => false | _ => true
theorem noDefer_at {l : List Oper} (h : noDefer l = true) {o : Oper} (ho : o ∈ l) : ∀ c, o.op ≠ .defer c := fun c e => by
  have := List.all_eq_true.1 h o ho
  rw [e] at this
  cases this
theorem wpListIn_of_wpList {F : Fence} (hF : Wide F) {n : Nat} {P : Program} {ops : Array Oper} {Q : Exit → Act → World → Prop} (hQ : ¬ LetsOut Q) : ∀ (l : List Oper) (a : Act) (w : World), noDefer l = true → wpList P ops Q l a w → wpListIn F n P ops Q l a w
  | [], a, w, _, h => h
  | o :: l, a, w, hnd, h => by
    have h1 : ∀ c, o.op ≠ .defer c := noDefer_at hnd (List.mem_cons_self ..)
    have h2 : noDefer l = true := (Bool.and_eq_true_iff.1 hnd).2
    unfold wpList at h
    unfold wpListIn
    split at h
    · rename_i hw
      rw [if_pos hw]
      rcases h with h | h
      · exact wpIn_of_wp hF h1 (Oper.wp_mono (fun a w hk => wpListIn_of_wpList hF hQ l a w h2 hk) h)
      · exact (hQ h.2).elim
    · rename_i hw
      rw [if_neg hw]
      exact ⟨fun f _ => hF.fn f, wpListIn_of_wpList hF hQ l _ w h2 h⟩
theorem wpIn_region_plain {F : Fence} (hF : Wide F) {n : Nat} {P : Program} {id : Nat} {l : List Oper} {a : Act} {w : World} {Q : Exit → Act → World → Prop} (hQ : ¬ LetsOut Q) (hnd : noDefer l = true) (h : wpList P l.toArray Q l a w) : (Code.region id l.toArray false).wpIn F n P Q a w :=
  wpIn_region_lit (wpListIn_of_wpList hF hQ l a w hnd h)
theorem wpOpIn_of_wpOp {F : Fence} (hF : Wide F) {n : Nat} {P : Program} {ops : Array Oper} {Q : Exit → Act → World → Prop} (hQ : ¬ LetsOut Q) (hnd : noDefer ops.toList = true) (i : Nat) {K : Act → World → Prop} {a : Act} {w : World} (h : wpOp P ops Q i K a w) : wpOpIn F n P ops Q i K a w := by
  unfold wpOp at h
  unfold wpOpIn
  cases ho : ops[i]? with
  | none => rw [ho] at h; exact h
  | some o =>
    rw [ho] at h
    dsimp only at h ⊢
    split at h
    · rename_i hw
      rw [if_pos hw]
      rcases h with h | h
      · exact wpIn_of_wp hF (noDefer_at hnd (by rw [Array.mem_toList_iff]; exact Array.mem_of_getElem? ho)) h
      · exact (hQ h.2).elim
    · rename_i hw
      rw [if_neg hw]
      exact ⟨fun f _ => hF.fn f, h⟩
theorem wpAnyIn_of_wpAny {F : Fence} (hF : Wide F) {n : Nat} {P : Program} {md : Region.Mode} {ops : Array Oper} {Q : Exit → Act → World → Prop} (hQ : ¬ LetsOut Q) (hnd : noDefer ops.toList = true) : ∀ (fuel : Nat) (listed : Array Bool) (a : Act) (w : World), wpAny P md ops Q fuel listed a w → wpAnyIn F n P md ops Q fuel listed a w
  | 0, _, _, _, h => h
  | fuel + 1, _, _, _, h => ⟨h.1, fun i hi => wpOpIn_of_wpOp hF hQ hnd i (wpOp_mono (fun a w hk => wpAnyIn_of_wpAny hF hQ hnd fuel _ a w hk) (h.2 i hi))⟩

section
variable {P : Program} {σ : Type} {n : Nat} {g : Operand} {ps : Array Tmp} {assign body : Code} {Q : Exit → Act → World → Prop} {a : Act} {w : World}
theorem wp_range_own2
    {gf : Nat} {lb : Array Value} (hg : a.eval g = .func (.func gf) #[] lb) (eg : ∀ args w, (callFunc gf args).run P w = .ok (.enter gf args) w)
    (encs : σ → Array Value) (hps : ∀ x, (encs x).size = ps.size)
    (A B : σ → World → Prop) (A' : σ → Act → World → Prop) (Done : World → Prop)
    (hA' : ∀ s a W o, A' s a W → (∃ r, W.heap[w.heap.size + 1]? = some (.loop r)) → A' s a (W.putObj (w.heap.size + 1) (.loop o)))
    (hB : ∀ s W o, B s W → (∃ r, W.heap[w.heap.size + 1]? = some (.loop r)) → B s (W.putObj (w.heap.size + 1) (.loop o)))
    (hDone : ∀ W o, Done W → (∃ r, W.heap[w.heap.size + 1]? = some (.loop r)) → Done (W.putObj (w.heap.size + 1) (.loop o)))
    (hassign : ∀ (s : σ) (W : World), A s W →
      assign.wpIn (Fence.wide.inRound (w.heap.size + 1)) (n - 1) P (Exit.then (fun a₁ W₁ => KeepsFrom w.heap.size W W₁ ∧ A' s a₁ W₁) (fun _ _ _ => False)) { tmps := (ps.zip (encs s)).foldl (fun t (p, v) => t.setIfInBounds p v) a.tmps, defers := [] } W)
    (hbody : ∀ (s : σ) (a₁ : Act) (W : World), A' s a₁ W → body.wpIn (Fence.wide.inRound (w.heap.size + 1)) (n - 1) P (roundEnd w.heap.size (B s) (fun _ _ => False) W) a₁ W)
    (hiter : ∀ (rec : LoopState → Option Code → Loop),
      LoopAt rec w.heap.size .ready none ((w.alloc (.deferred (some []))).alloc (.loop (rec .ready none))) →
      (∀ s W, A s W → LoopAt rec w.heap.size .ready none W → YieldAt Fence.wide (n - 1) P (w.heap.size + 1) (encs s) W fun e W' =>
        e = .returned (.bool true) ∧ B s W' ∧ LoopAt rec w.heap.size .ready none W') →
      CallsIn Fence.wide n P gf (#[.func (.yield (w.heap.size + 1)) #[] #[]] ++ lb) ((w.alloc (.deferred (some []))).alloc (.loop (rec .ready none))) fun e W' =>
        (∃ v, e = .returned v) ∧ Done W' ∧ LoopAt rec w.heap.size .ready none W')
    (hdone : ∀ (W : World), Done W → W.heap[w.heap.size]? = some (.deferred (some [])) → Q .normal { a with defers := { target := .collected w.heap.size, args := #[] } :: a.defers } W) :
    (Code.rangeFunc g ps assign body).wpIn Fence.wide (n + 1) P Q a w := by
  refine wpIn_rangeFunc ?_
  intro fn hfn
  obtain ⟨rec, hrec⟩ : ∃ rec : LoopState → Option Code → Loop, rec = fun st pe => { state := st, pending := pe, fn, tmps := a.tmps, params := ps, assign, body, defers := w.heap.size } := ⟨_, rfl⟩
  have hnew : LoopAt rec w.heap.size .ready none ((w.alloc (.deferred (some []))).alloc (.loop (rec .ready none))) := by
    refine ⟨?_, (Below.heap_alloc _ _ _ (by simp)).trans (World.alloc_heap_new w _)⟩
    have := World.alloc_heap_new (w.alloc (.deferred (some []))) (.loop (rec .ready none))
    rwa [World.size_alloc] at this
  have hput : ∀ (W : World) (st st' : LoopState) (pe pe' : Option Code), LoopAt rec w.heap.size st pe W → LoopAt rec w.heap.size st' pe' (W.putObj (w.heap.size + 1) (.loop (rec st' pe'))) :=
    fun W st st' pe pe' h => ⟨World.putObj_heap_same (Array.getElem?_eq_some_iff.1 h.1).1, (World.putObj_heap_other (by omega)).trans h.2⟩
  refine ⟨w.heap.size + 1, [{ target := .collected w.heap.size, args := #[] }], (w.alloc (.deferred (some []))).alloc (.loop (rec .ready none)), { target := .fn (.func gf) lb, args := #[.func (.yield (w.heap.size + 1)) #[] #[]] }, (w.alloc (.deferred (some []))).alloc (.loop (rec .ready none)), gf,
    #[.func (.yield (w.heap.size + 1)) #[] #[]] ++ lb, (w.alloc (.deferred (some []))).alloc (.loop (rec .ready none)), ?_, ?_, ?_, ?_, ?_, ?_⟩
  · rw [hrec]; exact run_enterLoop_outer _ _ _ _ _
  · simp only [resolve, hg]
    simp [go_sem]
  · intro f' _
    trivial
  · simp [invoke, go_sem, eg]
  · intro h
    simp [Fence.wide] at h
  · rw [Nat.add_sub_cancel]
    refine (hiter rec hnew ?_).mono ?_
    · intro s W hs hl
      have hy := run_yield (P := P) (args := encs s) hl.1 (by rw [hrec]; exact hps s)
      rw [hrec] at hy
      refine ⟨fn, _, assign, body, hy, roundIn_of_wpIn hfn (wpIn_mono (hassign s W hs) ?_)⟩
      rintro e a₁ W₁ hp
      cases e with
      | normal =>
        obtain ⟨hk1, hs1⟩ : KeepsFrom w.heap.size W W₁ ∧ A' s a₁ W₁ := hp
        have hl1 := hl.kept hk1
        refine ⟨_, run_beginRound hl1.1 (by rw [hrec]), ?_⟩
        have hbusy : ({ rec .ready none with state := .busy } : Loop) = rec .busy none := by rw [hrec]
        rw [hbusy]
        have hl2 := hput W₁ .ready .busy none none hl1
        refine wpIn_mono (hbody s a₁ _ (hA' s a₁ W₁ _ hs1 ⟨_, hl1.1⟩)) ?_
        have fin : ∀ (jump : Option Code) (W3 : World), KeepsFrom w.heap.size (W₁.putObj (w.heap.size + 1) (.loop (rec .busy none))) W3 →
            (Instr.endRound (w.heap.size + 1) jump).run P W3 = .ok (.bool jump.isNone) (W3.putObj (w.heap.size + 1) (.loop (rec (if jump.isNone then .ready else .done) jump))) ∧
            LoopAt rec w.heap.size .busy none W3 ∧ LoopAt rec w.heap.size (if jump.isNone then .ready else .done) jump (W3.putObj (w.heap.size + 1) (.loop (rec (if jump.isNone then .ready else .done) jump))) := fun jump W3 hk => by
          have h3 := hl2.kept hk
          have hr := run_endRound (P := P) jump h3.1
          rw [hrec] at hr ⊢
          exact ⟨hr, by rw [hrec] at h3; exact h3, by have := hput W3 .busy (if jump.isNone then .ready else .done) none jump h3; rw [hrec] at this; exact this⟩
        rintro e a3 W3 hp
        cases e with
        | normal =>
          obtain ⟨hk, hb⟩ := hp
          obtain ⟨hr, h3, h4⟩ := fin none W3 hk
          exact ⟨_, _, hr, rfl, hB s W3 _ hb ⟨_, h3.1⟩, h4⟩
        | ret => exact hp.2.elim
        | exit id => exact hp.2.elim
        | goto t => exact hp.2.elim
        | panic ch => exact hp.elim
        | outgrown => exact hp.elim
      | _ => exact hp.elim
    · rintro e W2 ⟨⟨v, rfl⟩, hd, hl⟩
      refine ⟨none, _, by have := run_endLoop (P := P) hl.1 (by rw [hrec]; simp); rw [hrec] at this; exact this, ?_⟩
      exact hdone _ (hDone W2 _ hd ⟨_, hl.1⟩) ((World.putObj_heap_other (by omega)).trans hl.2)
end
end Go.Proofs.YtimmadkbkimonaaGreatDoor
namespace Go.Proofs.YtimmadkbkimonaaGreatDoor
set_option linter.unusedSimpArgs false
set_option linter.unusedVariables false
open Go.RowKit
open Go.Maps (Keyed)

def I64q (z : Int) : Prop := -9223372036854775808 ≤ z ∧ z ≤ 9223372036854775807
theorem q_keyed : Keyed Tryz.prog 3 := Maps.int_keyed Tryz.underlying3
theorem q_wf {z : Int} (h : I64q z) : (Lit.int .i64 z).wf = true := by
  have h1 := h.1
  have h2 := h.2
  simp [Lit.wf, IntKind.min, IntKind.max, IntKind.signed, IntKind.bits]
  omega
theorem q_key {z : Int} (h : I64q z) : keyOf Tryz.prog 3 (.int .i64 z) = some (.int .i64 z) := Maps.keyOf_int_mk Tryz.underlying3 (q_wf h)
theorem q_zero (w : World) : (zeroValue 3).run Tryz.prog w = .ok (.int .i64 0) w := by kernel_rfl
def heldQ : Value → Option (DataW Value × List MemPlace) := fun v => some (.held v, [])
structure ReadsQ (D : DataW Value) (o : OfM) : Prop where
  ok : ∀ a, (o a).isSome = true → I64q a
  has : ∀ a, I64q a → Maps.has D (.int .i64 a) = (o a).isSome
  val : ∀ a x, o a = some x → ∀ z, D.atKey (.int .i64 a) z = .held (.int .i64 x)
def MapI (w : World) (b n : Nat) (o : OfM) : Prop := ∃ D, w.ownsMap Tryz.prog 3 heldQ b n D ∧ ReadsQ D o
theorem qlit_inj {a b : Int} (h : Lit.int .i64 a = Lit.int .i64 b) : a = b := by cases h; rfl
section
variable {D : DataW Value} {o : OfM} {w : World} {b n : Nat}
theorem ReadsQ.put (h : ReadsQ D o) (hm : Maps.IsMap D) {k : Int} (hk : I64q k) (x : Int) : ReadsQ (D.put (.int .i64 k) (.held (.int .i64 x))) (updM o k x) := by
  refine ⟨fun a ha => ?_, fun a ha => ?_, fun a y hy z => ?_⟩
  · unfold updM at ha
    split at ha
    · rename_i e; rw [e]; exact hk
    · exact h.ok a ha
  · unfold updM
    split
    · rename_i e; rw [e, Maps.has_put_same hm (show WideAt.IsKeyLit (.int .i64 k) from trivial)]; rfl
    · rename_i e; rw [Maps.has_put_other (fun he => e (qlit_inj he))]; exact h.has a ha
  · unfold updM at hy
    split at hy
    · rename_i e; cases hy; rw [e, Maps.atKey_put_same hm (show WideAt.IsKeyLit (.int .i64 k) from trivial)]
    · rename_i e; rw [Maps.atKey_put_other (fun he => e (qlit_inj he))]; exact h.val a y hy z
theorem MapI.made (w : World) : MapI (w.alloc (.map #[] 0)) w.heap.size 0 (fun _ => none) := ⟨_, World.ownsMap_made w _ _ _, ⟨by simp, fun a _ => rfl, by simp⟩⟩
theorem MapI.lt (h : MapI w b n o) : b < w.heap.size := by obtain ⟨D, h1, _⟩ := h; exact h1.lt
theorem MapI.of_block {w' : World} (h : MapI w b n o) (hb : w'.heap[b]? = w.heap[b]?) : MapI w' b n o := by
  obtain ⟨D, ⟨es, clock, h1, h2⟩, h3⟩ := h
  exact ⟨D, ⟨es, clock, hb.trans h1, h2⟩, h3⟩
theorem MapI.below {w' : World} (h : MapI w b n o) (hb : Below w.heap.size w w') : MapI w' b n o := h.of_block (hb.block b h.lt)
theorem MapI.blk (h : MapI w b n o) : ∃ es clock, w.heap[b]? = some (.map es clock) := by
  obtain ⟨D, ⟨es, clock, h1, _⟩, _⟩ := h
  exact ⟨es, clock, h1⟩
theorem MapI.step {w' : World} {r : Nat} (h : MapI w b n o) (hg : w.grownBy w' (some r)) (hne : b ≠ r) : MapI w' b n o := h.of_block (hg.block b h.lt (fun e => hne (Option.some.inj e)))
theorem run_getok_q (h : MapI w b n o) {t : TypeId} (ht : Tryz.prog.underlying t = some (.map 3 3)) {k : Int} (hk : I64q k) :
    (Instr.lookup t (.map (some b)) (.int .i64 k) true).run Tryz.prog w = .ok (.tuple #[.int .i64 ((o k).getD 0), .bool (o k).isSome]) w := by
  obtain ⟨D, h1, h2⟩ := h
  obtain ⟨v, ps, h3, h4⟩ := h1.look_ok q_keyed ht (q_zero w) (zd := .held (.int .i64 0)) (zp := []) rfl (q_key hk)
  rw [h2.has k hk] at h3
  simp only [heldQ, Option.some.injEq, Prod.mk.injEq] at h4
  refine h3.trans ?_
  cases hf : o k with
  | none =>
    rw [Maps.atKey_of_not_has (by rw [h2.has k hk, hf]; rfl)] at h4
    have := h4.1
    simp only [DataW.held.injEq] at this
    rw [this]; rfl
  | some y =>
    rw [h2.val k y hf] at h4
    have := h4.1
    simp only [DataW.held.injEq] at this
    rw [this]; rfl
theorem run_get_q (h : MapI w b n o) {t : TypeId} (ht : Tryz.prog.underlying t = some (.map 3 3)) {k : Int} (hk : I64q k) :
    (Instr.lookup t (.map (some b)) (.int .i64 k) false).run Tryz.prog w = .ok (.int .i64 ((o k).getD 0)) w := by
  obtain ⟨D, h1, h2⟩ := h
  obtain ⟨v, ps, h3, h4⟩ := h1.lookup q_keyed ht (q_zero w) (zd := .held (.int .i64 0)) (zp := []) rfl (q_key hk)
  simp only [heldQ, Option.some.injEq, Prod.mk.injEq] at h4
  refine h3.trans ?_
  cases hf : o k with
  | none =>
    rw [Maps.atKey_of_not_has (by rw [h2.has k hk, hf]; rfl)] at h4
    have := h4.1
    simp only [DataW.held.injEq] at this
    rw [this]; rfl
  | some y =>
    rw [h2.val k y hf] at h4
    have := h4.1
    simp only [DataW.held.injEq] at this
    rw [this]; rfl
end
theorem wpList_put_q {o : OfM} (w : World) {ops : Array Oper} {rest : List Oper} {op : Oper} {a : Act} {Q : Exit → Act → World → Prop} (hg : op.guard = none) (m x v : Operand) (t : TypeId) (hop : op.op = Op.mapUpdate t m x v) (ht : Tryz.prog.underlying t = some (.map 3 3)) (b n : Nat) (k y : Int)
    (hm : a.eval m = .map (some b)) (hmap : MapI w b n o) (hn : n < maxLen) (hx : a.eval x = .int .i64 k) (hk : I64q k) (hv : a.eval v = .int .i64 y)
    (hK : ∀ w', MapI w' b (n + 1) (updM o k y) → w.grownBy w' (some b) → wpList Tryz.prog ops Q rest (a.put op.dst undef) w') : wpList Tryz.prog ops Q (op :: rest) a w := by
  obtain ⟨D, h1, h2⟩ := hmap
  exact wpList_mapUpdate_own w hg m x v t hop 3 3 q_keyed ht heldQ b n D hm h1 hn (.int .i64 k) (.int .i64 y) (.int .i64 k) hx hv (q_key hk) (.held (.int .i64 y)) [] rfl
    (fun w' h3 h4 => hK w' ⟨_, h3, h2.put h1.isMap hk y⟩ h4)
def Marks (base : Nat) (ds : List Deferred) (W : World) : Prop := ds.Pairwise (fun d e => d.target ≠ e.target) ∧ ∀ d ∈ ds, ∃ r, d = { target := .collected r, args := #[] } ∧ W.heap[r]? = some (.deferred (some [])) ∧ base ≤ r
theorem Marks.kept {base : Nat} {ds : List Deferred} {W W' : World} (h : Marks base ds W) (hk : ∀ r : Nat, W.heap[r]? = some (.deferred (some [])) → W'.heap[r]? = some (.deferred (some []))) : Marks base ds W' :=
  ⟨h.1, fun d hd => by
    obtain ⟨r, e, hr, hb⟩ := h.2 d hd
    exact ⟨r, e, hk r hr, hb⟩⟩
theorem Marks.below {base : Nat} {ds : List Deferred} {W W' : World} (h : Marks base ds W) (hb : Below W.heap.size W W') : Marks base ds W' := h.kept fun r hr => qblk hb hr
theorem Marks.step {base : Nat} {ds : List Deferred} {W W' : World} {row : Option Nat} (h : Marks base ds W) (hg : W.grownBy W' row) (hr : ∀ r : Nat, row = some r → W.heap[r]? ≠ some (.deferred (some []))) : Marks base ds W' := h.kept fun r h1 => qgrown hg h1 (fun e => hr r e.symm h1)
theorem Marks.add {base : Nat} {ds : List Deferred} {W W' : World} {r : Nat} (h : Marks base ds W) (hs : W.heap.size ≤ r) (hbr : base ≤ r) (h' : Marks base ds W') (hr : W'.heap[r]? = some (.deferred (some []))) : Marks base ({ target := .collected r, args := #[] } :: ds) W' := by
  refine ⟨List.pairwise_cons.2 ⟨fun d hd e => ?_, h.1⟩, fun d hd => ?_⟩
  · obtain ⟨r2, rfl, h2, _⟩ := h.2 d hd
    have := qlt h2
    simp only [Target.collected.injEq] at e
    omega
  · rcases List.mem_cons.1 hd with rfl | hd
    · exact ⟨r, rfl, hr, hbr⟩
    · exact h'.2 d hd
theorem leaves_marks {F : Fence} {n : Nat} {P : Program} {fn : Func} {tmps : Array Value} {R : Ending → World → Prop} (base : Nat) (I : World → Prop) (hI : ∀ (W : World) (r : Nat), base ≤ r → I W → W.heap[r]? = some (.deferred (some [])) → I (W.putObj r (.deferred none)))
    (hR : ∀ W, I W → ∃ v, (results fn tmps).run P W = .ok v W ∧ R (.returned v) W) : ∀ (ds : List Deferred) (W : World), Marks base ds W → I W → LeavesInM F n P fn tmps R ds .returning W
  | [], W, _, h => hR W h
  | d :: ds, W, hm, h => by
    obtain ⟨r, rfl, hr, hbr⟩ := hm.2 d (List.mem_cons_self ..)
    refine ⟨by simp, .inl ⟨_, _, rfl, run_takeDeferred hr, ?_⟩⟩
    refine leaves_marks base I hI hR ds _ ⟨(List.pairwise_cons.1 hm.1).2, fun e he => ?_⟩ (hI W r hbr h hr)
    obtain ⟨r2, rfl, h2, hb2⟩ := hm.2 e (List.mem_cons_of_mem _ he)
    refine ⟨r2, rfl, (World.putObj_heap_other (fun e2 => ?_)).trans h2, hb2⟩
    exact (List.pairwise_cons.1 hm.1).1 _ he (by rw [e2])
end Go.Proofs.YtimmadkbkimonaaGreatDoor
namespace Go.Proofs.YtimmadkbkimonaaGreatDoor
set_option linter.unusedSimpArgs false
set_option linter.unusedVariables false
open Go.RowKit

theorem cellsF_succ (f : FaceV) (K : Int) (k : Nat) : cellsF f K (k + 1) = cellsF f K k ++ (if f.kat k = K then [cellF f k] else []) := by
  unfold cellsF
  rw [List.range_succ, List.filterMap_append]
  congr 1
  by_cases h : f.kat k = K
  · rw [if_pos h, List.filterMap_cons, if_pos h]; rfl
  · rw [if_neg h, List.filterMap_cons, if_neg h]; rfl
theorem cellsF_len (f : FaceV) (K : Int) (k : Nat) : (cellsF f K k).length ≤ k := by
  unfold cellsF
  refine Nat.le_trans (List.length_filterMap_le _ _) ?_
  rw [List.length_range]
  exact Nat.le_refl _
theorem FaceV.len_le {f : FaceV} (h : f.valid = true) : f.kinds.length ≤ 2304 := by
  have h2 := FaceV.int h
  have h3 : f.rings * f.sectors ≤ 24 * 96 := Int.mul_le_mul (by omega) (by omega) (by omega) (by omega)
  omega
theorem FaceV.kat_at {f : FaceV} {k : Nat} (h : k < f.kinds.length) : f.kinds[k]? = some (f.kat k) := by
  unfold FaceV.kat
  rw [List.getElem?_eq_getElem h]
  rfl
set_option maxHeartbeats 4000000 in
set_option maxRecDepth 100000 in
theorem cellsP_any (f : FaceV) (a : Option Addr) (n : Nat) (K : Int) (w : World) (hr : RdI w a f.kinds.length n f.kinds) :
    Calls Tryz.prog 61 #[.agg (f.cells a n), .int .i64 K] w fun e w' => ∃ oa oc, e = .returned (.tuple #[.slice oa (cellsP f K).1.length oc, .int .i64 (cellsP f K).2]) ∧ w'.ownsRow w.heap.size 41 2 (.slice oa (cellsP f K).1.length oc) (cellsP f K).1.length (cellsV (cellsP f K).1) ∧ Below w.heap.size w w' := by
  have AV := Lib.hid (fun W (hb : Below w.heap.size w W) => valid2_any f a n W (hr.below hb))
  have HR := Lib.hid (fun W (hb : Below w.heap.size w W) => hr.below hb)
  clear hr
  have AL := Lib.hid (al1 w (.cells (f.cells a n) 28))
  go_enter Tryz.func61, Tryz.ntmps61
  go_upto_region 1 with fail
  obtain ⟨p, hp⟩ : ∃ p, Hid (w.heap.size = p) := ⟨_, Lib.hid rfl⟩
  rw [hp.out] at AL ⊢
  generalize (w.alloc (.cells (f.cells a n) 28)) = W0 at *
  have BF : Hid (Below w.heap.size w W0) := Lib.hid (by rw [hp.out]; exact AL.out.1)
  have XF : Hid (W0.heap[p]? = some (.cells (f.cells a n) 28 (0, 0))) := Lib.hid AL.out.2
  clear AL
  have c0 := qcell XF.out 0 (.int .i64 f.eye) rfl
  have c1 := qcell XF.out 1 (.int .i64 f.rings) rfl
  have c2 := qcell XF.out 2 (.int .i64 f.sectors) rfl
  have c3 := qcell XF.out 3 (.slice a f.kinds.length n) rfl
  go_wp2_with (first
    | (refine wpList_load_row rfl 28 _ rfl p rfl 28 (f.cells a n) (0, 0) _ XF.out Tryz.underlying28 rfl (by exact (qJF f a n)) ?_)
    | fail)
  refine (AV.out W0 BF.out).mono ?_
  rintro e V1 ⟨rfl, b⟩
  clear c0 c1 c2 c3
  replace BF := Lib.hid (BF.out.trans (b.mono BF.out.size))
  replace XF := Lib.hid (qblk b XF.out)
  clear b
  have c0 := qcell XF.out 0 (.int .i64 f.eye) rfl
  have c1 := qcell XF.out 1 (.int .i64 f.rings) rfl
  have c2 := qcell XF.out 2 (.int .i64 f.sectors) rfl
  have c3 := qcell XF.out 3 (.slice a f.kinds.length n) rfl
  cases hv : f.valid
  · go_wp2_with (first
      | (refine wpList_load_row rfl 28 _ rfl p rfl 28 (f.cells a n) (0, 0) _ XF.out Tryz.underlying28 rfl (by exact (qJF f a n)) ?_)
      | fail)
    go_ret2
    unfold cellsP
    rw [if_pos hv]
    exact ⟨none, 0, rfl, World.ownsRow_nil _ _ _ _, BF.out⟩
  · have IV := Lib.hid (FaceV.int hv)
    have LL := Lib.hid (FaceV.len_le hv)
    go_wp2_with (first
      | (refine wpList_load_row rfl 28 _ rfl p rfl 28 (f.cells a n) (0, 0) _ XF.out Tryz.underlying28 rfl (by exact (qJF f a n)) ?_)
      | fail)
    refine (kind_any K V1).mono ?_
    rintro e V2 ⟨rfl, rfl⟩
    cases hb : kindB K
    · go_wp2_with (first
        | (refine wpList_load_row rfl 28 _ rfl p rfl 28 (f.cells a n) (0, 0) _ XF.out Tryz.underlying28 rfl (by exact (qJF f a n)) ?_)
        | fail)
      go_ret2
      unfold cellsP
      rw [if_neg (by rw [hv]; decide), if_pos hb]
      exact ⟨none, 0, rfl, World.ownsRow_nil _ _ _ _, BF.out⟩
    · have HB := Lib.hid hb
      have HV := Lib.hid hv
      clear hb hv
      go_wp2_with (first
        | (refine wpList_load_row rfl 28 _ rfl p rfl 28 (f.cells a n) (0, 0) _ XF.out Tryz.underlying28 rfl (by exact (qJF f a n)) ?_)
        | fail)
      clear c0 c1 c2 c3
      go_loopw [6, 20] (fun o i wr => ∃ (k : Nat) (oa : Option Addr) (oc : Nat), i = .int .i64 k ∧ o = .slice oa (cellsF f K k).length oc ∧ k ≤ f.kinds.length ∧ Hid (wr.ownsRow w.heap.size 41 2 (.slice oa (cellsF f K k).length oc) (cellsF f K k).length (cellsV (cellsF f K k))) ∧ Hid (Below w.heap.size w wr) ∧ Hid (wr.heap[p]? = some (.cells (f.cells a n) 28 (0, 0)))) (fun _ i _ => f.kinds.length - (intOf i).toNat)
      case atStart => exact ⟨0, none, 0, rfl, rfl, Nat.zero_le _, Lib.hid (World.ownsRow_nil _ _ _ _), BF, XF⟩
      case round =>
        clear BF XF
        obtain ⟨k, oa, oc, rfl, rfl, hk, OW, BF, XF⟩ := hrel
        by_cases hkn : k < f.kinds.length
        · have t0 : decide ((k : Int) < (f.kinds.length : Int)) = true := by simp; omega
          obtain ⟨b, off, rfl, hx⟩ := (HR.out _ BF.out).get (FaceV.kat_at hkn)
          have hk64 : (k : Int) + 1 ≤ 9223372036854775807 := by have := LL.out; omega
          have HL := Lib.hid (cellsF_len f K k)
          obtain ⟨y, hy⟩ : ∃ y, Hid (f.kat k = y) := ⟨_, Lib.hid rfl⟩
          rw [hy.out] at hx
          have c0 := qcell XF.out 0 (.int .i64 f.eye) rfl
          have c1 := qcell XF.out 1 (.int .i64 f.rings) rfl
          have c2 := qcell XF.out 2 (.int .i64 f.sectors) rfl
          have c3 := qcell XF.out 3 (.slice (some ⟨b, off, none⟩) f.kinds.length n) rfl
          cases he : decide (y = K)
          · have he2 : (y == K) = false := by simpa using he
            go_wp2_with (first
              | (refine wpList_load_row rfl 28 _ rfl p rfl 28 (f.cells (some ⟨b, off, none⟩) n) (0, 0) _ XF.out Tryz.underlying28 rfl (by exact (qJF f (some ⟨b, off, none⟩) n)) ?_)
              | fail)
            go_roundw
            case rel =>
              have e : cellsF f K (k + 1) = cellsF f K k := by rw [cellsF_succ, hy.out, if_neg (by simpa using he), List.append_nil]
              refine ⟨k + 1, oa, oc, by simp, by rw [e], by omega, ?_, BF, XF⟩
              rw [e]
              exact OW
            case measure => simp [intOf]; omega
          · have he2 : (y == K) = true := by simpa using he
            have HLL : Hid ((cellsF f K k).length + 1 ≤ 2305) := Lib.hid (by have := HL.out; have := LL.out; omega)
            go_wp2_with (first
              | (refine wpList_load_row rfl 28 _ rfl p rfl 28 (f.cells (some ⟨b, off, none⟩) n) (0, 0) _ XF.out Tryz.underlying28 rfl (by exact (qJF f (some ⟨b, off, none⟩) n)) ?_)
              | fail)
            refine (cellOf_any f (some ⟨b, off, none⟩) n k wr (by have := IV.out; omega) (by have := LL.out; omega)).mono ?_
            rintro e V3 ⟨rfl, b2⟩
            replace OW := Lib.hid (own_below OW.out b2)
            clear hx
            have HK64 := Lib.hid hk64
            clear hk64
            clear c0 c1 c2 c3
            replace BF := Lib.hid (BF.out.trans (b2.mono BF.out.size))
            replace XF := Lib.hid (qblk b2 XF.out)
            clear b2
            have c0 := qcell XF.out 0 (.int .i64 f.eye) rfl
            have c1 := qcell XF.out 1 (.int .i64 f.rings) rfl
            have c2 := qcell XF.out 2 (.int .i64 f.sectors) rfl
            have c3 := qcell XF.out 3 (.slice (some ⟨b, off, none⟩) f.kinds.length n) rfl
            go_upto_region 11 with (first
              | (refine wpList_load_row rfl 28 _ rfl p rfl 28 (f.cells (some ⟨b, off, none⟩) n) (0, 0) _ XF.out Tryz.underlying28 rfl (by exact (qJF f (some ⟨b, off, none⟩) n)) ?_)
              | (at_builtin; refine appq_cells _ rfl _ _ rfl w.heap.size _ _ _ (cellsF f K k) rfl (own_below OW.out (zB V3 _)) _ _ _ [cellF f k] rfl (lit_cell V3 (cellF f k)) (by have := HLL.out; omega) (Nat.le_trans BF.out.size (zB V3 _).size) ?_; intro oa2 oc2 V4 h1 h2 h3; clear c0 c1 c2 c3; replace BF := Lib.hid (h3 _ (BF.out.trans ((zB V3 _).mono BF.out.size))); replace XF := Lib.hid (h2 _ _ (qblk (zB V3 _) XF.out) (by simp)); replace OW := Lib.hid h1; clear h1 h2 h3; have c0 := qcell XF.out 0 (.int .i64 f.eye) rfl; have c1 := qcell XF.out 1 (.int .i64 f.rings) rfl; have c2 := qcell XF.out 2 (.int .i64 f.sectors) rfl; have c3 := qcell XF.out 3 (.slice (some ⟨b, off, none⟩) f.kinds.length n) rfl)
              | fail)
            have hk64 := HK64.out
            go_wp2_with (first
              | (refine wpList_load_row rfl 28 _ rfl p rfl 28 (f.cells (some ⟨b, off, none⟩) n) (0, 0) _ XF.out Tryz.underlying28 rfl (by exact (qJF f (some ⟨b, off, none⟩) n)) ?_)
              | fail)
            go_roundw
            case rel =>
              have e : cellsF f K (k + 1) = cellsF f K k ++ [cellF f k] := by rw [cellsF_succ, hy.out, if_pos (by simpa using he)]
              refine ⟨k + 1, oa2, oc2, by simp, by rw [e, List.length_append]; rfl, by omega, ?_, BF, XF⟩
              rw [e, List.length_append]
              exact OW
            case measure => simp [intOf]; omega
        · have t0 : decide ((k : Int) < (f.kinds.length : Int)) = false := by simp; omega
          have e : k = f.kinds.length := by omega
          subst e
          have c0 := qcell XF.out 0 (.int .i64 f.eye) rfl
          have c1 := qcell XF.out 1 (.int .i64 f.rings) rfl
          have c2 := qcell XF.out 2 (.int .i64 f.sectors) rfl
          have c3 := qcell XF.out 3 (.slice a f.kinds.length n) rfl
          go_wp2_with (first
            | (refine wpList_load_row rfl 28 _ rfl p rfl 28 (f.cells a n) (0, 0) _ XF.out Tryz.underlying28 rfl (by exact (qJF f a n)) ?_)
            | fail)
          go_ret2
          unfold cellsP
          rw [if_neg (by rw [HV.out]; decide), if_neg (by rw [HB.out]; decide)]
          exact ⟨oa, oc, rfl, OW.out, BF.out⟩
set_option maxHeartbeats 4000000 in
set_option maxRecDepth 100000 in
theorem areaP_any (f : FaceV) (a : Option Addr) (n : Nat) (K : Int) (w : World) (hr : RdI w a f.kinds.length n f.kinds) :
    Calls Tryz.prog 63 #[.agg (f.cells a n), .int .i64 K] w fun e w' => e = .returned (.tuple #[.int .i64 (areaP f K).1, .int .i64 (areaP f K).2]) ∧ Below w.heap.size w w' := by
  have CA := Lib.hid (fun W (hb : Below w.heap.size w W) => cellsP_any f a n K W (hr.below hb))
  have LL : Hid ((cellsP f K).1.length ≤ 2304) := Lib.hid (by
    unfold cellsP
    by_cases hv : f.valid = true
    · rw [if_neg (by rw [hv]; decide)]
      split
      · simp
      · exact Nat.le_trans (cellsF_len _ _ _) (FaceV.len_le hv)
    · rw [if_pos (by simpa using hv)]
      simp)
  have WG : Hid (∀ c ∈ (cellsP f K).1, (1 ≤ f.eye ∧ f.eye ≤ 16) ∧ 0 ≤ c.1 ∧ c.1 ≤ 24) := Lib.hid (fun c hc => by
    unfold cellsP at hc
    by_cases hv : f.valid = true
    · rw [if_neg (by rw [hv]; decide)] at hc
      split at hc
      · cases hc
      · obtain ⟨i, hi, _, rfl⟩ := cellsF_mem.1 hc
        obtain ⟨k1, _⟩ := cellF_has hv (i := (i : Int)) ⟨by omega, by omega⟩
        have h1 := (hasF_iff.1 k1).1
        have h2 := FaceV.int hv
        exact ⟨(FaceV.valid_iff.1 hv).1, h1.1, by omega⟩
    · rw [if_pos (by simpa using hv)] at hc
      cases hc)
  clear hr
  have AL := Lib.hid (al1 w (.cells (f.cells a n) 28))
  go_enter Tryz.func63, Tryz.ntmps63
  go_upto_region 1 with fail
  obtain ⟨p, hp⟩ : ∃ p, Hid (w.heap.size = p) := ⟨_, Lib.hid rfl⟩
  rw [hp.out] at AL ⊢
  generalize (w.alloc (.cells (f.cells a n) 28)) = W0 at *
  have BF : Hid (Below w.heap.size w W0) := Lib.hid (by rw [hp.out]; exact AL.out.1)
  have XF : Hid (W0.heap[p]? = some (.cells (f.cells a n) 28 (0, 0))) := Lib.hid AL.out.2
  clear AL
  have c0 := qcell XF.out 0 (.int .i64 f.eye) rfl
  have c1 := qcell XF.out 1 (.int .i64 f.rings) rfl
  have c2 := qcell XF.out 2 (.int .i64 f.sectors) rfl
  have c3 := qcell XF.out 3 (.slice a f.kinds.length n) rfl
  go_wp2_with (first
    | (refine wpList_load_row rfl 28 _ rfl p rfl 28 (f.cells a n) (0, 0) _ XF.out Tryz.underlying28 rfl (by exact (qJF f a n)) ?_)
    | fail)
  refine (CA.out W0 BF.out).mono ?_
  rintro e V1 ⟨oa, oc, rfl, own, b⟩
  have R0 := Lib.hid (RdA.of_own own)
  clear own
  clear c0 c1 c2 c3
  replace BF := Lib.hid (BF.out.trans (b.mono BF.out.size))
  replace XF := Lib.hid (qblk b XF.out)
  clear b
  have c0 := qcell XF.out 0 (.int .i64 f.eye) rfl
  have c1 := qcell XF.out 1 (.int .i64 f.rings) rfl
  have c2 := qcell XF.out 2 (.int .i64 f.sectors) rfl
  have c3 := qcell XF.out 3 (.slice a f.kinds.length n) rfl
  have B1 := Lib.hid BF.out
  obtain ⟨l, hl⟩ : ∃ l, Hid ((cellsP f K).1 = l) := ⟨_, Lib.hid rfl⟩
  obtain ⟨er, her⟩ : ∃ er, Hid ((cellsP f K).2 = er) := ⟨_, Lib.hid rfl⟩
  rw [hl.out] at LL WG R0 ⊢
  rw [her.out]
  have RR := Lib.hid (fun W (hb : Below V1.heap.size V1 W) => R0.out.below hb)
  clear R0
  go_wp2_with (first
    | (refine wpList_load_row rfl 28 _ rfl p rfl 28 (f.cells a n) (0, 0) _ XF.out Tryz.underlying28 rfl (by exact (qJF f a n)) ?_)
    | fail)
  clear c0 c1 c2 c3
  go_loopw [8, 19] (fun s i wr => ∃ k : Nat, i = .int .i64 k ∧ s = .int .i64 (((l.take k).map fun c => weightF f c.1).sum) ∧ k ≤ l.length ∧ Hid (0 ≤ ((l.take k).map fun c => weightF f c.1).sum ∧ ((l.take k).map fun c => weightF f c.1).sum ≤ 100 * (k : Int)) ∧ Hid (Below V1.heap.size V1 wr) ∧ Hid (Below w.heap.size w wr) ∧ Hid (wr.heap[p]? = some (.cells (f.cells a n) 28 (0, 0)))) (fun _ i _ => l.length - (intOf i).toNat)
  case atStart => exact ⟨0, rfl, by simp, Nat.zero_le _, Lib.hid (by simp), Lib.hid (Below.refl _ _), BF, XF⟩
  case round =>
    clear BF XF
    obtain ⟨k, rfl, rfl, hk, SM, BV, BF, XF⟩ := hrel
    have c0 := qcell XF.out 0 (.int .i64 f.eye) rfl
    have c1 := qcell XF.out 1 (.int .i64 f.rings) rfl
    have c2 := qcell XF.out 2 (.int .i64 f.sectors) rfl
    have c3 := qcell XF.out 3 (.slice a f.kinds.length n) rfl
    by_cases hkn : k < l.length
    · have t0 : decide ((k : Int) < (l.length : Int)) = true := by simp; omega
      obtain ⟨c, hc⟩ : ∃ c, l[k]? = some c := ⟨l[k], List.getElem?_eq_getElem hkn⟩
      have WC := Lib.hid (WG.out c (List.mem_of_getElem? hc))
      have hk64 : (k : Int) + 1 ≤ 9223372036854775807 := by have := LL.out; omega
      have e1 : l.take (k + 1) = l.take k ++ [c] := by rw [List.take_add_one, hc]; rfl
      have E1 : Hid (((l.take (k + 1)).map fun c => weightF f c.1).sum = ((l.take k).map fun c => weightF f c.1).sum + weightF f c.1) := Lib.hid (by rw [e1, List.map_append, List.sum_append]; simp)
      have WF : Hid (0 ≤ weightF f c.1 ∧ weightF f c.1 ≤ 100) := Lib.hid (by have := WC.out; unfold weightF; omega)
      have KL : Hid (k ≤ 2304) := Lib.hid (by have := LL.out; omega)
      have W1 : Hid (wrap64 (((l.take k).map fun c => weightF f c.1).sum + weightF f c.1) = ((l.take (k + 1)).map fun c => weightF f c.1).sum) := Lib.hid (by have := SM.out; have := WF.out; have := KL.out; rw [E1.out]; unfold wrap64; omega)
      obtain ⟨b0, off, rfl, h4⟩ := RdA.at (RR.out _ BV.out) (by omega)
      have hx0 := h4 (k * 2) _ (cellsV_at l k c hc).1
      have hx1 := h4 (k * 2 + 1) _ (cellsV_at l k c hc).2
      rw [← Nat.add_assoc] at hx1
      obtain ⟨S, hS⟩ : ∃ S, Hid (((l.take k).map fun c => weightF f c.1).sum = S) := ⟨_, Lib.hid rfl⟩
      rw [hS.out] at W1 ⊢
      clear h4 e1 hc
      have HK64 := Lib.hid hk64
      clear hk64
      have HXX := Lib.hid (And.intro hx0 hx1)
      clear hx0 hx1
      have hx0 := HXX.out.1
      have hx1 := HXX.out.2
      go_upto_region 6 with (first
        | (refine wpList_load_row rfl 28 _ rfl p rfl 28 (f.cells a n) (0, 0) _ XF.out Tryz.underlying28 rfl (by exact (qJF f a n)) ?_)
        | fail)
      have AL := al1 wr (.cells #[.int .i64 c.1, .int .i64 c.2] 41)
      clear hx0 hx1 c0 c1 c2 c3
      have hq0 := qcell AL.2 0 (.int .i64 c.1) rfl
      replace BF := Lib.hid (BF.out.trans (AL.1.mono BF.out.size))
      replace BV := Lib.hid (BV.out.trans (AL.1.mono BV.out.size))
      replace XF := Lib.hid (qblk AL.1 XF.out)
      clear AL
      generalize wr.alloc (.cells #[.int .i64 c.1, .int .i64 c.2] 41) = V3 at *
      generalize wr.heap.size = q at *
      have c0 := qcell XF.out 0 (.int .i64 f.eye) rfl
      have c1 := qcell XF.out 1 (.int .i64 f.rings) rfl
      have c2 := qcell XF.out 2 (.int .i64 f.sectors) rfl
      have c3 := qcell XF.out 3 (.slice a f.kinds.length n) rfl
      go_wp2_with (first
        | (refine wpList_load_row rfl 28 _ rfl p rfl 28 (f.cells a n) (0, 0) _ XF.out Tryz.underlying28 rfl (by exact (qJF f a n)) ?_)
        | fail)
      refine (weight_any f a n c.1 V3 WC.out.1 WC.out.2).mono ?_
      rintro e V4 ⟨rfl, b⟩
      clear hq0
      replace BV := Lib.hid (BV.out.trans (b.mono BV.out.size))
      clear c0 c1 c2 c3
      replace BF := Lib.hid (BF.out.trans (b.mono BF.out.size))
      replace XF := Lib.hid (qblk b XF.out)
      clear b
      have c0 := qcell XF.out 0 (.int .i64 f.eye) rfl
      have c1 := qcell XF.out 1 (.int .i64 f.rings) rfl
      have c2 := qcell XF.out 2 (.int .i64 f.sectors) rfl
      have c3 := qcell XF.out 3 (.slice a f.kinds.length n) rfl
      have WE := W1.out
      have hk64 := HK64.out
      go_wp2_with (first
        | (refine wpList_load_row rfl 28 _ rfl p rfl 28 (f.cells a n) (0, 0) _ XF.out Tryz.underlying28 rfl (by exact (qJF f a n)) ?_)
        | fail)
      go_roundw
      case rel => exact ⟨k + 1, by simp, by rw [← W1.out], by omega, Lib.hid (by have := SM.out; have := WF.out; rw [E1.out]; omega), BV, BF, XF⟩
      case measure => simp [intOf]; omega
    · have t0 : decide ((k : Int) < (l.length : Int)) = false := by simp; omega
      have e : k = l.length := by omega
      subst e
      go_wp2_with (first
        | (refine wpList_load_row rfl 28 _ rfl p rfl 28 (f.cells a n) (0, 0) _ XF.out Tryz.underlying28 rfl (by exact (qJF f a n)) ?_)
        | fail)
      go_ret2
      unfold areaP
      rw [hl.out, her.out]
      exact ⟨by rw [List.take_length]; rfl, BF.out⟩
end Go.Proofs.YtimmadkbkimonaaGreatDoor
