/- Parts of the proof, in this order: Join of the program: a range over the iterator of tallies; The program's reader: number; The program's note; The reference's reader: signed, Number; The reference's reader: Count, Numbers; Sticks: a journal's methods, and a stick's; Sticks: Write, Sync, Tallies, Crash; Sticks: Crash; Sticks: Crash goes through; Sticks: the walk of a crash that goes through; The examples at the head of the statements about tallies. -/
import Derived.Sort.QuietIn
import Derived.WalkLawsBesides
import Derived.Deep.RegionLaw
import Derived.RegionTactic
import Derived.Deep.QuietTactic
import Derived.BigQuiet
import Derived.Deep.RegionHeld3
import Derived.Deep.RegionWith
import Derived.StillTailTactics
import Derived.BigRegion
import Derived.Test.YtlnhppgfhkkidaaGreatKPgp3
set_option linter.unusedSimpArgs false
set_option linter.unusedVariables false
open List renaming getElem_toArray → lq0, getElem_cons_succ → lq1, getElem_cons_zero → lq2, setIfInBounds_toArray → lq3, set_cons_zero → lq4, set_cons_succ → lq5
namespace Go.Proofs.YtlnhppgfhkkidaaGreat
open Go.RowKit
attribute [local go_sem] Oper.semAt_some

theorem app_bb1In {F : Fence} {n : Nat} (w : World) {ops : Array Oper} {rest : List Oper} {o : Oper} {a : Act} {Q : Exit → Act → World → Prop} (hgd : o.guard = none) (s x : Operand)
    (ho : o.op = .call { callee := .builtin .append, args := #[s, x], argTypes := #[98, 98] }) (base : Nat)
    (sa : Option Addr) (sn sc : Nat) (xs : List (List UInt8)) (hs : a.eval s = .slice sa sn sc) (hown : OwnBB w base sa sn sc xs)
    (g : Nat) (ya : Option Addr) (m yc : Nat) (l : List UInt8) (hx : a.eval x = .slice (some ⟨g, 0, none⟩) 1 1) (hc : w.cell? ⟨g, 0, none⟩ = some (.slice ya m yc))
    (hy : w.ownsRow 0 5 1 (.slice ya m yc) m (l.map byteV)) (hbytes : sn + 1 ≤ 16777216) (hbase : base ≤ w.heap.size)
    (h : ∀ a' c' w', OwnBB w' base a' (sn + 1) c' (xs ++ [l]) → w.grownBy w' (Value.ownBlock (.slice sa sn sc)) → wpListIn F n Tryz.prog ops Q rest (a.put o.dst (.slice a' (sn + 1) c')) w') :
    wpListIn F n Tryz.prog ops Q (o :: rest) a w := by
  obtain ⟨a', c', w', hr, h2, h3⟩ := run_app_bb1 w o.type base sa sn sc xs hown g ya m yc l hc hy hbytes hbase
  refine wpListIn_plain hgd fun K hK => ?_
  unfold Oper.wpIn
  refine ⟨?_, ?_⟩
  · simp [Oper.about, ho, resolve, Target.leads, Sem.run_pure]
  · rw [Oper.semAt_plain F _ _ (by rw [ho]; intro c hc'; cases hc')]
    simp [execOp, ho, resolve, invoke, builtin, hs, hx, hr, Result.andThen]
    exact hK _ _ (h a' c' w' h2 h3)

structure Same (S : Nat → Prop) (W W' : World) : Prop where
  os : W'.os = W.os
  tape : W'.tape = W.tape
  output : W'.output = W.output
  size : W.heap.size ≤ W'.heap.size
  block : ∀ k, k < W.heap.size → ¬ S k → W'.heap[k]? = W.heap[k]?

theorem Same.of_below {S : Nat → Prop} {W W' : World} (h : Below W.heap.size W W') : Same S W W' := ⟨h.os, h.tape, h.output, h.size, fun k hk _ => h.block k hk⟩
theorem Same.of_grown {S : Nat → Prop} {W W' : World} {row : Option Nat} (h : W.grownBy W' row) (hr : ∀ k, row = some k → S k) : Same S W W' :=
  ⟨h.os, h.tape, h.output, h.size, fun k hk hs => h.block k hk (fun e => hs (hr k e.symm))⟩
theorem Same.trans {S : Nat → Prop} {A B C : World} (h : Same S A B) (k : Same S B C) : Same S A C :=
  ⟨k.os.trans h.os, k.tape.trans h.tape, k.output.trans h.output, Nat.le_trans h.size k.size, fun i hi hs => (k.block i (Nat.lt_of_lt_of_le hi h.size) hs).trans (h.block i hi hs)⟩
theorem Same.below {S : Nat → Prop} {B : Nat} {A W W' : World} (h : Same S W W') (hb : Below B A W) (hB : B ≤ W.heap.size) (hs : ∀ k, S k → B ≤ k) : Below B A W' :=
  hb.trans ⟨h.os, h.tape, h.output, h.size, fun k hk => h.block k (by omega) (fun e => by have := hs k e; omega)⟩

theorem own_same {S : Nat → Prop} {W W' : World} {base : Nat} {e : TypeId} {k : Nat} {v : Value} {n : Nat} {xs : List Value} (h : W.ownsRow base e k v n xs) (hs : Same S W W')
    (hd : ∀ b cur fr, S b → W.heap[b]? ≠ some (.cells cur e fr) ∨ b < base) : W'.ownsRow base e k v n xs := by
  refine ⟨h.1, ?_⟩
  rcases h.2 with h | ⟨g, cap, cur, h, hg, hgg, hr⟩
  · exact .inl h
  · refine .inr ⟨g, cap, cur, h, hg, (hs.block g (Array.getElem?_eq_some_iff.1 hgg).1 (fun hsg => ?_)).trans hgg, hr⟩
    rcases hd g cur (0, 0) hsg with h' | h'
    · exact h' hgg
    · omega
theorem OwnBB.same {S : Nat → Prop} {W W' : World} {base : Nat} {a : Option Addr} {n c : Nat} {ls : List (List UInt8)} (h : OwnBB W base a n c ls) (hs : Same S W W')
    (h1 : ∀ b cur fr, S b → W.heap[b]? ≠ some (.cells cur 41 fr) ∨ b < base) (h2 : ∀ b cur fr, S b → W.heap[b]? ≠ some (.cells cur 5 fr)) : OwnBB W' base a n c ls := by
  obtain ⟨vs, k1, k2, k3⟩ := h
  refine ⟨vs, own_same k1 hs h1, k2, fun i hi => ?_⟩
  obtain ⟨ai, ci, k4, k5⟩ := k3 i hi
  exact ⟨ai, ci, k4, own_same k5 hs (fun b cur fr hb => .inl (h2 b cur fr hb))⟩

theorem tallies_any (v v' : Value) (hv : ∃ a n c, v = .slice a n c) (hv' : ∃ a n c, v' = .slice a n c) (w : World) :
    Calls Tryz.prog 108 #[v, v'] w fun e w' => e = .returned (.func (.func 163) #[] #[.pointer (some ⟨w.heap.size, 0, none⟩), .pointer (some ⟨w.heap.size + 1, 0, none⟩)]) ∧
      (w.alloc (.cells #[v] 41)).alloc (.cells #[v'] 41) = w' := by
  obtain ⟨a, n, c, rfl⟩ := hv
  obtain ⟨a', n', c', rfl⟩ := hv'
  go_enter Tryz.func108, Tryz.ntmps108
  go_wp2
  go_ret
  exact ⟨rfl, rfl⟩

def Box (W : World) (b : Nat) (t : TypeId) (v : Value) : Prop := W.heap[b]? = some (.cells #[v] t (0, 0))
theorem Box.cell {W : World} {b : Nat} {t : TypeId} {v : Value} (h : Box W b t v) : W.cell? ⟨b, 0, none⟩ = some v := cell_of_one h
theorem Box.free {W : World} {b : Nat} {t : TypeId} {v : Value} (h : Box W b t v) : W.frozen? ⟨b, 0, none⟩ = false := free_of_one h
theorem Box.same {S : Nat → Prop} {W W' : World} {b : Nat} {t : TypeId} {v : Value} (h : Box W b t v) (hs : Same S W W') (hn : ¬ S b) : Box W' b t v :=
  (hs.block b (Array.getElem?_eq_some_iff.1 h).1 hn).trans h

theorem Box.new (W : World) (t : TypeId) (v : Value) {b : Nat} (hb : b = W.heap.size) : Box (W.alloc (.cells #[v] t)) b t v := by subst hb; exact heap_alloc_new W _
theorem Box.alloc {W : World} {b : Nat} {t : TypeId} {v : Value} (h : Box W b t v) (o : Obj) : Box (W.alloc o) b t v := h.same (Same.of_below (S := fun _ => False) ((Below.refl _ _).alloc (Nat.le_refl _) o)) id
theorem Box.set {W : World} {b : Nat} {t : TypeId} {v : Value} (h : Box W b t v) (u : Value) : Box (W.setCell ⟨b, 0, none⟩ u) b t u := one_setCell h
theorem Box.set_other {W : World} {b b' : Nat} {t : TypeId} {v : Value} (h : Box W b t v) (u : Value) (hne : b ≠ b') : Box (W.setCell ⟨b', 0, none⟩ u) b t v :=
  (Below.heap_setCell W ⟨b', 0, none⟩ u b hne).trans h
theorem Same.setCell {S : Nat → Prop} {W : World} {b : Nat} (u : Value) (h : S b) : Same S W (W.setCell ⟨b, 0, none⟩ u) := Same.of_grown (grownBy_setCell' W b u) (fun k e => by cases e; exact h)

def Told (w : World) (W : World) (d : List (List UInt8)) : Prop :=
  ∃ oa oc, Box W w.heap.size 98 (.slice oa d.length oc) ∧ OwnBB W (w.heap.size + 5) oa d.length oc d ∧ Box W (w.heap.size + 1) 3 (.int .i64 (sOf d)) ∧ Box W (w.heap.size + 2) 3 (.int .i64 (4 * (d.length : Int))) ∧ Below w.heap.size w W ∧ w.heap.size + 5 ≤ W.heap.size
def Left (w : World) (W : World) (l1 l2 : List UInt8) : Prop :=
  ∃ sa sc fa fc, Box W (w.heap.size + 3) 41 (.slice sa l1.length sc) ∧ RdB w sa l1.length sc l1 ∧ Box W (w.heap.size + 4) 41 (.slice fa l2.length fc) ∧ RdB w fa l2.length fc l2

theorem Told.same {w W W' : World} {d : List (List UInt8)} (h : Told w W d) {S : Nat → Prop} (hs : Same S W W') (hS : ∀ k, S k → w.heap.size + 3 ≤ k)
    (hd : ∀ b cur fr, S b → (W.heap[b]? ≠ some (.cells cur 41 fr) ∨ b < w.heap.size + 5) ∧ W.heap[b]? ≠ some (.cells cur 5 fr)) : Told w W' d := by
  obtain ⟨oa, oc, h1, h2, h3, h4, h5, h6⟩ := h
  exact ⟨oa, oc, h1.same hs (fun e => by have := hS _ e; omega), h2.same hs (fun b cur fr hb => (hd b cur fr hb).1) (fun b cur fr hb => (hd b cur fr hb).2),
    h3.same hs (fun e => by have := hS _ e; omega), h4.same hs (fun e => by have := hS _ e; omega), hs.below h5 h5.size (fun k e => by have := hS k e; omega), Nat.le_trans h6 hs.size⟩
theorem Left.same {w W W' : World} {l1 l2 : List UInt8} (h : Left w W l1 l2) {S : Nat → Prop} (hs : Same S W W') (h3 : ¬ S (w.heap.size + 3)) (h4 : ¬ S (w.heap.size + 4)) : Left w W' l1 l2 := by
  obtain ⟨sa, sc, fa, fc, k1, k2, k3, k4⟩ := h
  exact ⟨sa, sc, fa, fc, k1.same hs h3, k2, k3.same hs h4, k4⟩

theorem Told.putObj {w W : World} {d : List (List UInt8)} (h : Told w W d) (o : Loop) (hl : ∃ r, W.heap[w.heap.size + 5 + 1]? = some (.loop r)) : Told w (W.putObj (w.heap.size + 5 + 1) (.loop o)) d := by
  obtain ⟨r, hl⟩ := hl
  refine h.same (S := fun k => k = w.heap.size + 5 + 1) (Same.of_grown (grownBy_putObj' W _ _) (fun k e => by cases e; rfl)) (fun k e => by omega) (fun b cur fr hb => ?_)
  subst hb
  rw [hl]
  exact ⟨.inl (by simp), by simp⟩
theorem Left.putObj {w W : World} {l1 l2 : List UInt8} (h : Left w W l1 l2) (o : Loop) : Left w (W.putObj (w.heap.size + 5 + 1) (.loop o)) l1 l2 :=
  h.same (S := fun k => k = w.heap.size + 5 + 1) (Same.of_grown (grownBy_putObj' W _ _) (fun k e => by cases e; rfl)) (by omega) (by omega)
theorem Told.below {w W W' : World} {d : List (List UInt8)} (h : Told w W d) (hb : Below W.heap.size W W') : Told w W' d :=
  h.same (S := fun _ => False) (Same.of_below hb) (fun _ e => e.elim) (fun _ _ _ e => e.elim)
theorem Left.below {w W W' : World} {l1 l2 : List UInt8} (h : Left w W l1 l2) (hb : Below W.heap.size W W') : Left w W' l1 l2 :=
  h.same (S := fun _ => False) (Same.of_below hb) id id

theorem Told.step {w W W3 : World} {d : List (List UInt8)} {b : List UInt8} {oa a' : Option Addr} {oc c' : Nat} (h1 : Box W w.heap.size 98 (.slice oa d.length oc)) (h3 : Box W (w.heap.size + 1) 3 (.int .i64 (sOf d)))
    (h4 : Box W (w.heap.size + 2) 3 (.int .i64 (4 * (d.length : Int)))) (h5 : Below w.heap.size w W) (h6 : w.heap.size + 5 ≤ W.heap.size) (hs : Same (fun k => w.heap.size + 5 ≤ k) W W3)
    (ho : OwnBB W3 (w.heap.size + 5) a' (d.length + 1) c' (d ++ [b])) :
    Told w (((W3.setCell ⟨w.heap.size, 0, none⟩ (.slice a' (d.length + 1) c')).setCell ⟨w.heap.size + 1, 0, none⟩ (.int .i64 ((sOf d : Int) + ((b.length : Int) + 2)))).setCell ⟨w.heap.size + 1 + 1, 0, none⟩ (.int .i64 (4 * (d.length : Int) + 4))) (d ++ [b]) := by
  have k1 := h1.same hs (by omega)
  have k3 := h3.same hs (by omega)
  have k4 := h4.same hs (by omega)
  have hA := Same.setCell (S := fun k => k = w.heap.size ∨ k = w.heap.size + 1 ∨ k = w.heap.size + 2) (W := W3) (b := w.heap.size) (.slice a' (d.length + 1) c') (.inl rfl)
  have hB := Same.setCell (S := fun k => k = w.heap.size ∨ k = w.heap.size + 1 ∨ k = w.heap.size + 2) (W := W3.setCell ⟨w.heap.size, 0, none⟩ (.slice a' (d.length + 1) c')) (b := w.heap.size + 1) (.int .i64 ((sOf d : Int) + ((b.length : Int) + 2))) (.inr (.inl rfl))
  have hC := Same.setCell (S := fun k => k = w.heap.size ∨ k = w.heap.size + 1 ∨ k = w.heap.size + 2) (W := (W3.setCell ⟨w.heap.size, 0, none⟩ (.slice a' (d.length + 1) c')).setCell ⟨w.heap.size + 1, 0, none⟩ (.int .i64 ((sOf d : Int) + ((b.length : Int) + 2)))) (b := w.heap.size + 1 + 1) (.int .i64 (4 * (d.length : Int) + 4)) (.inr (.inr rfl))
  have hall := (hA.trans hB).trans hC
  have hlen : (d ++ [b]).length = d.length + 1 := by simp
  refine ⟨a', c', ?_, ?_, ?_, ?_, ?_, ?_⟩
  · rw [hlen]
    exact ((k1.set _).set_other _ (by omega)).set_other _ (by omega)
  · rw [hlen]
    refine ho.same hall (fun q cur fr hq => .inr (by omega)) (fun q cur fr hq => ?_)
    rcases hq with rfl | rfl | rfl
    · rw [show W3.heap[w.heap.size]? = _ from k1]; simp
    · rw [show W3.heap[w.heap.size + 1]? = _ from k3]; simp
    · rw [show W3.heap[w.heap.size + 2]? = _ from k4]; simp
  · have e : ((sOf (d ++ [b]) : Nat) : Int) = (sOf d : Int) + ((b.length : Int) + 2) := by rw [sOf_snoc]; omega
    rw [e]
    exact ((k3.set_other _ (by omega)).set _).set_other _ (by omega)
  · have e : (4 * ((d ++ [b]).length : Int)) = 4 * (d.length : Int) + 4 := by rw [hlen]; omega
    rw [e]
    exact ((k4.set_other _ (by omega)).set_other _ (by omega)).set _
  · exact hall.below (hs.below h5 h5.size (fun k e => by omega)) (Nat.le_trans h5.size hs.size) (fun k e => by omega)
  · exact Nat.le_trans h6 (Nat.le_trans hs.size hall.size)


def boxLen (W : World) (b : Nat) : Nat := match W.cell? ⟨b, 0, none⟩ with | some (.slice _ n _) => n | _ => 0
theorem Left.boxLen {w W : World} {l1 l2 : List UInt8} (h : Left w W l1 l2) : boxLen W (w.heap.size + 4) = l2.length := by
  obtain ⟨sa, sc, fa, fc, k1, k2, k3, k4⟩ := h
  simp [Go.Proofs.YtlnhppgfhkkidaaGreat.boxLen, k3.cell]

theorem or_bytes (x y : Nat) (hx : x < 256) (hy : y < 256) : bits .or .i64 (x : Int) ((y : Int) * 256) = ((x + 256 * y : Nat) : Int) := by
  have h := (bits_nat .i64 16 (by decide) (fun n h0 h1 => by rw [IntKind.wrap_i64]; omega) x (256 * y) (by omega) (by omega)).2
  have e : (256 * y : Nat) = 2 ^ 8 * y := by omega
  rw [show ((y : Int) * 256) = ((256 * y : Nat) : Int) by omega, h, Nat.or_comm, e, ← Nat.two_pow_add_eq_or_of_lt (by omega) y]
  omega

theorem cut_eq {w : World} {xa : Option Addr} {n c : Nat} {l : List UInt8} (hrd : RdB w xa n c l) (L H : Nat) (lo hi : Option Value)
    (hl : (lo = none ∧ L = 0) ∨ ∃ kd, lo = some (.int kd (L : Int))) (hh : (hi = none ∧ H = n) ∨ ∃ kd, hi = some (.int kd (H : Int))) (h1 : L ≤ H) (h2 : H ≤ n) :
    ∃ a', (∀ W, (Instr.sliceAt 41 (.slice xa n c) lo hi none).run Tryz.prog W = .ok (.slice a' (H - L) (c - L)) W) ∧ RdB w a' (H - L) (c - L) ((l.drop L).take (H - L)) := by
  obtain ⟨i, hi', hz0, hz1, hz2⟩ := info_parts infoByte
  obtain ⟨a', hs, hr⟩ := RdA.sliced hrd L H h1 h2
  have hnc := hrd.2.1
  refine ⟨a', fun W => ?_, ?_⟩
  · rw [← hs]
    have hel : Tryz.prog.elem 41 = 5 := by simp [Program.elem, Tryz.underlying41]
    rw [run_sliceAt_slice (P := Tryz.prog) W 41 _ _ _ _ (by rw [hel]; exact Tryz.underlying41), run_slice_any (P := Tryz.prog) W 41 xa n c (by rw [hel]; exact Tryz.underlying41)]
    have hb : (Instr.sliceBounds true n c lo hi none).run Tryz.prog W = .ok (L, H, c) W := by
      rcases hl with ⟨rfl, rfl⟩ | ⟨kd, rfl⟩ <;> rcases hh with ⟨rfl, rfl⟩ | ⟨kd', rfl⟩
      · simp [Instr.sliceBounds]
      · simp [Instr.sliceBounds, run_sliceBound, Result.andThen, (by omega : H ≤ c)]
      · simp [Instr.sliceBounds, run_sliceBound, Result.andThen, h1]
      · simp [Instr.sliceBounds, run_sliceBound, Result.andThen, (by omega : H ≤ c), h1]
    rw [hb, hel]
    simp [Result.andThen, sizeOf, typeInfo, hi', hz1]
  · unfold RdB
    rw [List.map_take, List.map_drop]
    simpa using hr

theorem Left.step {w W : World} {d : List (List UInt8)} {m1 m2 : List UInt8} {v1 v2 : Value} (hT : Told w W d) (j1 : Box W (w.heap.size + 3) 41 v1) (j3 : Box W (w.heap.size + 4) 41 v2)
    {na ma : Option Addr} {nn mn nc mc : Nat} (h1 : RdB w na nn nc m1) (h2 : RdB w ma mn mc m2) {rec : LoopState → Option Code → Loop} (hl : LoopAt rec (w.heap.size + 5) .ready none W) :
    Told w ((W.setCell ⟨w.heap.size + 3, 0, none⟩ (.slice na nn nc)).setCell ⟨w.heap.size + 4, 0, none⟩ (.slice ma mn mc)).drew d ∧
    Left w ((W.setCell ⟨w.heap.size + 3, 0, none⟩ (.slice na nn nc)).setCell ⟨w.heap.size + 4, 0, none⟩ (.slice ma mn mc)).drew m1 m2 ∧
    LoopAt rec (w.heap.size + 5) .ready none ((W.setCell ⟨w.heap.size + 3, 0, none⟩ (.slice na nn nc)).setCell ⟨w.heap.size + 4, 0, none⟩ (.slice ma mn mc)).drew := by
  have hA := Same.setCell (S := fun k => k = w.heap.size + 3 ∨ k = w.heap.size + 4) (W := W) (b := w.heap.size + 3) (.slice na nn nc) (.inl rfl)
  have hB := Same.setCell (S := fun k => k = w.heap.size + 3 ∨ k = w.heap.size + 4) (W := W.setCell ⟨w.heap.size + 3, 0, none⟩ (.slice na nn nc)) (b := w.heap.size + 4) (.slice ma mn mc) (.inr rfl)
  have hC := (hA.trans hB)
  have hall : Same (fun k => k = w.heap.size + 3 ∨ k = w.heap.size + 4) W ((W.setCell ⟨w.heap.size + 3, 0, none⟩ (.slice na nn nc)).setCell ⟨w.heap.size + 4, 0, none⟩ (.slice ma mn mc)).drew := ⟨hC.os, hC.tape, hC.output, hC.size, hC.block⟩
  refine ⟨hT.same hall (fun k e => by omega) (fun b cur fr hb => ?_), ?_, ?_⟩
  · rcases hb with rfl | rfl
    · rw [show W.heap[w.heap.size + 3]? = _ from j1]
      exact ⟨.inr (by omega), by simp⟩
    · rw [show W.heap[w.heap.size + 4]? = _ from j3]
      exact ⟨.inr (by omega), by simp⟩
  · obtain rfl := h1.len
    obtain rfl := h2.len
    exact ⟨na, nc, ma, mc, (j1.set _).set_other _ (by omega), h1, (j3.set_other _ (by omega)).set _, h2⟩
  · exact ⟨(hall.block _ (Array.getElem?_eq_some_iff.1 hl.1).1 (by omega)).trans hl.1, (hall.block _ (Array.getElem?_eq_some_iff.1 hl.2).1 (by omega)).trans hl.2⟩

theorem OwnBB.cells {W : World} {base : Nat} {a : Option Addr} {n c : Nat} {ls : List (List UInt8)} (h : OwnBB W base a n c ls) : ∀ (j : Nat) (o : Obj), Value.ownBlock (.slice a n c) = some j → W.heap[j]? = some o → o.isCells = true := by
  obtain ⟨vs, h1, _⟩ := h
  intro j o hj ho
  rcases h1.2 with ⟨h2, _⟩ | ⟨g, cap, cur, h2, _, hg, _⟩
  · rw [h2] at hj; simp [Value.ownBlock] at hj
  · rw [h2] at hj
    simp only [Value.ownBlock, Option.some.injEq] at hj
    subst hj
    rw [hg] at ho
    cases ho
    rfl
theorem OwnBB.mono {W : World} {base B : Nat} {a : Option Addr} {n c : Nat} {ls : List (List UInt8)} (h : OwnBB W base a n c ls) (hB : B ≤ base) : OwnBB W B a n c ls := by
  obtain ⟨vs, h1, h2, h3⟩ := h
  exact ⟨vs, own_mono h1 hB, h2, h3⟩
theorem Left.step3 {w W W3 : World} {l1 l2 : List UInt8} (h : Left w W l1 l2) (hs : Same (fun k => w.heap.size + 5 ≤ k) W W3) (v0 v1 v2 : Value) :
    Left w (((W3.setCell ⟨w.heap.size, 0, none⟩ v0).setCell ⟨w.heap.size + 1, 0, none⟩ v1).setCell ⟨w.heap.size + 1 + 1, 0, none⟩ v2) l1 l2 := by
  obtain ⟨sa, sc, fa, fc, k1, k2, k3, k4⟩ := h
  have j1 := k1.same hs (by omega)
  have j3 := k3.same hs (by omega)
  exact ⟨sa, sc, fa, fc, ((j1.set_other _ (by omega)).set_other _ (by omega)).set_other _ (by omega), k2, ((j3.set_other _ (by omega)).set_other _ (by omega)).set_other _ (by omega), k4⟩

structure YieldSt where
  d : List (List UInt8)
  l1 : List UInt8
  l2 : List UInt8
  b : List UInt8
  xa : Option Addr
  xc : Nat

def AtYield (w : World) (s : YieldSt) (W : World) : Prop :=
  Told w W s.d ∧ Left w W s.l1 s.l2 ∧ W.ownsRow 0 5 1 (.slice s.xa s.b.length s.xc) s.b.length (s.b.map byteV) ∧ s.d.length + 1 ≤ 4194304 ∧ sOf s.d ≤ 16777216 ∧ s.b.length ≤ 16777216

theorem LoopAt.below {rec : LoopState → Option Code → Loop} {D : Nat} {st : LoopState} {pe : Option Code} {W W' : World} (h : LoopAt rec D st pe W) (hb : Below W.heap.size W W') : LoopAt rec D st pe W' :=
  ⟨(hb.block _ (Array.getElem?_eq_some_iff.1 h.1).1).trans h.1, (hb.block _ (Array.getElem?_eq_some_iff.1 h.2).1).trans h.2⟩

set_option maxHeartbeats 2000000 in
theorem iter_any (k : Nat) (w : World) (st fo : List UInt8) (hst : st.length ≤ 16777216) (hfo : fo.length ≤ 16777216) (rec : LoopState → Option Code → Loop) (W1 : World) (h0 : Told w W1 []) (hL : Left w W1 st fo) (hl : LoopAt rec (w.heap.size + 5) .ready none W1)
    (hY : ∀ s W, AtYield w s W → LoopAt rec (w.heap.size + 5) .ready none W → YieldAt Fence.wide (k - 1) Tryz.prog (w.heap.size + 5 + 1) #[.slice s.xa s.b.length s.xc] W fun e W' =>
        (e = .returned (.bool true) ∧ (Told w W' (s.d ++ [s.b]) ∧ Left w W' s.l1 s.l2) ∧ LoopAt rec (w.heap.size + 5) .ready none W') ∨ (∃ c, e = .returned (.bool false) ∧ False ∧ LoopAt rec (w.heap.size + 5) .done (some c) W')) :
    CallsIn Fence.wide k Tryz.prog 163 #[.func (.yield (w.heap.size + 5 + 1)) #[] #[], .pointer (some ⟨w.heap.size + 3, 0, none⟩), .pointer (some ⟨w.heap.size + 4, 0, none⟩)] W1 fun e W' =>
        (∃ v, e = .returned v) ∧ ((Told w W' (joinOf st fo) ∧ LoopAt rec (w.heap.size + 5) .ready none W') ∨ (∃ c : Code, False ∧ LoopAt rec (w.heap.size + 5) .done (some c) W')) := by
  refine callsIn_of_wp Tryz.func163 rfl trivial ?_
  simp only [Tryz.ntmps163, List.size_toArray, List.length_cons, List.length_nil, Nat.reduceAdd, Nat.reduceSub, Array.replicate_succ, Array.replicate_zero, List.push_toArray, List.append_toArray, List.nil_append, List.cons_append]
  gi_wp2
  gi_loopw [4, 5, 6, 7] (fun _ _ _ _ wr => ∃ (d : List (List UInt8)) (l1 l2 : List UInt8), Told w wr d ∧ Left w wr l1 l2 ∧ LoopAt rec (w.heap.size + 5) .ready none wr ∧ Hid (joinOf st fo = d ++ joinOf l1 l2) ∧ Hid (sOf d + l1.length = st.length) ∧ Hid (4 * d.length + l2.length = fo.length)) (fun _ _ _ _ wr => boxLen wr (w.heap.size + 4))
  case atStart => exact ⟨[], st, fo, h0, hL, hl, show _ = _ by simp, show _ = _ by simp [sOf], show _ = _ by simp⟩
  case round =>
    obtain ⟨d, l1, l2, hT, hLf, hla, HJ, HS, HD⟩ := hrel
    have hbl := Lib.hid hLf.boxLen
    obtain ⟨sa, sc, fa, fc, k1, k2, k3, k4⟩ := hLf
    have c1 := k1.cell
    have c2 := k3.cell
    have m1 := RdA.maxn k2
    have m2 := RdA.maxn k4
    have hbw : Below w.heap.size w wr := by obtain ⟨_, _, _, _, _, _, h, _⟩ := hT; exact h
    have HE : Hid (¬ CanJoin l1 l2 0 0 → joinOf st fo = d) := by
      intro h
      have := join_stop h
      rw [List.drop_zero, List.drop_zero] at this
      rw [HJ.out, this, List.append_nil]
    by_cases h1 : 2 ≤ l1.length
    · by_cases h2 : 4 ≤ l2.length
      · have g1 : decide ((2 : Int) ≤ (l1.length : Int)) = true := by simp; omega
        have g2 : decide ((4 : Int) ≤ (l2.length : Int)) = true := by simp; omega
        have k2w := k2.below hbw
        have k4w := k4.below hbw
        obtain ⟨b, off, rfl, hc⟩ := k2w.at (by omega)
        have hc0 := hc 0 (by omega)
        have hc1 := hc 1 (by omega)
        rw [Nat.add_zero] at hc0
        clear hc
        have q1 : (0 : Int) < (l1.length : Int) := by omega
        have q2 : (1 : Int) < (l1.length : Int) := by omega
        have q3 := byte_toNat l1 0
        have q4 := byte_toNat l1 1
        gi_wp2
        gi_quiet (fail)
        have hor := or_bytes (l1[0]?.getD 0).toNat (l1[1]?.getD 0).toNat (by omega) (by omega)
        have hN := atN_lt l1 0
        have hat : (l1[0]?.getD 0).toNat + 256 * (l1[1]?.getD 0).toNat = atN l1 0 := rfl
        rw [hat] at hor
        rw [hor]
        clear hor hat hc0 hc1 q3 q4
        generalize hNe : atN l1 0 = N at *
        have HN := Lib.hid hNe; clear hNe
        have hT1 := hT.below (below_drewN (Below.refl _ _) nq)
        have hla1 := hla.below (below_drewN (Below.refl _ _) nq)
        have k1' : Box (wr.drewN nq) (w.heap.size + 3) 41 _ := k1
        have k3' : Box (wr.drewN nq) (w.heap.size + 4) 41 _ := k3
        by_cases h3 : N ≤ 8192
        · have g3 : decide ((8192 : Int) < (N : Int)) = false := by simp; omega
          by_cases h4 : N + 2 ≤ l1.length
          · have g4 : decide ((l1.length : Int) < (N : Int) + 2) = false := by simp; omega
            obtain ⟨ba, hcut, hbr⟩ := cut_eq k2 2 (N + 2) (some (.int .i64 2)) (some (.int .i64 ((N : Int) + 2))) (.inr ⟨_, rfl⟩) (.inr ⟨_, by go_num⟩) (by omega) h4
            have hBe : (l1.drop 2).take (N + 2 - 2) = bodyAt l1 0 := by rw [bodyAt, HN.out, Nat.zero_add, Nat.add_sub_cancel]
            have hkb : RdB w ba N (sc - 2) (bodyAt l1 0) := by rw [hBe, Nat.add_sub_cancel] at hbr; exact hbr
            have hBl : (bodyAt l1 0).length = N := hkb.len
            have HB := Lib.hid hBl; clear hBl
            have hbw2 : Below w.heap.size w (wr.drewN nq) := below_drewN hbw nq
            obtain ⟨fa4, hcutf, hbf⟩ := cut_eq k4 0 4 none (some (.int .i64 4)) (.inl ⟨rfl, rfl⟩) (.inr ⟨_, rfl⟩) (by omega) h2
            clear hbr hBe k1 k3 hla hT k2w k4w
            gi_wp2_with fail
            clear c1 c2
            generalize wr.drewN nq = W2 at *
            refine ⟨trivial, fun h => by simp [Fence.wide] at h, ?_⟩
            refine (callsIn_wide.2 (halves_any _ _ _ (bodyAt l1 0) _ (hkb.below hbw2) (by omega))).mono ?_
            rintro e W3 ⟨a1, c1, a2, c2, rfl, hw1, hw2', hb3⟩
            have hw2 := RdB.of_own hw2'
            clear hw2'
            have hT3 := hT1.below hb3
            have hla3 := hla1.below hb3
            have k13 := k1'.same (Same.of_below (S := fun _ => False) hb3) id
            have k33 := k3'.same (Same.of_below (S := fun _ => False) hb3) id
            have hbw3 := hbw2.trans (hb3.mono hbw2.size)
            have d1 := k13.cell
            have d2 := k33.cell
            clear hT1 hla1 k1' k3' hw1
            gi_wp2_with fail
            refine ⟨trivial, fun h => by simp [Fence.wide] at h, ?_⟩
            refine (callsIn_wide.2 (equal_any _ _ _ _ _ _ _ _ _ hw2 (hbf.below hbw3))).mono ?_
            rintro e W4 ⟨bq, rfl, hiff, q, rfl⟩
            have hiff' : bq = true ↔ CanJoin l1 l2 0 0 := by
              rw [hiff, canJoin_iff]
              simp only [List.drop_zero, Nat.sub_zero]
              constructor
              · intro h
                exact ⟨h1, h2, by rw [HN.out]; exact h3, by rw [HN.out]; exact h4, by rw [← h, HN.out]; simp only [bodyAt, HN.out, Nat.zero_add]⟩
              · intro h
                rw [h.2.2.2.2, HN.out]; simp only [bodyAt, HN.out, Nat.zero_add]
            have HI := Lib.hid hiff'
            clear hiff hiff' hw2
            have hbq : Below W3.heap.size W3 (W3.drewN q) := below_drewN (Below.refl _ _) q
            have hT4 := hT3.below hbq
            have hla4 := hla3.below hbq
            have hbw4 := hbw3.trans (hbq.mono hbw3.size)
            have k14 := k13.same (Same.of_below (S := fun _ => False) hbq) id
            have k34 := k33.same (Same.of_below (S := fun _ => False) hbq) id
            clear hT3 hla3 k13 k33 hbf hb3
            cases bq with
            | false =>
              gi_wp2
              refine ⟨trivial, ?_⟩
              gi_wp2
              refine ⟨fun _ h => (by cases h), ?_⟩
              gi_wp2
              refine bodyPost_ret (results_none rfl _ _ _) rfl ?_
              exact ⟨⟨_, rfl⟩, .inl ⟨by rw [HE.out (fun h => by have := HI.out.2 h; cases this)]; exact hT4, hla4⟩⟩
            | true =>
              gi_wp2_with fail
              generalize W3.drewN q = W4 at *
              refine ⟨trivial, fun h => by simp [Fence.wide] at h, ?_⟩
              refine (callsIn_wide.2 (clone_any _ _ _ _ _ (by omega) (hkb.below hbw4))).mono ?_
              rintro e W5 ⟨xa, xc, rfl, hox, hb5⟩
              have hT5 := hT4.below hb5
              have hla5 := hla4.below hb5
              have k15 := k14.same (Same.of_below (S := fun _ => False) hb5) id
              have k35 := k34.same (Same.of_below (S := fun _ => False) hb5) id
              have hL5 : Left w W5 l1 l2 := ⟨_, _, _, _, k15, k2, k35, k4⟩
              have hox5 : W5.ownsRow 0 5 1 (.slice xa (bodyAt l1 0).length xc) (bodyAt l1 0).length ((bodyAt l1 0).map byteV) := by
                rw [HB.out]; exact own_mono hox (Nat.zero_le _)
              obtain ⟨fn, tmps, assign, body, hy, hR⟩ := hY ⟨d, l1, l2, bodyAt l1 0, xa, xc⟩ W5 ⟨hT5, hL5, hox5, by have := HD.out; show d.length + 1 ≤ _; omega, by have := HS.out; show sOf d ≤ _; omega, by show (bodyAt l1 0).length ≤ _; rw [HB.out]; omega⟩ hla5
              dsimp only at hy
              rw [HB.out] at hy
              clear hox hox5 hL5 hT5 hT4 hla4 hla5 k14 k34 k15 k35 hb5 d1 d2
              gi_wp2_with fail
              refine ⟨fun h => by simp [Fence.wide] at h, ?_⟩
              refine hR.mono ?_
              rintro e W6 (⟨rfl, ⟨hT6, hL6⟩, hla6⟩ | ⟨c, _, hf, _⟩)
              · clear hR hy
                obtain ⟨sa', sc', fa', fc', j1, j2, j3, j4⟩ := hL6
                obtain ⟨na, hcn, hrn⟩ := cut_eq j2 (N + 2) l1.length (some (.int .i64 ((N : Int) + 2))) none (.inr ⟨_, by go_num⟩) (.inl ⟨rfl, rfl⟩) h4 (Nat.le_refl _)
                obtain ⟨ma, hcm, hrm⟩ := cut_eq j4 4 l2.length (some (.int .i64 4)) none (.inr ⟨_, rfl⟩) (.inl ⟨rfl, rfl⟩) h2 (Nat.le_refl _)
                have d1 := j1.cell
                have d2 := j3.cell
                have f1 := j1.free
                have f2 := j3.free
                gi_wp2
                gi_region
                have hrn' : RdB w na (l1.length - (N + 2)) (sc' - (N + 2)) (l1.drop (N + 2)) := by
                  rw [List.take_of_length_le (by simp)] at hrn; exact hrn
                have hrm' : RdB w ma (l2.length - 4) (fc' - 4) (l2.drop 4) := by
                  rw [List.take_of_length_le (by simp)] at hrm; exact hrm
                obtain ⟨hT7, hL7, hla7⟩ := Left.step hT6 j1 j3 hrn' hrm' hla6
                have hgo := join_go (HI.out.1 trivial)
                rw [List.drop_zero, List.drop_zero, HN.out, Nat.zero_add, Nat.zero_add, Nat.add_comm 2 N] at hgo
                have HG := Lib.hid hgo
                have HB7 := Lib.hid hL7.boxLen
                clear hgo j1 j2 j3 j4 hcn hrn hcm hrm d1 d2 f1 f2 hrn' hrm' hT6 hla6
                have E1 : Hid (joinOf st fo = (d ++ [bodyAt l1 0]) ++ joinOf (l1.drop (N + 2)) (l2.drop 4)) := by
                  show _ = _
                  rw [HJ.out, HG.out, List.append_assoc]; rfl
                have E2 : Hid (sOf (d ++ [bodyAt l1 0]) + (l1.drop (N + 2)).length = st.length) := by
                  show _ = _
                  rw [sOf_snoc, HB.out, List.length_drop, ← HS.out]; omega
                have E3 : Hid (4 * (d ++ [bodyAt l1 0]).length + (l2.drop 4).length = fo.length) := by
                  show _ = _
                  rw [List.length_append, List.length_drop, ← HD.out]; simp; omega
                go_roundw
                case rel =>
                  (repeat apply Exists.intro)
                  exact ⟨⟨d ++ [bodyAt l1 0], l1.drop (N + 2), l2.drop 4, hT7, hL7, hla7, E1, E2, E3⟩, rfl⟩
                case measure => rw [HB7.out, hbl.out, List.length_drop]; omega
              · exact hf.elim
          · have g4 : decide ((l1.length : Int) < (N : Int) + 2) = true := by simp; omega
            gi_wp2
            refine bodyPost_ret (results_none rfl _ _ _) rfl ?_
            exact ⟨⟨_, rfl⟩, .inl ⟨by rw [HE.out (fun h => h4 (by have := h.2.2.2.1; rw [HN.out] at this; omega))]; exact hT1, hla1⟩⟩
        · have g3 : decide ((8192 : Int) < (N : Int)) = true := by simp; omega
          gi_wp2
          refine bodyPost_ret (results_none rfl _ _ _) rfl ?_
          exact ⟨⟨_, rfl⟩, .inl ⟨by rw [HE.out (fun h => h3 (by have := h.2.2.1; rw [HN.out] at this; omega))]; exact hT1, hla1⟩⟩
      · have g1 : decide ((2 : Int) ≤ (l1.length : Int)) = true := by simp; omega
        have g2 : decide ((4 : Int) ≤ (l2.length : Int)) = false := by simp; omega
        gi_wp2
        go_end0
        exact ⟨⟨_, rfl⟩, .inl ⟨by rw [HE.out (fun h => h2 (by have := h.2.1; omega))]; exact hT, hla⟩⟩
    · have g1 : decide ((2 : Int) ≤ (l1.length : Int)) = false := by simp; omega
      gi_wp2
      go_end0
      exact ⟨⟨_, rfl⟩, .inl ⟨by rw [HE.out (fun h => h1 (by have := h.1; omega))]; exact hT, hla⟩⟩

set_option maxHeartbeats 2000000 in
theorem join_any (a : Option Addr) (n c : Nat) (st : List UInt8) (a' : Option Addr) (n' c' : Nat) (fo : List UInt8) (w : World) (hr : RdB w a n c st) (hr' : RdB w a' n' c' fo) (hn : n ≤ 16777216) (hn' : n' ≤ 16777216) :
    Calls Tryz.prog 47 #[.slice a n c, .slice a' n' c'] w fun e w' => ∃ oa oc, e = .returned (.tuple #[.slice oa (joinOf st fo).length oc, .int .i64 (sOf (joinOf st fo)), .int .i64 (4 * ((joinOf st fo).length : Int))]) ∧
      OwnBB w' w.heap.size oa (joinOf st fo).length oc (joinOf st fo) ∧ Below w.heap.size w w' := by
  have hl := hr.len
  have hl' := hr'.len
  have hst : st.length ≤ 16777216 := by omega
  have hfo : fo.length ≤ 16777216 := by omega
  subst hl
  subst hl'
  refine (callsIn_wide (n := 4)).1 ?_
  refine callsIn_of_wp_marks Tryz.func47 rfl trivial ?_
  simp only [Tryz.ntmps47, List.size_toArray, List.length_cons, List.length_nil, Nat.reduceAdd, Nat.reduceSub, Array.replicate_succ, Array.replicate_zero, List.push_toArray, List.append_toArray, List.nil_append, List.cons_append]
  gi_wp2_with (refine ⟨trivial, ?_⟩; gi_at_call 108; refine (callsIn_wide.2 (tallies_any _ _ ⟨_, _, _, rfl⟩ ⟨_, _, _, rfl⟩ _)).mono ?_; rintro e w' ⟨rfl, rfl⟩)
  have hsz : (((((w.alloc (.cells #[.slice none 0 0] 98)).alloc (.cells #[.int .i64 0] 3)).alloc (.cells #[.int .i64 0] 3)).alloc (.cells #[.slice a st.length c] 41)).alloc (.cells #[.slice a' fo.length c'] 41)).heap.size = w.heap.size + 5 := by simp
  have hbl : Below w.heap.size w (((((w.alloc (.cells #[.slice none 0 0] 98)).alloc (.cells #[.int .i64 0] 3)).alloc (.cells #[.int .i64 0] 3)).alloc (.cells #[.slice a st.length c] 41)).alloc (.cells #[.slice a' fo.length c'] 41)) :=
    (((((Below.refl _ _).alloc (Nat.le_refl _) _).alloc (by simp) _).alloc (by simp; omega) _).alloc (by simp; omega) _).alloc (by simp; omega) _
  have hT : Told w (((((w.alloc (.cells #[.slice none 0 0] 98)).alloc (.cells #[.int .i64 0] 3)).alloc (.cells #[.int .i64 0] 3)).alloc (.cells #[.slice a st.length c] 41)).alloc (.cells #[.slice a' fo.length c'] 41)) [] := by
    exact ⟨none, 0, ((((Box.new w _ _ rfl).alloc _).alloc _).alloc _).alloc _, OwnBB.nil _ _, (((Box.new _ _ _ (by simp)).alloc _).alloc _).alloc _, ((Box.new _ _ _ (by simp)).alloc _).alloc _, hbl, by rw [hsz]; omega⟩
  have hL : Left w (((((w.alloc (.cells #[.slice none 0 0] 98)).alloc (.cells #[.int .i64 0] 3)).alloc (.cells #[.int .i64 0] 3)).alloc (.cells #[.slice a st.length c] 41)).alloc (.cells #[.slice a' fo.length c'] 41)) st fo := by
    exact ⟨a, c, a', c', (Box.new _ _ _ (by simp)).alloc _, hr, Box.new _ _ _ (by simp), hr'⟩
  generalize (((((w.alloc (.cells #[.slice none 0 0] 98)).alloc (.cells #[.int .i64 0] 3)).alloc (.cells #[.int .i64 0] 3)).alloc (.cells #[.slice a st.length c] 41)).alloc (.cells #[.slice a' fo.length c'] 41)) = W5 at *
  refine wp_range_own (n := 3) (σ := YieldSt) (w := W5) (gf := 163) (lb := #[.pointer (some ⟨w.heap.size + 3, 0, none⟩), .pointer (some ⟨w.heap.size + 4, 0, none⟩)]) rfl (enters_of Tryz.func163 (by kernel_rfl) rfl)
    (fun s => #[.slice s.xa s.b.length s.xc]) (fun _ => rfl) (fun s W => AtYield w s W) (fun s W => Told w W (s.d ++ [s.b]) ∧ Left w W s.l1 s.l2) (fun _ _ _ => False) (fun W => Told w W (joinOf st fo)) (fun _ _ => False) ?hA ?hB ?hX ?hD ?hS
    (fun s => { tmps := #[.slice a st.length c, .slice a' fo.length c', undef, undef, .pointer (some ⟨w.heap.size, 0, none⟩), .pointer (some ⟨w.heap.size + 1, 0, none⟩), .pointer (some ⟨w.heap.size + 1 + 1, 0, none⟩), .slice s.xa s.b.length s.xc, .slice a st.length c, .slice a' fo.length c', .func (.func 163) #[] #[.pointer (some ⟨w.heap.size + 3, 0, none⟩), .pointer (some ⟨w.heap.size + 4, 0, none⟩)], .slice s.xa s.b.length s.xc, undef, undef, undef, undef, undef, undef, undef, undef, undef, undef, undef, undef, undef, undef], defers := [] })
    ?assign ?body ?iter ?done ?stop
  case hA =>
    rw [hsz]
    rintro s W o ⟨h1, h2, h3, h4⟩ hlp
    obtain ⟨r, hr⟩ := hlp
    exact ⟨h1.putObj o ⟨r, hr⟩, h2.putObj o, ownsRow_putObj h3 _ hr rfl, h4⟩
  case hB =>
    rw [hsz]
    rintro s W o ⟨h1, h2⟩ hlp
    exact ⟨h1.putObj o hlp, h2.putObj o⟩
  case hX => intro _ _ _ _ h _; exact h.elim
  case hD =>
    rw [hsz]
    intro W o h hlp
    exact h.putObj o hlp
  case hS => intro _ _ _ h _; exact h.elim
  case assign =>
    intro s W K hs hK
    gi_wp2
    exact hK
  case body =>
    rw [hsz]
    rintro s W ⟨⟨oa, oc, t1, t2, t3, t4, t5, t6⟩, hLf, hox, hb1, hb2, hb3⟩ hlp hdp
    have b1 := t1.cell
    have b2 := t3.cell
    have b3 := t4.cell
    have e1 := t1.free
    have e2 := t3.free
    have e3 := t4.free
    have hal := (Below.refl W.heap.size W).alloc (Nat.le_refl _) (Obj.cells #[Value.slice s.xa s.b.length s.xc] 41)
    have t2' := t2.below hal
    have hy' := own_below hox hal
    gi_wp2_with (gi_at_builtin; refine app_bb1In _ rfl _ _ rfl (w.heap.size + 5) _ _ _ s.d rfl t2' W.heap.size _ _ _ s.b rfl (cell_of_one (heap_alloc_new W _)) hy' (by omega) (by simp; omega) ?_; intro a5 c5 w5 ho5 hg5; refine Hid.out ?_)
    refine Lib.hid ?_
    have hW5 : Same (fun k => w.heap.size + 5 ≤ k) W w5 := (Same.of_below hal).trans (Same.of_grown hg5 (fun k hk => (t2.lt k hk).1))
    have hko : KeepsOthers W w5 := (KeepsOthers.alloc W _).trans (KeepsOthers.of_grownBy hg5 t2'.cells)
    have u1 := t1.same hW5 (by omega)
    have u2 := t3.same hW5 (by omega)
    have u3 := t4.same hW5 (by omega)
    have b1 := u1.cell
    have b2 := u2.cell
    have b3 := u3.cell
    have e1 := u1.free
    have e2 := u2.free
    have e3 := u3.free
    have hst := Told.step t1 t3 t4 t5 t6 hW5 ho5
    have hlf := hLf.step3 hW5 (.slice a5 (s.d.length + 1) c5) (.int .i64 ((sOf s.d : Int) + ((s.b.length : Int) + 2))) (.int .i64 (4 * (s.d.length : Int) + 4))
    clear hal t2' hy' hg5 ho5 u1 u2 u3 hW5 hox t1 t2 t3 t4
    gi_wp2
    exact ⟨((hko.trans (KeepsOthers.setCell _ _ _)).trans (KeepsOthers.setCell _ _ _)).trans (KeepsOthers.setCell _ _ _) |>.from _, hst, hlf⟩
  case iter =>
    intro rec hlr hY
    rw [hsz] at hlr hY ⊢
    have hbb := ((Below.refl W5.heap.size W5).alloc (Nat.le_refl _) (.deferred (some []))).alloc (by simp) (.loop (rec .ready none))
    exact iter_any 3 w st fo hst hfo rec _ (hT.below hbb) (hL.below hbb) hlr hY
  case done =>
    rw [hsz]
    rintro W ⟨oa, oc, t1, t2, t3, t4, t5, t6⟩ hK
    have b1 := t1.cell
    have b2 := t3.cell
    have b3 := t4.cell
    have e1 := t1.free
    have e2 := t3.free
    have e3 := t4.free
    gi_wp2
    gi_region
    have hS : Same (fun k => k = w.heap.size ∨ k = w.heap.size + 1 ∨ k = w.heap.size + 2) W (((W.setCell ⟨w.heap.size, 0, none⟩ (.slice oa (joinOf st fo).length oc)).setCell ⟨w.heap.size + 1, 0, none⟩ (.int .i64 (sOf (joinOf st fo)))).setCell ⟨w.heap.size + 1 + 1, 0, none⟩ (.int .i64 (4 * ((joinOf st fo).length : Int)))).drew := by
      have h := ((Same.setCell (S := fun k => k = w.heap.size ∨ k = w.heap.size + 1 ∨ k = w.heap.size + 2) (W := W) (.slice oa (joinOf st fo).length oc) (.inl rfl)).trans (Same.setCell (.int .i64 (sOf (joinOf st fo))) (.inr (.inl rfl)))).trans (Same.setCell (.int .i64 (4 * ((joinOf st fo).length : Int))) (.inr (.inr rfl)))
      exact ⟨h.os, h.tape, h.output, h.size, h.block⟩
    have r1 : Box (((W.setCell ⟨w.heap.size, 0, none⟩ (.slice oa (joinOf st fo).length oc)).setCell ⟨w.heap.size + 1, 0, none⟩ (.int .i64 (sOf (joinOf st fo)))).setCell ⟨w.heap.size + 1 + 1, 0, none⟩ (.int .i64 (4 * ((joinOf st fo).length : Int)))).drew w.heap.size 98 _ := ((t1.set _).set_other _ (by omega)).set_other _ (by omega)
    have r2 : Box (((W.setCell ⟨w.heap.size, 0, none⟩ (.slice oa (joinOf st fo).length oc)).setCell ⟨w.heap.size + 1, 0, none⟩ (.int .i64 (sOf (joinOf st fo)))).setCell ⟨w.heap.size + 1 + 1, 0, none⟩ (.int .i64 (4 * ((joinOf st fo).length : Int)))).drew (w.heap.size + 1) 3 _ := ((t3.set_other _ (by omega)).set _).set_other _ (by omega)
    have r3 : Box (((W.setCell ⟨w.heap.size, 0, none⟩ (.slice oa (joinOf st fo).length oc)).setCell ⟨w.heap.size + 1, 0, none⟩ (.int .i64 (sOf (joinOf st fo)))).setCell ⟨w.heap.size + 1 + 1, 0, none⟩ (.int .i64 (4 * ((joinOf st fo).length : Int)))).drew (w.heap.size + 1 + 1) 3 _ := ((t4.set_other _ (by omega)).set_other _ (by omega)).set _
    have hK' := (hS.block _ (Array.getElem?_eq_some_iff.1 hK).1 (by omega)).trans hK
    have ho' := t2.same hS (fun b cur fr hb => .inr (by omega)) (fun b cur fr hb => by
      rcases hb with rfl | rfl | rfl
      · rw [show W.heap[w.heap.size]? = _ from t1]; simp
      · rw [show W.heap[w.heap.size + 1]? = _ from t3]; simp
      · rw [show W.heap[w.heap.size + 2]? = _ from t4]; simp)
    have hb' := hS.below t5 t5.size (fun k e => by omega)
    generalize (((W.setCell ⟨w.heap.size, 0, none⟩ (.slice oa (joinOf st fo).length oc)).setCell ⟨w.heap.size + 1, 0, none⟩ (.int .i64 (sOf (joinOf st fo)))).setCell ⟨w.heap.size + 1 + 1, 0, none⟩ (.int .i64 (4 * ((joinOf st fo).length : Int)))).drew = W7 at *
    gi_wp2
    refine ⟨by simp, .inl ⟨_, _, rfl, run_takeDeferred hK', ?_⟩⟩
    have hp : Same (fun k => k = w.heap.size + 5) W7 (W7.putObj (w.heap.size + 5) (.deferred none)) := Same.of_grown (grownBy_putObj' W7 _ _) (fun k e => by cases e; rfl)
    have s1 := (r1.same hp (by omega)).cell
    have s2 := (r2.same hp (by omega)).cell
    have s3 := (r3.same hp (by omega)).cell
    have hb'' := hp.below hb' hb'.size (fun k e => by omega)
    have ho'' := ho'.same hp (fun b cur fr hb => .inl (by subst hb; rw [hK']; simp)) (fun b cur fr hb => by subst hb; rw [hK']; simp)
    generalize W7.putObj (w.heap.size + 5) (.deferred none) = W8 at *
    clear hS r1 r2 r3 hp
    refine ⟨.tuple #[.slice oa (joinOf st fo).length oc, .int .i64 (sOf (joinOf st fo)), .int .i64 (4 * ((joinOf st fo).length : Int))], ?_, oa, oc, rfl, ho''.mono (by omega), hb''⟩
    simp [results, Tryz.results47, go_sem, s1, s2, s3]
  case stop => intro c W h; exact h.elim
end Go.Proofs.YtlnhppgfhkkidaaGreat
namespace Go.Proofs.YtlnhppgfhkkidaaGreat
open Go.RowKit

theorem frozen_of {W : World} {p : Nat} {A : Array Value} {t : TypeId} (h : W.heap[p]? = some (.cells A t (0, 0))) (j : Nat) : W.frozen? ⟨p, j, none⟩ = false := by
  simp [World.frozen?, h]
theorem same_at (w : World) (p o : Nat) (v : Value) : Same (fun k => k = p) w (w.setCell ⟨p, o, none⟩ v) :=
  Same.of_grown (row := some p) ⟨rfl, rfl, rfl, by simp [World.setCell], fun k _ hk => Below.heap_setCell w ⟨p, o, none⟩ _ k (fun e => hk (by rw [e]))⟩ (fun k e => by cases e; rfl)
structure RdP (W : World) (rp : Nat) (l : List UInt8) (a : Option Addr) (n c : Nat) : Prop where
  e : W.heap[rp]? = some (.cells #[.slice a n c] 236 (0, 0))
  r : RdB W a n c l
theorem rd_not {W : World} {rp : Nat} {A : Array Value} {t : TypeId} {sp : Nat × Nat} {a : Option Addr} {n c : Nat} {l : List UInt8} (e : W.heap[rp]? = some (.cells A t sp)) (hA : ∀ v ∈ A, ∀ x, v ≠ byteV x) (hr : RdB W a n c l) (h0 : 0 < n) :
    ∀ b off, a = some ⟨b, off, none⟩ → b ≠ rp := by
  intro b off ha hb
  subst hb
  obtain ⟨b', off', e', hc⟩ := RdA.at hr h0
  rw [ha] at e'
  cases e'
  have hl := hr.1
  have h1 : (l.map byteV)[0]? = some ((l.map byteV)[0]'(by rw [hl]; omega)) := List.getElem?_eq_getElem _
  have h2 := hc 0 _ h1
  simp only [World.cell?, e] at h2
  have h3 := Array.mem_of_getElem? h2
  rw [List.getElem_map] at h3
  exact hA _ h3 _ rfl
theorem rd_same {W W' : World} {a : Option Addr} {n c : Nat} {l : List UInt8} {S : Nat → Prop} (hr : RdB W a n c l) (hs : Same S W W') (hn : 0 < n → ∀ b off, a = some ⟨b, off, none⟩ → ¬ S b) : RdB W' a n c l := by
  by_cases h0 : 0 < n
  · exact RdA.of_cells hr fun b ⟨off, hb⟩ hlt => hs.block b hlt (hn h0 b off hb)
  · have hz : n = 0 := by omega
    subst hz
    obtain ⟨h1, h2, h3, h4⟩ := hr
    have hl : l.map byteV = [] := List.eq_nil_of_length_eq_zero (by omega)
    refine ⟨h1, h2, h3, ?_⟩
    rcases h4 with h | ⟨b, off, h, _⟩
    · exact .inl h
    · exact .inr ⟨b, off, h, fun i x hx => by rw [hl] at hx; simp at hx⟩
theorem RdP.not {W : World} {rp : Nat} {l : List UInt8} {a : Option Addr} {n c : Nat} (h : RdP W rp l a n c) (h0 : 0 < n) : ∀ b off, a = some ⟨b, off, none⟩ → b ≠ rp :=
  rd_not h.e (by intro v hv x; simp at hv; subst hv; intro hh; cases hh) h.r h0
theorem RdP.same {W W' : World} {rp : Nat} {l : List UInt8} {a : Option Addr} {n c : Nat} {S : Nat → Prop} (h : RdP W rp l a n c) (hs : Same S W W') (h1 : ¬ S rp) (h2 : 0 < n → ∀ b off, a = some ⟨b, off, none⟩ → ¬ S b) : RdP W' rp l a n c :=
  ⟨(hs.block _ (Array.getElem?_eq_some_iff.1 h.e).1 h1).trans h.e, rd_same h.r hs h2⟩
end Go.Proofs.YtlnhppgfhkkidaaGreat
namespace Go.Proofs.YtlnhppgfhkkidaaGreat
open Go.RowKit

end Go.Proofs.YtlnhppgfhkkidaaGreat
namespace Go.Proofs.YtlnhppgfhkkidaaGreat
open Go.RowKit
theorem same_imp {W W' : World} {S S' : Nat → Prop} (h : Same S W W') (hi : ∀ k, S k → S' k) : Same S' W W' :=
  ⟨h.os, h.tape, h.output, h.size, fun k hk hs => h.block k hk (fun e => hs (hi k e))⟩
theorem noteA_noByte (m : NoteV) (sa : Option Addr) (sc : Nat) : ∀ v ∈ noteA m sa sc, ∀ x, v ≠ byteV x := by
  intro v hv x
  simp only [noteA, NoteV.cells, List.mem_toArray, List.mem_cons, List.not_mem_nil, or_false] at hv
  rcases hv with rfl | rfl | rfl | rfl | rfl | rfl | rfl | rfl | rfl | rfl | rfl | rfl | rfl | rfl | rfl | rfl | rfl | rfl | rfl <;> (intro h; cases h)
structure NInv (wf W : World) (rp nb B : Nat) (m : NoteV) (sa : Option Addr) (sc : Nat) (t : List UInt8) (a : Option Addr) (n c : Nat) : Prop where
  e : W.heap[nb]? = some (.cells (noteA m sa sc) 47 (0, 0))
  r : RdP W rp t a n c
  s : Same (fun k => k = rp ∨ k = nb ∨ B ≤ k) wf W
  o : RdB wf a n c t
section
variable {wf W W' : World} {rp nb B : Nat} {m : NoteV} {sa : Option Addr} {sc : Nat} {t : List UInt8} {a : Option Addr} {n c : Nat}
theorem NInv.set (h : NInv wf W rp nb B m sa sc t a n c) (j : Nat) (v : Value) {m' : NoteV} {sa' : Option Addr} {sc' : Nat} (hv : (noteA m sa sc).setIfInBounds j v = noteA m' sa' sc') (hne : ¬ rp = nb) : NInv wf (W.setCell ⟨nb, j, none⟩ v) rp nb B m' sa' sc' t a n c :=
  ⟨by rw [← hv]; exact heap_setCell_same W nb j _ _ v h.e, h.r.same (same_at W nb j v) hne (fun h0 b off e => rd_not h.e (noteA_noByte m sa sc) h.r.r h0 b off e), h.s.trans (same_imp (same_at W nb j v) fun k e => .inr (.inl e)), h.o⟩
theorem NInv.below (h : NInv wf W rp nb B m sa sc t a n c) (hb : Below W.heap.size W W') : NInv wf W' rp nb B m sa sc t a n c :=
  ⟨(hb.block _ (Array.getElem?_eq_some_iff.1 h.e).1).trans h.e, h.r.same (S := fun _ => False) (Same.of_below hb) id (fun _ _ _ _ => id), h.s.trans (Same.of_below hb), h.o⟩
theorem NInv.grown (h : NInv wf W rp nb B m sa sc t a n c) {v : Value} {q k : Nat} {xs : List Value} {e : TypeId} (hg : W.grownBy W' v.ownBlock) (ho : W.ownsRow B e k v q xs) (hB : wf.heap.size = B) (hnb : nb < B) (hrp : rp < B) : NInv wf W' rp nb B m sa sc t a n c := by
  have hlt := fun b hb => (ho.lt b hb).1
  have hs : Same (fun k => v.ownBlock = some k) W W' := Same.of_grown hg (fun k e => e)
  have h1 : ¬ v.ownBlock = some nb := fun e => by have := hlt _ e; omega
  have h2 : ¬ v.ownBlock = some rp := fun e => by have := hlt _ e; omega
  refine ⟨(hs.block _ (Array.getElem?_eq_some_iff.1 h.e).1 h1).trans h.e, h.r.same hs h2 (fun h0 b off e hb => ?_), h.s.trans (same_imp hs fun k e => .inr (.inr (hlt k e))), h.o⟩
  have h3 := rd_lt h.o h0 (by omega) b off e
  have h4 := hlt b hb
  omega
end
theorem infoInt : (Tryz.prog.info? 3).map (fun i => (i.zero, i.size, i.bytes)) = some (some (.int .i64 0), 1, 8) := by kernel_rfl
section
attribute [local go_sem] noteA_0 noteA_1 noteA_2 noteA_3 noteA_4 noteA_5 noteA_6 noteA_7 noteA_8 noteA_9 noteA_10 noteA_11 noteA_12 noteA_13 noteA_14 noteA_15 noteA_16 noteA_17 noteA_18
end
end Go.Proofs.YtlnhppgfhkkidaaGreat
namespace Go.Proofs.YtlnhppgfhkkidaaGreat
open Go.RowKit

structure RdQ (W : World) (rp : Nat) (l : List UInt8) (a : Option Addr) (n c : Nat) (at_ : Nat) (bad : Bool) : Prop where
  e : W.heap[rp]? = some (.cells #[.slice a n c, .int .i64 at_, .bool bad] 205 (0, 0))
  r : RdB W a n c l
  le : at_ ≤ l.length
section
variable {W W' : World} {rp : Nat} {l : List UInt8} {a : Option Addr} {n c at_ : Nat} {bad : Bool}
theorem RdQ.not (h : RdQ W rp l a n c at_ bad) (h0 : 0 < n) : ∀ b off, a = some ⟨b, off, none⟩ → b ≠ rp :=
  rd_not h.e (by intro v hv x; simp at hv; rcases hv with rfl | rfl | rfl <;> (intro hh; cases hh)) h.r h0
theorem RdQ.same {S : Nat → Prop} (h : RdQ W rp l a n c at_ bad) (hs : Same S W W') (h1 : ¬ S rp) (h2 : 0 < n → ∀ b off, a = some ⟨b, off, none⟩ → ¬ S b) : RdQ W' rp l a n c at_ bad :=
  ⟨(hs.block _ (Array.getElem?_eq_some_iff.1 h.e).1 h1).trans h.e, rd_same h.r hs h2, h.le⟩
theorem RdQ.setAt (h : RdQ W rp l a n c at_ bad) (k : Nat) (hk : k ≤ l.length) : RdQ (W.setCell ⟨rp, 1, none⟩ (.int .i64 k)) rp l a n c k bad :=
  ⟨heap_setCell_same W rp 1 _ _ (.int .i64 k) h.e, rd_same h.r (same_at W rp 1 _) (fun h0 b off e => h.not h0 b off e), hk⟩
theorem RdQ.c0 (h : RdQ W rp l a n c at_ bad) : W.cell? ⟨rp, 0, none⟩ = some (.slice a n c) := cell_of h.e 0 _ rfl
theorem RdQ.c1 (h : RdQ W rp l a n c at_ bad) : W.cell? ⟨rp, 1, none⟩ = some (.int .i64 at_) := cell_of h.e 1 _ rfl
theorem RdQ.c2 (h : RdQ W rp l a n c at_ bad) : W.cell? ⟨rp, 2, none⟩ = some (.bool bad) := cell_of h.e 2 _ rfl
theorem RdQ.f (h : RdQ W rp l a n c at_ bad) (j : Nat) : W.frozen? ⟨rp, j, none⟩ = false := frozen_of h.e j
theorem RdQ.len (h : RdQ W rp l a n c at_ bad) : l.length = n := by have := h.r.1; simpa using this
theorem Same.refl (S : Nat → Prop) (W : World) : Same S W W := ⟨rfl, rfl, rfl, Nat.le_refl _, fun _ _ _ => rfl⟩
end
end Go.Proofs.YtlnhppgfhkkidaaGreat
namespace Go.Proofs.YtlnhppgfhkkidaaGreat
open Go.RowKit

theorem app_ints (w : World) {ops : Array Oper} {rest : List Oper} {o : Oper} {a : Act} {Q : Exit → Act → World → Prop} (hgd : o.guard = none) (s x : Operand)
    (ho : o.op = .call { callee := .builtin .append, args := #[s, x], argTypes := #[37, 37] }) (base : Nat)
    (sa : Option Addr) (sn sc : Nat) (xs : List Int) (hs : a.eval s = .slice sa sn sc) (hown : w.ownsRow base 3 1 (.slice sa sn sc) sn (xs.map intV))
    (xa : Option Addr) (m xc : Nat) (ys : List Int) (hx : a.eval x = .slice xa m xc) (hrd : RdI w xa m xc ys) (hbytes : (sn + m) * 8 ≤ 140737488355328) (hbase : base ≤ w.heap.size)
    (h : ∀ a' c' w', w'.ownsRow base 3 1 (.slice a' (sn + m) c') (sn + m) ((xs ++ ys).map intV) → w.grownBy w' (Value.ownBlock (.slice sa sn sc)) → wpList Tryz.prog ops Q rest (a.put o.dst (.slice a' (sn + m) c')) w') :
    wpList Tryz.prog ops Q (o :: rest) a w := by
  obtain ⟨i, hi, hz0, hz1, hz2⟩ := info_parts infoInt
  exact wpList_append_rd w hgd s x 37 ho base 3 i (.int .i64 0) 1 8 Tryz.underlying37 hi hz0 hz1 hz2 rfl (by decide) sa sn sc _ hs hown xa m xc _ hx hrd (intV_one _) (by unfold maxLen; omega) hbytes hbase
    (fun a' c' w' h1 h2 => h a' c' w' (by rw [List.map_append]; exact h1) h2)
end Go.Proofs.YtlnhppgfhkkidaaGreat
namespace Go.Proofs.YtlnhppgfhkkidaaGreat
open Go.RowKit

theorem run_append_loc {P : Program} (w : World) (base : Nat) (t ty e : TypeId) (i : TypeInfo) (z : Value) (size bytes : Nat) (ht : P.underlying t = some (.slice e)) (hi : P.info? e = some i) (hz : i.zero = some z)
    (hsize : i.size = size) (hby : i.bytes = bytes)
    (sa : Option Addr) (sn sc : Nat) (xs : List Value) (hown : w.ownsRow base e size (.slice sa sn sc) sn xs)
    (xa : Option Addr) (m xc : Nat) (ys : List Value) (hrd : RdA w size xa m xc ys) (h1 : ∀ u ∈ ys, u.oneCell' = true)
    (h63 : sn + m ≤ maxLen) (hbytes : (sn + m) * bytes ≤ 140737488355328) (v : Value) (w' : World) (hr : (Builtin.append_ #[t, t] ty #[.slice sa sn sc, .slice xa m xc]).run P w = .ok v w') :
    (∃ n' c', v = .slice sa n' c') ∨ ∃ n' c', v = .slice (some ⟨w.heap.size, 0, none⟩) n' c' := by
  subst hsize
  subst hby
  have hsmall : ((sn + m : Nat) : Int) ≤ 9223372036854775807 := by simp only [maxLen] at h63; omega
  have hkind : (xa = none ∧ m = 0 ∧ xc = 0) ∨ ∃ ad, xa = some ad ∧ ∀ j u, ys[j]? = some u → w.cell? (ad.add j) = some u := by
    rcases hrd.2.2.2 with rfl | ⟨b, off, rfl, h4⟩
    · have hm : m = 0 := by have := hrd.2.1; omega
      subst hm
      have hy : ys = [] := List.eq_nil_of_length_eq_zero (by simpa using hrd.1)
      cases xa with
      | none => exact .inl ⟨rfl, rfl, rfl⟩
      | some ad => exact .inr ⟨ad, rfl, fun j u hu => by rw [hy] at hu; simp at hu⟩
    · exact .inr ⟨_, rfl, fun j u hu => by rw [Addr.add_lit]; exact h4 j u hu⟩
  rcases hkind with ⟨rfl, rfl, rfl⟩ | ⟨ad, rfl, hnews⟩
  · rw [run_append_owned_none (P := P) (w := w) base t ty e i i.size ht hi _ sn xs hown] at hr
    cases hr
    exact .inl ⟨_, _, rfl⟩
  · rcases hown.2 with ⟨h2, rfl⟩ | ⟨g, cap, cur, h2, hbg, hg, hnc, hcm, hcs, htake⟩
    · simp only [Value.slice.injEq] at h2
      obtain ⟨rfl, _, rfl⟩ := h2
      by_cases hm : m = 0
      · subst hm
        have hy : ys = [] := List.eq_nil_of_length_eq_zero (by simpa using hrd.1)
        have hr' : (Builtin.append_ #[t, t] ty #[.slice none 0 0, .slice (some ad) 0 xc]).run P w = .ok (.slice none 0 0) w := by
          simp [Builtin.append_, run_underlying ht, sizeOf, typeInfo, hi, Builtin.lenOf, Builtin.firstCells, loadCells, loadCellsFrom]
        rw [hr'] at hr
        cases hr
        exact .inl ⟨_, _, rfl⟩
      · rw [run_append_nil (P := P) w t ty e i z ht hi hz ad m xc ys hrd.1 hnews (by omega) (by omega) (by have hb := hbytes; simp only [Nat.zero_add] at hb; omega)] at hr
        cases hr
        exact .inr ⟨_, _, rfl⟩
    · simp only [Value.slice.injEq] at h2
      obtain ⟨rfl, _, rfl⟩ := h2
      by_cases hroom : sn + m ≤ sc
      · have hfit : sn * i.size + ys.length ≤ cur.size := by rw [hrd.1, hcs, ← Nat.add_mul]; exact Nat.mul_le_mul_right _ hroom
        rw [run_append_room (P := P) w t ty e i ht hi g sn sc cur hg ad m xc ys hrd.1 hnews h1 hroom hfit] at hr
        cases hr
        exact .inl ⟨_, _, rfl⟩
      · have holds : ∀ j u, xs[j]? = some u → w.cell? ((⟨g, 0, none⟩ : Addr).add j) = some u := hown.cells (g := g) rfl
        rw [run_append_grow (P := P) w t ty e i z ht hi hz ⟨g, 0, none⟩ sn sc xs hown.1 holds ad m xc ys hrd.1 hnews (by omega) hsmall (growslice_fits (by omega) hbytes)] at hr
        cases hr
        exact .inr ⟨_, _, rfl⟩

theorem app_bytes_at (w : World) {ops : Array Oper} {rest : List Oper} {o : Oper} {a : Act} {Q : Exit → Act → World → Prop} (hgd : o.guard = none) (s x : Operand)
    (ho : o.op = .call { callee := .builtin .append, args := #[s, x], argTypes := #[41, 41] }) (base : Nat)
    (sa : Option Addr) (sn sc : Nat) (xs : List UInt8) (hs : a.eval s = .slice sa sn sc) (hown : w.ownsRow base 5 1 (.slice sa sn sc) sn (xs.map byteV))
    (xa : Option Addr) (m xc : Nat) (ys : List UInt8) (hx : a.eval x = .slice xa m xc) (hrd : RdB w xa m xc ys) (hbytes : sn + m ≤ 140737488355328) (hbase : base ≤ w.heap.size)
    (h : ∀ a' c' w', (a' = sa ∨ a' = some ⟨w.heap.size, 0, none⟩) → w'.ownsRow base 5 1 (.slice a' (sn + m) c') (sn + m) ((xs ++ ys).map byteV) → w.grownBy w' (Value.ownBlock (.slice sa sn sc)) → wpList Tryz.prog ops Q rest (a.put o.dst (.slice a' (sn + m) c')) w') :
    wpList Tryz.prog ops Q (o :: rest) a w := by
  obtain ⟨i, hi, hz0, hz1, hz2⟩ := info_parts infoByte
  refine wpList_plain hgd fun K hK => ?_
  obtain ⟨a', c', w', hr, h2, h3⟩ := run_append_rd (P := Tryz.prog) w base 41 o.type 5 i (.int .u8 0) 1 1 Tryz.underlying41 hi hz0 hz1 hz2 rfl (by decide) sa sn sc _ hown xa m xc _ hrd (byteV_one _) (by unfold maxLen; omega) (by omega) hbase
  have hloc := run_append_loc (P := Tryz.prog) w base 41 o.type 5 i (.int .u8 0) 1 1 Tryz.underlying41 hi hz0 hz1 hz2 sa sn sc _ hown xa m xc _ hrd (byteV_one _) (by unfold maxLen; omega) (by omega) _ _ hr
  have hloc' : a' = sa ∨ a' = some ⟨w.heap.size, 0, none⟩ := by
    rcases hloc with ⟨n', c'', h⟩ | ⟨n', c'', h⟩
    · simp only [Value.slice.injEq] at h; exact .inl h.1
    · simp only [Value.slice.injEq] at h; exact .inr h.1
  unfold Oper.wp
  simp [execOp, ho, resolve, invoke, builtin, hs, hx, hr, Result.andThen]
  exact hK _ _ (h a' c' w' hloc' (by rw [List.map_append]; exact h2) h3)

structure JAt (w : World) (p o : Nat) (a : Option Addr) (n c : Nat) (d : Nat) : Prop where
  c0 : w.cell? ⟨p, o, none⟩ = some (.slice a n c)
  c1 : w.cell? ⟨p, o + 1, none⟩ = some (.int .i64 d)
  f0 : w.frozen? ⟨p, o, none⟩ = false
  f1 : w.frozen? ⟨p, o + 1, none⟩ = false

theorem jsync_any (w : World) (p o : Nat) (a : Option Addr) (n c d : Nat) (h : JAt w p o a n c d) :
    Calls Tryz.prog 128 #[.pointer (some ⟨p, o, none⟩)] w fun e w' => e = .returned (.tuple #[]) ∧ w.setCell ⟨p, o + 1, none⟩ (.int .i64 n) = w' := by
  obtain ⟨c0, c1, f0, f1⟩ := h
  go_enter Tryz.func128, Tryz.ntmps128
  go_wp2
  go_end0
  exact ⟨rfl, rfl⟩

theorem jpending_any (w : World) (p o : Nat) (a : Option Addr) (n c d : Nat) (h : JAt w p o a n c d) (hd : d ≤ n) (hn : n ≤ 9223372036854775807) :
    Calls Tryz.prog 110 #[.pointer (some ⟨p, o, none⟩)] w fun e w' => e = .returned (.int .i64 ((n : Int) - d)) ∧ ∃ q, w' = w.drewN q := by
  obtain ⟨c0, c1, f0, f1⟩ := h
  go_enter Tryz.func110, Tryz.ntmps110
  go_wp2
  go_quiet (fail)
  go_wp2
  go_ret
  exact ⟨rfl, _, rfl⟩

theorem jkeep_any (w : World) (p o : Nat) (a : Option Addr) (n c d : Nat) (l : List UInt8) (h : JAt w p o a n c d) (hr : RdB w a n c l) (m : Nat) (hm : d + m ≤ n) (hn : n ≤ 16777216) :
    Calls Tryz.prog 111 #[.pointer (some ⟨p, o, none⟩), .int .i64 m] w fun e w' => e = .returned (.tuple #[]) ∧ ∃ a' c' w1, w1.ownsRow w.heap.size 5 1 (.slice a' (d + m) c') (d + m) ((l.take (d + m)).map byteV) ∧ Below w.heap.size w w1 ∧ w' = w1.setCell ⟨p, o, none⟩ (.slice a' (d + m) c') := by
  obtain ⟨c0, c1, f0, f1⟩ := h
  obtain ⟨ka, hcut, hrk⟩ := cut_eq hr 0 (d + m) none (some (.int .i64 ((d : Int) + m))) (.inl ⟨rfl, rfl⟩) (.inr ⟨_, by go_num⟩) (Nat.zero_le _) hm
  rw [Nat.sub_zero, Nat.sub_zero, List.drop_zero] at hrk
  have hw : IntKind.i64.wrap ((d : Int) + m) = (d : Int) + m := by rw [IntKind.wrap_i64]; omega
  go_enter Tryz.func111, Tryz.ntmps111
  go_wp2
  have hlt : p < w.heap.size := World.block_lt_of_cell? w ⟨p, o, none⟩ c0
  go_region_with (go_at_call 102; refine (clone_any ka (d + m) c (l.take (d + m)) _ (by omega) (hrk.below (Below.refl _ _).drew)).mono ?_; rintro e w1 ⟨a', c', rfl, ho, hb⟩; have d0 := (hb.cell (p := ⟨p, o, none⟩) hlt).trans c0; have e0 := (hb.frozen (p := ⟨p, o, none⟩) hlt).trans f0)
  all_goals
    go_end0
    exact ⟨rfl, a', c', w1, ho, (Below.refl _ _).drew.trans hb, rfl⟩

def Stk (w : World) (p : Nat) (F : Nat → Prop) (sb fb : List UInt8) (sd fd : Nat) : Prop :=
  ∃ sa sc fa fc, w.heap[p]? = some (.cells #[.slice sa sb.length sc, .int .i64 sd, .slice fa fb.length fc, .int .i64 fd] 168 (0, 0)) ∧
    w.ownsRow 0 5 1 (.slice sa sb.length sc) sb.length (sb.map byteV) ∧ w.ownsRow 0 5 1 (.slice fa fb.length fc) fb.length (fb.map byteV) ∧
    (∀ k, Value.ownBlock (.slice sa sb.length sc) = some k → Value.ownBlock (.slice fa fb.length fc) ≠ some k) ∧
    (∀ k, F k ↔ (k = p ∨ Value.ownBlock (.slice sa sb.length sc) = some k ∨ Value.ownBlock (.slice fa fb.length fc) = some k)) ∧
    sd ≤ sb.length ∧ fd ≤ fb.length ∧ sb.length ≤ 16777216 ∧ fb.length ≤ 16777216

theorem Stk.lt {w : World} {p : Nat} {F : Nat → Prop} {sb fb : List UInt8} {sd fd : Nat} (h : Stk w p F sb fb sd fd) : ∀ k, F k → k < w.heap.size := by
  obtain ⟨sa, sc, fa, fc, h1, h2, h3, h4, h5, h6⟩ := h
  intro k hk
  rcases (h5 k).1 hk with rfl | h | h
  · exact (Array.getElem?_eq_some_iff.1 h1).1
  · exact (h2.lt k h).2
  · exact (h3.lt k h).2

theorem own_keep {S : Nat → Prop} {W W' : World} {base : Nat} {e : TypeId} {k : Nat} {v : Value} {n : Nat} {xs : List Value} (h : W.ownsRow base e k v n xs) (hs : Same S W W')
    (hd : ∀ b, v.ownBlock = some b → ¬ S b) : W'.ownsRow base e k v n xs := by
  refine ⟨h.1, ?_⟩
  rcases h.2 with h | ⟨g, cap, cur, rfl, hg, hgg, hr⟩
  · exact .inl h
  · exact .inr ⟨g, cap, cur, rfl, hg, (hs.block g (Array.getElem?_eq_some_iff.1 hgg).1 (hd g rfl)).trans hgg, hr⟩

theorem Stk.same {w w' : World} {p : Nat} {F S : Nat → Prop} {sb fb : List UInt8} {sd fd : Nat} (h : Stk w p F sb fb sd fd) (hs : Same S w w') (hd : ∀ k, S k → ¬ F k) : Stk w' p F sb fb sd fd := by
  obtain ⟨sa, sc, fa, fc, h1, h2, h3, h4, h5, h6⟩ := h
  refine ⟨sa, sc, fa, fc, ?_, own_keep h2 hs (fun b hb hS => hd b hS ((h5 b).2 (.inr (.inl hb)))), own_keep h3 hs (fun b hb hS => hd b hS ((h5 b).2 (.inr (.inr hb)))), h4, h5, h6⟩
  exact (hs.block p (Array.getElem?_eq_some_iff.1 h1).1 (fun hS => hd p hS ((h5 p).2 (.inl rfl)))).trans h1

theorem newStick_any (w : World) : Calls Tryz.prog 48 #[] w fun e w' => e = .returned (.pointer (some ⟨w.heap.size, 0, none⟩)) ∧ Stk w' w.heap.size (fun k => k = w.heap.size) [] [] 0 0 ∧ Below w.heap.size w w' := by
  go_enter Tryz.func48, Tryz.ntmps48
  go_wp2
  go_ret
  exact ⟨rfl, ⟨none, 0, none, 0, heap_alloc_new w _, World.ownsRow_nil _ _ _ _, World.ownsRow_nil _ _ _ _, fun k h => by simp [Value.ownBlock] at h, fun k => by simp [Value.ownBlock], Nat.le_refl _, Nat.le_refl _, Nat.zero_le _, Nat.zero_le _⟩, (Below.refl _ _).alloc (Nat.le_refl _) _⟩

theorem own_ne {w : World} {base : Nat} {e e' : TypeId} {k : Nat} {v : Value} {n : Nat} {xs : List Value} (h : w.ownsRow base e k v n xs) {p : Nat} {cur : Array Value} {fr : Nat × Nat} (hp : w.heap[p]? = some (.cells cur e' fr)) (hne : e ≠ e') : Value.ownBlock v ≠ some p := by
  intro hk
  rcases h.2 with ⟨rfl, _⟩ | ⟨g, cap, cu, rfl, _, hg, _⟩
  · simp [Value.ownBlock] at hk
  · simp only [Value.ownBlock, Option.some.injEq] at hk
    subst hk
    rw [hg] at hp
    simp only [Option.some.injEq, Obj.cells.injEq] at hp
    exact hne hp.2.1

theorem ownBlock_loc {sa a' : Option Addr} {w : World} {n c n' c' : Nat} (h : a' = sa ∨ a' = some ⟨w.heap.size, 0, none⟩) {k : Nat} (hk : Value.ownBlock (.slice a' n' c') = some k) : Value.ownBlock (.slice sa n c) = some k ∨ k = w.heap.size := by
  rcases h with rfl | rfl
  · left
    cases a' <;> simp_all [Value.ownBlock]
  · right
    simp [Value.ownBlock] at hk
    exact hk.symm

set_option maxHeartbeats 400000 in
theorem put_any (w : World) (p : Nat) (F : Nat → Prop) (sb fb : List UInt8) (sd fd : Nat) (a : Option Addr) (n c : Nat) (l : List UInt8) (h : Stk w p F sb fb sd fd) (hr : RdB w a n c l) (hn : n < 65536)
    (hs : sb.length + n + 2 ≤ 16777216) (hf : fb.length + 4 ≤ 16777216) :
    Calls Tryz.prog 109 #[.pointer (some ⟨p, 0, none⟩), .slice a n c] w fun e w' => e = .returned (.tuple #[]) ∧ ∃ F', Stk w' p F' (sb ++ stockOf l) (fb ++ foilOf l) sd fd ∧ Same F w w' ∧ (∀ k, F' k → F k ∨ w.heap.size ≤ k) := by
  have hFlt := h.lt
  go_enter Tryz.func109, Tryz.ntmps109
  go_wp2_with fail
  refine (halves_any _ _ _ l _ hr hn).mono ?_
  rintro e w1 ⟨a1, c1, a2, c2, rfl, hw1, hw2, hb1⟩
  have h1 := h.same (S := fun _ => False) (Same.of_below hb1) (fun _ e => e.elim)
  obtain ⟨sa, sc, fa, fc, g1, g2, g3, g4, g5, g6, g7, g8, g9⟩ := h1
  have e1 : w1.cell? ⟨p, 0, none⟩ = some (.slice sa sb.length sc) := by simp [World.cell?, g1]
  have hlen := (stockOf_len l)
  have hll := hr.len
  have HLS := Lib.hid hlen; clear hlen
  have HLL := Lib.hid hll; clear hll
  have HLF := Lib.hid (foilOf_len l)
  have G4 := Lib.hid g4; clear g4
  have G5 := Lib.hid g5; clear g5
  have hFlt' := Lib.hid hFlt; clear hFlt
  have hws := RdB.of_own hw1
  go_wp2_with (at_builtin; refine app_bytes_at _ rfl _ _ rfl 0 _ _ _ sb rfl g2 _ _ _ (stockOf l) rfl hws (by rw [HLS.out, HLL.out]; omega) (Nat.zero_le _) ?_; intro sa' sc' w2 hloc ho2 hg2; refine Hid.out ?_)
  refine Lib.hid ?_
  have n1 := own_ne g2 g1 (by decide)
  have n2 := own_ne g3 g1 (by decide)
  have hp1 : p < w1.heap.size := (Array.getElem?_eq_some_iff.1 g1).1
  have p2 : w2.heap[p]? = _ := (hg2.block p hp1 (fun e => n1 e.symm)).trans g1
  have g3' : w2.ownsRow 0 5 1 (.slice fa fb.length fc) fb.length (fb.map byteV) := g3.kept hg2 (by
    cases hv : Value.ownBlock (.slice fa fb.length fc) with
    | none => exact .inl rfl
    | some k => exact .inr (fun e => G4.out k e.symm hv))
  have hw2' := hw2.kept hg2 (by
    cases hv : Value.ownBlock (.slice a2 (foilOf l).length c2) with
    | none => exact .inl rfl
    | some k => exact .inr (fun e => by
        have := (hw2.lt k hv).1
        have := hFlt'.out k ((G5.out k).2 (.inr (.inl e.symm)))
        omega))
  have hz2 := hg2.size
  have n3 := own_ne ho2 p2 (by decide)
  have e2 : w2.cell? ⟨p, 0, none⟩ = some (.slice sa sb.length sc) := by simp [World.cell?, p2]
  have e3 : w2.frozen? ⟨p, 0, none⟩ = false := by simp [World.frozen?, p2]
  have p3 := heap_setCell_same w2 p 0 _ 168 (.slice sa' (sb.length + (stockOf l).length) sc') p2
  simp only [List.setIfInBounds_toArray, List.set_cons_zero] at p3
  have s3 : Same (fun k => k = p) w2 (w2.setCell ⟨p, 0, none⟩ (.slice sa' (sb.length + (stockOf l).length) sc')) := Same.setCell _ rfl
  have ho3 := own_keep ho2 s3 (fun b hb e => n3 (by rw [hb, e]))
  have n2' := own_ne g3' p2 (by decide)
  have g33 := own_keep g3' s3 (fun b hb e => n2' (by rw [hb, e]))
  have n4 := own_ne hw2' p2 (by decide)
  have hw3 := RdB.of_own (own_keep hw2' s3 (fun b hb e => n4 (by rw [hb, e])))
  have hz3 := s3.size
  have e4 : w2.cell? ⟨p, 2, none⟩ = some (.slice fa fb.length fc) := by simp [World.cell?, p2]
  have G6 := Lib.hid p2; clear p2
  have G7 := Lib.hid p3; clear p3
  clear e1 g1 g2 g3 g3' hw1 hw2 hw2' hws
  go_wp2_with (at_builtin; refine app_bytes_at _ rfl _ _ rfl 0 _ _ _ fb rfl g33 _ _ _ (foilOf l) rfl hw3 (by rw [HLF.out]; omega) (Nat.zero_le _) ?_; intro fa' fc' w4 hloc4 ho4 hg4; refine Hid.out ?_)
  refine Lib.hid ?_
  generalize hw3e : w2.setCell ⟨p, 0, none⟩ (.slice sa' (sb.length + (stockOf l).length) sc') = w3 at *
  have HW3 := Lib.hid hw3e; clear hw3e e2 e3 e4
  have p3 := G7.out
  have m2 := own_ne g33 p3 (by decide)
  have hp3 : p < w3.heap.size := (Array.getElem?_eq_some_iff.1 p3).1
  have p4 : w4.heap[p]? = _ := (hg4.block p hp3 (fun e => m2 e.symm)).trans p3
  have e2 : w4.cell? ⟨p, 2, none⟩ = some (.slice fa fb.length fc) := by simp [World.cell?, p4]
  have e3 : w4.frozen? ⟨p, 2, none⟩ = false := by simp [World.frozen?, p4]
  have P4 := Lib.hid p4; clear p4 p3
  go_wp2_with fail
  have p5 := heap_setCell_same w4 p 2 _ 168 (.slice fa' (fb.length + (foilOf l).length) fc') P4.out
  have s5 : Same (fun k => k = p) w4 (w4.setCell ⟨p, 2, none⟩ (.slice fa' (fb.length + (foilOf l).length) fc')) :=
    Same.of_grown (row := some p) ⟨rfl, rfl, rfl, by simp [World.setCell], fun k _ hk => Below.heap_setCell w4 ⟨p, 2, none⟩ _ k (fun e => hk (by rw [e]))⟩ (fun k e => by cases e; rfl)
  generalize w4.setCell ⟨p, 2, none⟩ (.slice fa' (fb.length + (foilOf l).length) fc') = w5 at *
  have hz1 := hb1.size
  have hz4 := hg4.size
  have hfa : ∀ k, Value.ownBlock (.slice fa fb.length fc) = some k → k < w.heap.size := fun k hk => hFlt'.out k ((G5.out k).2 (.inr (.inr hk)))
  have hsa : ∀ k, Value.ownBlock (.slice sa sb.length sc) = some k → k < w.heap.size := fun k hk => hFlt'.out k ((G5.out k).2 (.inr (.inl hk)))
  have ho34 := ho3.kept hg4 (by
    cases hv : Value.ownBlock (.slice sa' (sb.length + (stockOf l).length) sc') with
    | none => exact .inl rfl
    | some k =>
      refine .inr (fun e => ?_)
      rcases ownBlock_loc (n := sb.length) (c := sc) hloc hv with h1 | h1
      · exact G4.out k h1 e.symm
      · have := hfa k e.symm
        omega)
  have ho35 := own_keep ho34 s5 (fun b hb e => n3 (by rw [hb, e]))
  have n5 := own_ne ho4 P4.out (by decide)
  have ho45 := own_keep ho4 s5 (fun b hb e => n5 (by rw [hb, e]))
  have hAll : Same F w w5 :=
    ((((Same.of_below hb1).trans (Same.of_grown hg2 (fun k hk => (G5.out k).2 (.inr (.inl hk))))).trans ⟨s3.os, s3.tape, s3.output, s3.size, fun k hk hF => s3.block k hk (fun e => hF ((G5.out k).2 (.inl e)))⟩).trans (Same.of_grown hg4 (fun k hk => (G5.out k).2 (.inr (.inr hk))))).trans ⟨s5.os, s5.tape, s5.output, s5.size, fun k hk hF => s5.block k hk (fun e => hF ((G5.out k).2 (.inl e)))⟩
  have e1 : (sb ++ stockOf l).length = sb.length + (stockOf l).length := List.length_append
  have e2 : (fb ++ foilOf l).length = fb.length + (foilOf l).length := List.length_append
  go_end0
  refine ⟨rfl, fun k => k = p ∨ Value.ownBlock (.slice sa' (sb ++ stockOf l).length sc') = some k ∨ Value.ownBlock (.slice fa' (fb ++ foilOf l).length fc') = some k, ⟨sa', sc', fa', fc', ?_, ?_, ?_, ?_, fun k => Iff.rfl, ?_, ?_, ?_, ?_⟩, hAll, ?_⟩
  · rw [e1, e2, p5]; rfl
  · rw [e1]; exact ho35
  · rw [e2]; exact ho45
  · intro k hk hk'
    rw [e1] at hk
    rw [e2] at hk'
    rcases ownBlock_loc (n := sb.length) (c := sc) hloc hk with h1 | h1 <;> rcases ownBlock_loc (n := fb.length) (c := fc) hloc4 hk' with h2 | h2
    · exact G4.out k h1 h2
    · have := hsa k h1; omega
    · have := hfa k h2; omega
    · have := (ho2.lt k hk).2; omega
  · rw [e1]; omega
  · rw [e2]; omega
  · rw [e1, HLS.out, HLL.out]; omega
  · rw [e2, HLF.out]; omega
  · rintro k (rfl | hk | hk)
    · exact .inl ((G5.out _).2 (.inl rfl))
    · rcases ownBlock_loc (n := sb.length) (c := sc) hloc hk with h1 | h1
      · exact .inl ((G5.out k).2 (.inr (.inl h1)))
      · exact .inr (by omega)
    · rcases ownBlock_loc (n := fb.length) (c := fc) hloc4 hk with h1 | h1
      · exact .inl ((G5.out k).2 (.inr (.inr h1)))
      · exact .inr (by omega)
end Go.Proofs.YtlnhppgfhkkidaaGreat
namespace Go.Proofs.YtlnhppgfhkkidaaGreat
open Go.RowKit

theorem write_yes (w : World) (p : Nat) (F : Nat → Prop) (sb fb : List UInt8) (sd fd : Nat) (a : Option Addr) (n c : Nat) (l : List UInt8) (h : Stk w p F sb fb sd fd) (hr : RdB w a n c l)
    (h1 : n ≤ 8192) (h2 : sb.length + n + 2 ≤ 16777216) (h3 : fb.length + 4 ≤ 16777216) :
    Calls Tryz.prog 49 #[.pointer (some ⟨p, 0, none⟩), .slice a n c] w fun e w' => e = .returned (.int .i64 0) ∧ ∃ F', Stk w' p F' (sb ++ stockOf l) (fb ++ foilOf l) sd fd ∧ Same F w w' ∧ (∀ k, F' k → F k ∨ w.heap.size ≤ k) := by
  have hput := put_any w p F sb fb sd fd a n c l h hr (by omega) h2 h3
  obtain ⟨sa, sc, fa, fc, g1, g2, g3, g4, g5, g6, g7, g8, g9⟩ := h
  have e1 : w.cell? ⟨p, 0, none⟩ = some (.slice sa sb.length sc) := by simp [World.cell?, g1]
  have e2 : w.cell? ⟨p, 2, none⟩ = some (.slice fa fb.length fc) := by simp [World.cell?, g1]
  have q1 : decide ((8192 : Int) < (n : Int)) = false := by simp; omega
  have q2 : decide ((16777216 : Int) < (sb.length : Int) + n + 2) = false := by simp; omega
  have q3 : decide ((16777216 : Int) < (fb.length : Int) + 4) = false := by simp; omega
  clear g1 g2 g3 g4 g5
  have HP := Lib.hid hput; clear hput
  go_enter Tryz.func49, Tryz.ntmps49
  go_wp2_with fail
  refine HP.out.mono ?_
  rintro e w' ⟨rfl, hpost⟩
  go_wp2_with fail
  go_ret
  exact ⟨rfl, hpost⟩

theorem Stk.j0 {w : World} {p : Nat} {F : Nat → Prop} {sb fb : List UInt8} {sd fd : Nat} (h : Stk w p F sb fb sd fd) : ∃ a c, JAt w p 0 a sb.length c sd ∧ w.ownsRow 0 5 1 (.slice a sb.length c) sb.length (sb.map byteV) := by
  obtain ⟨sa, sc, fa, fc, g1, g2, g3, g4, g5, g6, g7, g8, g9⟩ := h
  exact ⟨sa, sc, ⟨by simp [World.cell?, g1], by simp [World.cell?, g1], by simp [World.frozen?, g1], by simp [World.frozen?, g1]⟩, g2⟩
theorem Stk.j2 {w : World} {p : Nat} {F : Nat → Prop} {sb fb : List UInt8} {sd fd : Nat} (h : Stk w p F sb fb sd fd) : ∃ a c, JAt w p 2 a fb.length c fd ∧ w.ownsRow 0 5 1 (.slice a fb.length c) fb.length (fb.map byteV) := by
  obtain ⟨sa, sc, fa, fc, g1, g2, g3, g4, g5, g6, g7, g8, g9⟩ := h
  exact ⟨fa, fc, ⟨by simp [World.cell?, g1], by simp [World.cell?, g1], by simp [World.frozen?, g1], by simp [World.frozen?, g1]⟩, g3⟩
theorem Stk.setDur {w : World} {p : Nat} {F : Nat → Prop} {sb fb : List UInt8} {sd fd : Nat} (h : Stk w p F sb fb sd fd) (d : Nat) :
    (d ≤ sb.length → Stk (w.setCell ⟨p, 1, none⟩ (.int .i64 d)) p F sb fb d fd) ∧ (d ≤ fb.length → Stk (w.setCell ⟨p, 3, none⟩ (.int .i64 d)) p F sb fb sd d) := by
  obtain ⟨sa, sc, fa, fc, g1, g2, g3, g4, g5, g6, g7, g8, g9⟩ := h
  have n1 := own_ne g2 g1 (by decide)
  have n2 := own_ne g3 g1 (by decide)
  have s1 : ∀ o, Same (fun k => k = p) w (w.setCell ⟨p, o, none⟩ (.int .i64 d)) := fun o =>
    Same.of_grown (row := some p) ⟨rfl, rfl, rfl, by simp [World.setCell], fun k _ hk => Below.heap_setCell w ⟨p, o, none⟩ _ k (fun e => hk (by rw [e]))⟩ (fun k e => by cases e; rfl)
  constructor
  · intro hd
    refine ⟨sa, sc, fa, fc, ?_, own_keep g2 (s1 1) (fun b hb e => n1 (by rw [hb, e])), own_keep g3 (s1 1) (fun b hb e => n2 (by rw [hb, e])), g4, g5, hd, g7, g8, g9⟩
    rw [heap_setCell_same w p 1 _ 168 _ g1]; rfl
  · intro hd
    refine ⟨sa, sc, fa, fc, ?_, own_keep g2 (s1 3) (fun b hb e => n1 (by rw [hb, e])), own_keep g3 (s1 3) (fun b hb e => n2 (by rw [hb, e])), g4, g5, g6, hd, g8, g9⟩
    rw [heap_setCell_same w p 3 _ 168 _ g1]; rfl

theorem sync_any (w : World) (p : Nat) (F : Nat → Prop) (sb fb : List UInt8) (sd fd : Nat) (h : Stk w p F sb fb sd fd) :
    Calls Tryz.prog 74 #[.pointer (some ⟨p, 0, none⟩)] w fun e w' => e = .returned (.tuple #[]) ∧ Stk w' p F sb fb sb.length fb.length ∧ Same (fun k => k = p) w w' := by
  obtain ⟨sa, sc, j1, _⟩ := h.j0
  have h2 := (h.setDur sb.length).1 (Nat.le_refl _)
  have h3 := (h2.setDur fb.length).2 (Nat.le_refl _)
  obtain ⟨fa, fc, j3, _⟩ := h2.j2
  have HH := Lib.hid h3; clear h3 h2 h
  go_enter Tryz.func74, Tryz.ntmps74
  go_wp2_with fail
  refine (jsync_any _ _ _ _ _ _ _ j1).mono ?_
  rintro e w' ⟨rfl, rfl⟩
  go_wp2_with fail
  refine (jsync_any _ _ _ _ _ _ _ j3).mono ?_
  rintro e w' ⟨rfl, rfl⟩
  go_wp2_with fail
  go_end0
  refine ⟨rfl, HH.out, ?_⟩
  refine Same.trans (Same.of_grown (row := some p) (W' := w.setCell ⟨p, 1, none⟩ (.int .i64 sb.length)) ⟨rfl, rfl, rfl, by simp [World.setCell], fun k _ hk => Below.heap_setCell w ⟨p, 1, none⟩ _ k (fun e => hk (by rw [e]))⟩ (fun k e => by cases e; rfl)) ?_
  exact Same.of_grown (row := some p) ⟨rfl, rfl, rfl, by simp [World.setCell], fun k _ hk => Below.heap_setCell _ ⟨p, 3, none⟩ _ k (fun e => hk (by rw [e]))⟩ (fun k e => by cases e; rfl)

theorem talliesOf_any (w : World) (p : Nat) (F : Nat → Prop) (sb fb : List UInt8) (sd fd : Nat) (h : Stk w p F sb fb sd fd) :
    Calls Tryz.prog 51 #[.pointer (some ⟨p, 0, none⟩)] w fun e w' => ∃ oa oc, e = .returned (.slice oa (joinOf sb fb).length oc) ∧ OwnBB w' w.heap.size oa (joinOf sb fb).length oc (joinOf sb fb) ∧ Below w.heap.size w w' := by
  obtain ⟨sa, sc, fa, fc, g1, g2, g3, g4, g5, g6, g7, g8, g9⟩ := h
  have e1 : w.cell? ⟨p, 0, none⟩ = some (.slice sa sb.length sc) := by simp [World.cell?, g1]
  have e2 : w.cell? ⟨p, 2, none⟩ = some (.slice fa fb.length fc) := by simp [World.cell?, g1]
  have hlt : p < w.heap.size := (Array.getElem?_eq_some_iff.1 g1).1
  have r1 := RdB.of_own g2
  have r2 := RdB.of_own g3
  clear g1 g2 g3 g4 g5
  go_enter Tryz.func51, Tryz.ntmps51
  go_wp2_with fail
  go_region_held3 (fun w' => w'.cell? ⟨p, 0, none⟩ = some (.slice sa sb.length sc) ∧ w'.cell? ⟨p, 2, none⟩ = some (.slice fa fb.length fc)) (first | exact ⟨e1, e2⟩ | exact ⟨(hb.cell (p := ⟨p, 0, none⟩) hlt).trans e1, (hb.cell (p := ⟨p, 2, none⟩) hlt).trans e2⟩)
    (first | (go_at_call 47; refine (join_any _ _ _ sb _ _ _ fb _ (r1.below (Below.refl _ _).drew) (r2.below (Below.refl _ _).drew) (by omega) (by omega)).mono ?_; rintro e w1 ⟨oa, oc, rfl, ho, hb⟩))
  go_wp2_with fail
  go_ret
  exact ⟨oa, oc, rfl, ho, (Below.refl _ _).drew.trans hb⟩
end Go.Proofs.YtlnhppgfhkkidaaGreat
namespace Go.Proofs.YtlnhppgfhkkidaaGreat
open Go.RowKit

def CrashOk (sb fb : List UInt8) (sd fd : Nat) (stock foil flip : Int) : Prop :=
  0 ≤ stock ∧ stock ≤ (sb.length : Int) - sd ∧ 0 ≤ foil ∧ foil ≤ (fb.length : Int) - fd ∧ -1 ≤ flip ∧ flip < 8 * (stock + foil)

end Go.Proofs.YtlnhppgfhkkidaaGreat
namespace Go.Proofs.YtlnhppgfhkkidaaGreat
open Go.RowKit

def flipAt (l : List UInt8) (i b : Nat) : List UInt8 := l.set i ((l[i]?.getD 0) ^^^ UInt8.ofNat (2 ^ b))
def crashS (sb : List UInt8) (sd stock : Nat) (flip : Int) : List UInt8 :=
  if 0 ≤ flip ∧ flip.toNat / 8 < stock then flipAt (sb.take (sd + stock)) (sd + flip.toNat / 8) (flip.toNat % 8) else sb.take (sd + stock)
def crashF (fb : List UInt8) (fd stock foil : Nat) (flip : Int) : List UInt8 :=
  if 0 ≤ flip ∧ ¬ flip.toNat / 8 < stock then flipAt (fb.take (fd + foil)) (fd + flip.toNat / 8 - stock) (flip.toNat % 8) else fb.take (fd + foil)

theorem Stk.setStock {w w1 : World} {p : Nat} {F : Nat → Prop} {sb fb : List UInt8} {sd fd : Nat} (h : Stk w p F sb fb sd fd) (hb : Below w.heap.size w w1) {a : Option Addr} {m c : Nat} {l : List UInt8}
    (ho : w1.ownsRow w.heap.size 5 1 (.slice a m c) m (l.map byteV)) (hd : sd ≤ m) (hm : m ≤ 16777216) :
    ∃ F', Stk (w1.setCell ⟨p, 0, none⟩ (.slice a m c)) p F' l fb sd fd ∧ Same F w (w1.setCell ⟨p, 0, none⟩ (.slice a m c)) ∧ (∀ k, F' k → F k ∨ w.heap.size ≤ k) := by
  have hlt := h.lt
  obtain ⟨sa, sc, fa, fc, g1, g2, g3, g4, g5, g6, g7, g8, g9⟩ := h.same (S := fun _ => False) (Same.of_below hb) (fun _ e => e.elim)
  have hl : l.length = m := by simpa using ho.1
  have n1 := own_ne ho g1 (by decide)
  have n2 := own_ne g3 g1 (by decide)
  have s1 : Same (fun k => k = p) w1 (w1.setCell ⟨p, 0, none⟩ (.slice a m c)) := Same.setCell _ rfl
  refine ⟨fun k => k = p ∨ Value.ownBlock (.slice a l.length c) = some k ∨ Value.ownBlock (.slice fa fb.length fc) = some k, ⟨a, c, fa, fc, ?_, ?_, own_keep g3 s1 (fun b hb e => n2 (by rw [hb, e])), ?_, fun k => Iff.rfl, by omega, g7, by omega, g9⟩, ?_, ?_⟩
  · rw [heap_setCell_same w1 p 0 _ 168 _ g1, hl]; rfl
  · rw [hl]; exact own_mono (own_keep ho s1 (fun b hb e => n1 (by rw [hb, e]))) (Nat.zero_le _)
  · intro k hk hk'
    rw [hl] at hk
    have := (ho.lt k hk).1
    have := hlt k ((g5 k).2 (.inr (.inr hk')))
    omega
  · exact (Same.of_below hb).trans ⟨s1.os, s1.tape, s1.output, s1.size, fun k hk hF => s1.block k hk (fun e => hF ((g5 k).2 (.inl e)))⟩
  · rintro k (rfl | hk | hk)
    · exact .inl ((g5 _).2 (.inl rfl))
    · rw [hl] at hk; exact .inr (ho.lt k hk).1
    · exact .inl ((g5 k).2 (.inr (.inr hk)))
theorem Stk.setFoil {w w1 : World} {p : Nat} {F : Nat → Prop} {sb fb : List UInt8} {sd fd : Nat} (h : Stk w p F sb fb sd fd) (hb : Below w.heap.size w w1) {a : Option Addr} {m c : Nat} {l : List UInt8}
    (ho : w1.ownsRow w.heap.size 5 1 (.slice a m c) m (l.map byteV)) (hd : fd ≤ m) (hm : m ≤ 16777216) :
    ∃ F', Stk (w1.setCell ⟨p, 2, none⟩ (.slice a m c)) p F' sb l sd fd ∧ Same F w (w1.setCell ⟨p, 2, none⟩ (.slice a m c)) ∧ (∀ k, F' k → F k ∨ w.heap.size ≤ k) := by
  have hlt := h.lt
  obtain ⟨sa, sc, fa, fc, g1, g2, g3, g4, g5, g6, g7, g8, g9⟩ := h.same (S := fun _ => False) (Same.of_below hb) (fun _ e => e.elim)
  have hl : l.length = m := by simpa using ho.1
  have n1 := own_ne ho g1 (by decide)
  have n2 := own_ne g2 g1 (by decide)
  have s1 : Same (fun k => k = p) w1 (w1.setCell ⟨p, 2, none⟩ (.slice a m c)) :=
    Same.of_grown (row := some p) ⟨rfl, rfl, rfl, by simp [World.setCell], fun k _ hk => Below.heap_setCell w1 ⟨p, 2, none⟩ _ k (fun e => hk (by rw [e]))⟩ (fun k e => by cases e; rfl)
  refine ⟨fun k => k = p ∨ Value.ownBlock (.slice sa sb.length sc) = some k ∨ Value.ownBlock (.slice a l.length c) = some k, ⟨sa, sc, a, c, ?_, own_keep g2 s1 (fun b hb e => n2 (by rw [hb, e])), ?_, ?_, fun k => Iff.rfl, g6, by omega, g8, by omega⟩, ?_, ?_⟩
  · rw [heap_setCell_same w1 p 2 _ 168 _ g1, hl]; rfl
  · rw [hl]; exact own_mono (own_keep ho s1 (fun b hb e => n1 (by rw [hb, e]))) (Nat.zero_le _)
  · intro k hk hk'
    rw [hl] at hk'
    have := (ho.lt k hk').1
    have := hlt k ((g5 k).2 (.inr (.inl hk)))
    omega
  · exact (Same.of_below hb).trans ⟨s1.os, s1.tape, s1.output, s1.size, fun k hk hF => s1.block k hk (fun e => hF ((g5 k).2 (.inl e)))⟩
  · rintro k (rfl | hk | hk)
    · exact .inl ((g5 _).2 (.inl rfl))
    · exact .inl ((g5 k).2 (.inr (.inl hk)))
    · rw [hl] at hk; exact .inr (ho.lt k hk).1

theorem Stk.flipS {w : World} {p : Nat} {F : Nat → Prop} {sb fb : List UInt8} {sd fd : Nat} (h : Stk w p F sb fb sd fd) (i : Nat) (hi : i < sb.length) (x : UInt8) :
    ∃ g c, w.cell? ⟨p, 0, none⟩ = some (.slice (some ⟨g, 0, none⟩) sb.length c) ∧ w.cell? ⟨p, 1, none⟩ = some (.int .i64 sd) ∧ w.cell? ⟨g, i, none⟩ = some (.int .u8 ((sb[i]?.getD 0).toNat : Int)) ∧ w.frozen? ⟨g, i, none⟩ = false ∧
      Stk (w.setCell ⟨g, i, none⟩ (.int .u8 (x.toNat : Int))) p F (sb.set i x) fb sd fd ∧ Same F w (w.setCell ⟨g, i, none⟩ (.int .u8 (x.toNat : Int))) := by
  obtain ⟨sa, sc, fa, fc, g1, g2, g3, g4, g5, g6, g7, g8, g9⟩ := h
  obtain ⟨b, off, hb, hcells⟩ := (RdB.of_own g2).at (by omega)
  have hoff : off = 0 := by
    rcases g2.2 with ⟨h, _⟩ | ⟨g, cap, cur, h, _⟩
    · rw [hb] at h; simp at h
    · rw [hb] at h; simp at h; exact h.1.2
  subst hb
  subst hoff
  have hc := hcells i hi
  rw [Nat.zero_add] at hc
  have hfz := g2.frozenAt i
  obtain ⟨hst, hgr⟩ := g2.stored i (.int .u8 (x.toNat : Int))
  have hS : Same (fun k => k = b) w (w.setCell ⟨b, i, none⟩ (.int .u8 (x.toNat : Int))) := Same.of_grown hgr (fun k e => by cases e; rfl)
  have n2 := own_ne g2 g1 (by decide)
  have hset : (sb.map byteV).set i (.int .u8 (x.toNat : Int)) = (sb.set i x).map byteV := by rw [List.map_set]; rfl
  rw [hset] at hst
  have hls : (sb.set i x).length = sb.length := List.length_set
  refine ⟨b, sc, by simp [World.cell?, g1], by simp [World.cell?, g1], hc, hfz, ⟨some ⟨b, 0, none⟩, sc, fa, fc, ?_, ?_, ?_, ?_, ?_, ?_, g7, ?_, g9⟩, ⟨hS.os, hS.tape, hS.output, hS.size, fun k hk hF => hS.block k hk (fun e => hF ((g5 k).2 (.inr (.inl (by rw [e]; rfl)))))⟩⟩
  · rw [hls, hS.block p (Array.getElem?_eq_some_iff.1 g1).1 (fun e => n2 (by rw [e]; rfl))]
    exact g1
  · rw [hls]; exact hst
  · exact own_keep g3 hS (fun k hk e => g4 k (by rw [e]; rfl) hk)
  · rw [hls]; exact g4
  · rw [hls]; exact g5
  · rw [hls]; exact g6
  · rw [hls]; exact g8
theorem Stk.flipF {w : World} {p : Nat} {F : Nat → Prop} {sb fb : List UInt8} {sd fd : Nat} (h : Stk w p F sb fb sd fd) (i : Nat) (hi : i < fb.length) (x : UInt8) :
    ∃ g c, w.cell? ⟨p, 2, none⟩ = some (.slice (some ⟨g, 0, none⟩) fb.length c) ∧ w.cell? ⟨p, 3, none⟩ = some (.int .i64 fd) ∧ w.cell? ⟨g, i, none⟩ = some (.int .u8 ((fb[i]?.getD 0).toNat : Int)) ∧ w.frozen? ⟨g, i, none⟩ = false ∧
      Stk (w.setCell ⟨g, i, none⟩ (.int .u8 (x.toNat : Int))) p F sb (fb.set i x) sd fd ∧ Same F w (w.setCell ⟨g, i, none⟩ (.int .u8 (x.toNat : Int))) := by
  obtain ⟨sa, sc, fa, fc, g1, g2, g3, g4, g5, g6, g7, g8, g9⟩ := h
  obtain ⟨b, off, hb, hcells⟩ := (RdB.of_own g3).at (by omega)
  have hoff : off = 0 := by
    rcases g3.2 with ⟨h, _⟩ | ⟨g, cap, cur, h, _⟩
    · rw [hb] at h; simp at h
    · rw [hb] at h; simp at h; exact h.1.2
  subst hb
  subst hoff
  have hc := hcells i hi
  rw [Nat.zero_add] at hc
  have hfz := g3.frozenAt i
  obtain ⟨hst, hgr⟩ := g3.stored i (.int .u8 (x.toNat : Int))
  have hS : Same (fun k => k = b) w (w.setCell ⟨b, i, none⟩ (.int .u8 (x.toNat : Int))) := Same.of_grown hgr (fun k e => by cases e; rfl)
  have n2 := own_ne g3 g1 (by decide)
  have hset : (fb.map byteV).set i (.int .u8 (x.toNat : Int)) = (fb.set i x).map byteV := by rw [List.map_set]; rfl
  rw [hset] at hst
  have hls : (fb.set i x).length = fb.length := List.length_set
  refine ⟨b, fc, by simp [World.cell?, g1], by simp [World.cell?, g1], hc, hfz, ⟨sa, sc, some ⟨b, 0, none⟩, fc, ?_, ?_, ?_, ?_, ?_, g6, ?_, g8, ?_⟩, ⟨hS.os, hS.tape, hS.output, hS.size, fun k hk hF => hS.block k hk (fun e => hF ((g5 k).2 (.inr (.inr (by rw [e]; rfl)))))⟩⟩
  · rw [hls, hS.block p (Array.getElem?_eq_some_iff.1 g1).1 (fun e => n2 (by rw [e]; rfl))]
    exact g1
  · exact own_keep g2 hS (fun k hk e => g4 k hk (by rw [e]; rfl))
  · rw [hls]; exact hst
  · rw [hls]; exact g4
  · rw [hls]; exact g5
  · rw [hls]; exact g7
  · rw [hls]; exact g9
end Go.Proofs.YtlnhppgfhkkidaaGreat
namespace Go.Proofs.YtlnhppgfhkkidaaGreat
open Go.RowKit

theorem Same.trans2 {F F1 : Nat → Prop} {a b c : World} (h : Same F a b) (k : Same F1 b c) (hF : ∀ k, F1 k → F k ∨ a.heap.size ≤ k) : Same F a c :=
  ⟨k.os.trans h.os, k.tape.trans h.tape, k.output.trans h.output, Nat.le_trans h.size k.size, fun i hi hs => (k.block i (Nat.lt_of_lt_of_le hi h.size) (fun h1 => by
    rcases hF i h1 with h2 | h2
    · exact hs h2
    · omega)).trans (h.block i hi hs)⟩

theorem xor_bytes (x y : UInt8) : bits .xor .u8 (x.toNat : Int) (y.toNat : Int) = ((x ^^^ y).toNat : Int) := by
  have hx := x.toNat_lt
  have hy := y.toNat_lt
  have h : x.toNat ^^^ y.toNat < 2 ^ 8 := Nat.xor_lt_two_pow hx hy
  show IntKind.u8.wrap (((BitVec.ofInt 8 (x.toNat : Int)) ^^^ (BitVec.ofInt 8 (y.toNat : Int)) : BitVec 8)).toNat = _
  rw [BitVec.ofInt_natCast, BitVec.ofInt_natCast, BitVec.toNat_xor, BitVec.toNat_ofNat, BitVec.toNat_ofNat, Nat.mod_eq_of_lt hx, Nat.mod_eq_of_lt hy, IntKind.wrap_u8, UInt8.toNat_xor]
  omega
theorem mask_eq (b : Nat) : ((2 : Int) ^ b % 256) = ((UInt8.ofNat (2 ^ b)).toNat : Int) := by
  rw [UInt8.toNat_ofNat']
  simp

theorem Stk.self {w : World} {p : Nat} {F : Nat → Prop} {sb fb : List UInt8} {sd fd : Nat} (h : Stk w p F sb fb sd fd) : F p := by
  obtain ⟨sa, sc, fa, fc, h1, h2, h3, h4, h5, h6⟩ := h
  exact (h5 p).2 (.inl rfl)

set_option maxHeartbeats 1000000 in
theorem crash_yes (w : World) (p : Nat) (F : Nat → Prop) (sb fb : List UInt8) (sd fd : Nat) (stock foil : Nat) (flip : Int) (h : Stk w p F sb fb sd fd) (hc : CrashOk sb fb sd fd stock foil flip) :
    Calls Tryz.prog 50 #[.pointer (some ⟨p, 0, none⟩), .int .i64 stock, .int .i64 foil, .int .i64 flip] w fun e w' => e = .returned (.int .i64 0) ∧
      ∃ F', Stk w' p F' (crashS sb sd stock flip) (crashF fb fd stock foil flip) (crashS sb sd stock flip).length (crashF fb fd stock foil flip).length ∧ Same F w w' ∧ (∀ k, F' k → F k ∨ w.heap.size ≤ k) := by
  obtain ⟨c1, c2, c3, c4, c5, c6⟩ := hc
  have hq : ∀ q, Stk (w.drewN q) p F sb fb sd fd := fun q => h.same (S := fun _ => False) (Same.of_below (below_drewN (Below.refl _ _) q)) (fun _ e => e.elim)
  obtain ⟨_, _, _, _, _, _, _, _, _, g6, g7, g8, g9⟩ := id h
  have P1 : ∀ q, Calls Tryz.prog 110 #[.pointer (some ⟨p, 0, none⟩)] (w.drewN q) fun e w' => e = .returned (.int .i64 ((sb.length : Int) - sd)) ∧ ∃ q', w' = w.drewN q' := by
    intro q
    obtain ⟨a, c, j, _⟩ := (hq q).j0
    refine (jpending_any _ _ _ _ _ _ _ j g6 (by omega)).mono ?_
    rintro e w' ⟨rfl, q', rfl⟩
    exact ⟨rfl, q + q', by rw [World.drewN_drewN]⟩
  have P2 : ∀ q, Calls Tryz.prog 110 #[.pointer (some ⟨p, 2, none⟩)] (w.drewN q) fun e w' => e = .returned (.int .i64 ((fb.length : Int) - fd)) ∧ ∃ q', w' = w.drewN q' := by
    intro q
    obtain ⟨a, c, j, _⟩ := (hq q).j2
    refine (jpending_any _ _ _ _ _ _ _ j g7 (by omega)).mono ?_
    rintro e w' ⟨rfl, q', rfl⟩
    exact ⟨rfl, q + q', by rw [World.drewN_drewN]⟩
  have H1 := Lib.hid P1; clear P1
  have H2 := Lib.hid P2; clear P2
  have HQ := Lib.hid hq; clear hq
  have HP := Lib.hid h.self; clear h
  have q1 : decide ((stock : Int) < 0) = false := by simp
  have q2 : decide ((sb.length : Int) - sd < stock) = false := by simp; omega
  have q3 : decide ((foil : Int) < 0) = false := by simp
  have q4 : decide ((fb.length : Int) - fd < foil) = false := by simp; omega
  have q5 : decide (flip < -1) = false := by simp; omega
  have q6 : decide (8 * ((stock : Int) + foil) ≤ flip) = false := by simp; omega
  go_enter Tryz.func50, Tryz.ntmps50
  go_wp2_with fail
  refine (H1.out 0).mono ?_
  rintro e w' ⟨rfl, q, rfl⟩
  go_wp2_with fail
  refine (H2.out q).mono ?_
  rintro e w' ⟨rfl, q', rfl⟩
  have hS := HQ.out q'
  have hbq : Below w.heap.size w (w.drewN q') := below_drewN (Below.refl _ _) q'
  have HB := Lib.hid hbq; clear hbq
  go_wp2_with fail
  generalize w.drewN q' = w0 at *
  have hb0 := HB.out
  have hz0 := hb0.size
  obtain ⟨a0, k0, j0, o0⟩ := hS.j0
  refine (jkeep_any w0 p 0 a0 sb.length k0 sd sb j0 (RdB.of_own o0) stock (by omega) (by omega)).mono ?_
  rintro e w' ⟨rfl, a1, k1, w1, ho1, hb1, rfl⟩
  obtain ⟨F1, hS1, hF1, hF1'⟩ := hS.setStock hb1 ho1 (by omega) (by omega)
  clear j0 o0 hb1 ho1
  go_wp2_with fail
  generalize w1.setCell ⟨p, 0, none⟩ (.slice a1 (sd + stock) k1) = w2 at *
  obtain ⟨a2, k2, j2, o2⟩ := hS1.j2
  refine (jkeep_any w2 p 2 a2 fb.length k2 fd fb j2 (RdB.of_own o2) foil (by omega) (by omega)).mono ?_
  rintro e w' ⟨rfl, a3, k3, w3, ho3, hb3, rfl⟩
  obtain ⟨F2, hS2, hF2, hF2'⟩ := hS1.setFoil hb3 ho3 (by omega) (by omega)
  clear j2 o2 hb3 ho3
  have hSame : Same F w (w3.setCell ⟨p, 2, none⟩ (.slice a3 (fd + foil) k3)) := ((Same.of_below hb0).trans2 hF1 (fun k hk => .inl hk)).trans2 hF2 (fun k hk => by
    rcases hF1' k hk with h | h
    · exact .inl h
    · exact .inr (by omega))
  have hFoot : ∀ k, F2 k → F k ∨ w.heap.size ≤ k := fun k hk => by
    rcases hF2' k hk with h | h
    · rcases hF1' k h with h | h
      · exact .inl h
      · exact .inr (by omega)
    · have := hF1.size; exact .inr (by omega)
  have HS := Lib.hid hSame; clear hSame
  have HF := Lib.hid hFoot; clear hFoot hF1 hF1' hF2 hF2' hS hS1
  by_cases hm : flip < 0
  · have e1 : crashS sb sd stock flip = sb.take (sd + stock) := by unfold crashS; rw [if_neg (by omega)]
    have e2 : crashF fb fd stock foil flip = fb.take (fd + foil) := by unfold crashF; rw [if_neg (by omega)]
    have E1 := Lib.hid e1; clear e1
    have E2 := Lib.hid e2; clear e2
    go_wp2_with fail
    generalize w3.setCell ⟨p, 2, none⟩ (.slice a3 (fd + foil) k3) = w4 at *
    refine (sync_any _ _ _ _ _ _ _ hS2).mono ?_
    rintro e w' ⟨rfl, hS3, hF3⟩
    go_wp2_with fail
    go_ret
    rw [E1.out, E2.out]
    exact ⟨rfl, F2, hS3, HS.out.trans2 hF3 (fun k hk => .inl (by subst hk; exact HP.out)), HF.out⟩
  · obtain ⟨f, rfl⟩ := Int.eq_ofNat_of_zero_le (show 0 ≤ flip by omega)
    go_wp2_with fail
    go_quiet (fail)
    have hS3 := hS2.same (S := fun _ => False) (Same.of_below (below_drewN (Below.refl _ _) nq)) (fun _ e => e.elim)
    have hA : (f : Int) / 8 = ((f / 8 : Nat) : Int) := by omega
    have hlen1 : (sb.take (sd + stock)).length = sd + stock := by rw [List.length_take]; omega
    have hlen2 : (fb.take (fd + foil)).length = fd + foil := by rw [List.length_take]; omega
    have HL1 := Lib.hid hlen1; clear hlen1
    have HL2 := Lib.hid hlen2; clear hlen2
    have hS0 := HS.out.trans (Same.of_below (S := F) (below_drewN (Below.refl _ _) nq))
    have HS0 := Lib.hid hS0; clear hS0
    rw [mask_eq, hA]
    clear hA hS2 HS
    generalize (w3.setCell ⟨p, 2, none⟩ (.slice a3 (fd + foil) k3)).drewN nq = w4 at *
    by_cases hat : f / 8 < stock
    · have e1 : crashS sb sd stock f = flipAt (sb.take (sd + stock)) (sd + f / 8) (f % 8) := by unfold crashS; rw [if_pos (by simp; exact hat)]; simp
      have e2 : crashF fb fd stock foil f = fb.take (fd + foil) := by unfold crashF; rw [if_neg (by simp; omega)]
      have E1 := Lib.hid e1; clear e1
      have E2 := Lib.hid e2; clear e2
      obtain ⟨g, k, y1, y2, y3, y4, hS4, hF4⟩ := hS3.flipS (sd + f / 8) (by rw [HL1.out]; omega) (((sb.take (sd + stock))[sd + f / 8]?.getD 0) ^^^ UInt8.ofNat (2 ^ (f % 8)))
      rw [HL1.out] at y1
      have hx := xor_bytes ((sb.take (sd + stock))[sd + f / 8]?.getD 0) (UInt8.ofNat (2 ^ (f % 8)))
      have E3 : Hid (flipAt (sb.take (sd + stock)) (sd + f / 8) (f % 8) = (sb.take (sd + stock)).set (sd + f / 8) (((sb.take (sd + stock))[sd + f / 8]?.getD 0) ^^^ UInt8.ofNat (2 ^ (f % 8)))) := show _ = _ from rfl
      generalize (sb.take (sd + stock))[sd + f / 8]?.getD 0 = bt at *
      generalize UInt8.ofNat (2 ^ (f % 8)) = mk at *
      generalize f / 8 = A at *
      have HS4 := Lib.hid hS4; clear hS4
      have HF4 := Lib.hid hF4; clear hF4 hS3
      clear w0 hb0 hz0 HB H1 H2 HQ
      go_wp2_with fail
      go_region
      rw [← UInt8.toNat_xor]
      have hS5 := HS4.out.same (S := fun _ => False) (w' := (w4.setCell ⟨g, sd + A, none⟩ (.int .u8 ((bt ^^^ mk).toNat : Int))).drew) (Same.of_below (below_drewN (Below.refl _ _) 1)) (fun _ e => e.elim)
      have hF5 : Same F2 w4 (w4.setCell ⟨g, sd + A, none⟩ (.int .u8 ((bt ^^^ mk).toNat : Int))).drew := HF4.out.trans (Same.of_below (below_drewN (Below.refl _ _) 1))
      generalize (w4.setCell ⟨g, sd + A, none⟩ (.int .u8 ((bt ^^^ mk).toNat : Int))).drew = w5 at *
      have HF5 := Lib.hid hF5; clear hF5 HS4 HF4 y1 y2 y3 y4 hx
      go_wp2_with fail
      refine (sync_any _ _ _ _ _ _ _ hS5).mono ?_
      rintro e w' ⟨rfl, hS6, hF6⟩
      go_wp2_with fail
      go_ret
      rw [E1.out, E2.out, E3.out]
      exact ⟨rfl, F2, hS6, (HS0.out.trans2 HF5.out HF.out).trans2 hF6 (fun k hk => .inl (by subst hk; exact HP.out)), HF.out⟩
    · have e1 : crashS sb sd stock f = sb.take (sd + stock) := by unfold crashS; rw [if_neg (by simp; omega)]
      have e2 : crashF fb fd stock foil f = flipAt (fb.take (fd + foil)) (fd + f / 8 - stock) (f % 8) := by unfold crashF; rw [if_pos (by simp; omega)]; simp
      have E1 := Lib.hid e1; clear e1
      have E2 := Lib.hid e2; clear e2
      have hlt : fd + f / 8 - stock < fd + foil := by omega
      obtain ⟨g, k, y1, y2, y3, y4, hS4, hF4⟩ := hS3.flipF (fd + f / 8 - stock) (by rw [HL2.out]; exact hlt) (((fb.take (fd + foil))[fd + f / 8 - stock]?.getD 0) ^^^ UInt8.ofNat (2 ^ (f % 8)))
      rw [HL2.out] at y1
      have hx := xor_bytes ((fb.take (fd + foil))[fd + f / 8 - stock]?.getD 0) (UInt8.ofNat (2 ^ (f % 8)))
      have E3 : Hid (flipAt (fb.take (fd + foil)) (fd + f / 8 - stock) (f % 8) = (fb.take (fd + foil)).set (fd + f / 8 - stock) (((fb.take (fd + foil))[fd + f / 8 - stock]?.getD 0) ^^^ UInt8.ofNat (2 ^ (f % 8)))) := show _ = _ from rfl
      generalize (fb.take (fd + foil))[fd + f / 8 - stock]?.getD 0 = bt at *
      generalize UInt8.ofNat (2 ^ (f % 8)) = mk at *
      have HS4 := Lib.hid hS4; clear hS4
      have HF4 := Lib.hid hF4; clear hF4 hS3
      clear w0 hb0 hz0 HB H1 H2 HQ
      go_wp2_with fail
      go_region
      rw [← UInt8.toNat_xor]
      have hS5 := HS4.out.same (S := fun _ => False) (w' := (w4.setCell ⟨g, fd + f / 8 - stock, none⟩ (.int .u8 ((bt ^^^ mk).toNat : Int))).drew) (Same.of_below (below_drewN (Below.refl _ _) 1)) (fun _ e => e.elim)
      have hF5 : Same F2 w4 (w4.setCell ⟨g, fd + f / 8 - stock, none⟩ (.int .u8 ((bt ^^^ mk).toNat : Int))).drew := HF4.out.trans (Same.of_below (below_drewN (Below.refl _ _) 1))
      generalize (w4.setCell ⟨g, fd + f / 8 - stock, none⟩ (.int .u8 ((bt ^^^ mk).toNat : Int))).drew = w5 at *
      have HF5 := Lib.hid hF5; clear hF5 HS4 HF4 y1 y2 y3 y4 hx
      go_wp2_with fail
      refine (sync_any _ _ _ _ _ _ _ hS5).mono ?_
      rintro e w' ⟨rfl, hS6, hF6⟩
      go_wp2_with fail
      go_ret
      rw [E1.out, E2.out, E3.out]
      exact ⟨rfl, F2, hS6, (HS0.out.trans2 HF5.out HF.out).trans2 hF6 (fun k hk => .inl (by subst hk; exact HP.out)), HF.out⟩
end Go.Proofs.YtlnhppgfhkkidaaGreat
namespace Go.Proofs.YtlnhppgfhkkidaaGreat
open Go.RowKit

theorem RdB.lit (w : World) (l : List UInt8) (hl : l.length ≤ 1000000) : RdB (w.alloc (.cells (l.map byteV).toArray 5)) (some ⟨w.heap.size, 0, none⟩) l.length l.length l := by
  have h := World.ownsRow_lit (base := w.heap.size) (e := 5) (size := 1) w (l.map byteV).toArray l.length (Nat.le_refl _) (by unfold maxLen; omega) (by simp)
  exact RdA.of_own h

theorem conv_bytes {w : World} {a : Option Addr} {n c : Nat} {l : List UInt8} (h : RdB w a n c l) : (convert 41 9 (.slice a n c)).run Tryz.prog w = .ok (.string ⟨l.toArray⟩) w :=
  run_convert_str 41 9 5 Tryz.underlying41 Tryz.underlying5 Tryz.underlying9 h

theorem join_lit (w : World) (A B : List UInt8) (hA : A.length ≤ 1000) (hB : B.length ≤ 1000) :
    Calls Tryz.prog 47 #[.slice (some ⟨w.heap.size, 0, none⟩) A.length A.length, .slice (some ⟨w.heap.size + 1, 0, none⟩) B.length B.length] ((w.alloc (.cells (A.map byteV).toArray 5)).alloc (.cells (B.map byteV).toArray 5)) fun e w' =>
      ∃ oa oc, e = .returned (.tuple #[.slice oa (joinOf A B).length oc, .int .i64 (sOf (joinOf A B)), .int .i64 (4 * ((joinOf A B).length : Int))]) ∧ Below w.heap.size w w' := by
  have r2 := RdB.lit w A (by omega)
  have r3 := RdB.lit (w.alloc (.cells (A.map byteV).toArray 5)) B (by omega)
  rw [World.size_alloc] at r3
  have b2 := (Below.refl (w.alloc (.cells (A.map byteV).toArray 5)).heap.size (w.alloc (.cells (A.map byteV).toArray 5))).alloc (Nat.le_refl _) (.cells (B.map byteV).toArray 5)
  have b1 := (Below.refl w.heap.size w).alloc (Nat.le_refl _) (.cells (A.map byteV).toArray 5)
  have b3 := b1.trans (b2.mono (by simp))
  refine (join_any _ _ _ A _ _ _ B _ (r2.below b2) r3 (by omega) (by omega)).mono ?_
  rintro e w' ⟨oa, oc, rfl, _, hb⟩
  exact ⟨oa, oc, rfl, b3.trans (hb.mono b3.size)⟩

theorem join_ex1 (w : World) : Calls Tryz.prog 47 #[.slice (some ⟨w.heap.size, 0, none⟩) 5 5, .slice (some ⟨w.heap.size + 1, 0, none⟩) 4 4]
    ((w.alloc (.cells #[.int .u8 1, .int .u8 0, .int .u8 7, .int .u8 0, .int .u8 0] 5)).alloc (.cells #[.int .u8 1, .int .u8 0, .int .u8 8, .int .u8 0] 5)) fun e w' =>
      ∃ oa oc, e = .returned (.tuple #[.slice oa 1 oc, .int .i64 3, .int .i64 4]) ∧ Below w.heap.size w w' := by
  have h := join_lit w [1, 0, 7, 0, 0] [1, 0, 8, 0] (by decide) (by decide)
  have e : joinOf [1, 0, 7, 0, 0] [1, 0, 8, 0] = [[7]] := by decide +kernel
  rw [e] at h
  exact h
theorem join_ex2 (w : World) : Calls Tryz.prog 47 #[.slice (some ⟨w.heap.size, 0, none⟩) 3 3, .slice (some ⟨w.heap.size + 1, 0, none⟩) 4 4]
    ((w.alloc (.cells #[.int .u8 1, .int .u8 0, .int .u8 6] 5)).alloc (.cells #[.int .u8 1, .int .u8 0, .int .u8 8, .int .u8 0] 5)) fun e w' =>
      ∃ oa oc, e = .returned (.tuple #[.slice oa 0 oc, .int .i64 0, .int .i64 0]) ∧ Below w.heap.size w w' := by
  have h := join_lit w [1, 0, 6] [1, 0, 8, 0] (by decide) (by decide)
  have e : joinOf [1, 0, 6] [1, 0, 8, 0] = [] := by decide +kernel
  rw [e] at h
  exact h

theorem stick_ex (w : World) (p : Nat) (F : Nat → Prop) (h : Stk w p F [1, 0, 7] [1, 0, 8, 0] 0 0) :
    Calls Tryz.prog 50 #[.pointer (some ⟨p, 0, none⟩), .int .i64 3, .int .i64 2, .int .i64 (-1)] w fun e w' => e = .returned (.int .i64 0) ∧ ∃ F', Stk w' p F' [1, 0, 7] [1, 0] 3 2 ∧ Same F w w' ∧ (∀ k, F' k → F k ∨ w.heap.size ≤ k) := by
  have h := crash_yes w p F [1, 0, 7] [1, 0, 8, 0] 0 0 3 2 (-1) h ⟨by decide, by decide, by decide, by decide, by decide, by decide⟩
  have e1 : crashS [1, 0, 7] 0 3 (-1) = [1, 0, 7] := by decide +kernel
  have e2 : crashF [1, 0, 8, 0] 0 3 2 (-1) = [1, 0] := by decide +kernel
  rw [e1, e2] at h
  exact h

theorem tallies_ex (w : World) (p : Nat) (F : Nat → Prop) (h : Stk w p F [1, 0, 7] [1, 0] 3 2) :
    Calls Tryz.prog 51 #[.pointer (some ⟨p, 0, none⟩)] w fun e w' => (∃ oa oc, e = .returned (.slice oa 0 oc)) ∧ Below w.heap.size w w' := by
  have h := talliesOf_any w p F _ _ _ _ h
  have e1 : joinOf [1, 0, 7] [1, 0] = [] := by decide +kernel
  rw [e1] at h
  exact h.mono fun e w' ⟨oa, oc, he, _, hb⟩ => ⟨⟨oa, oc, he⟩, hb⟩

set_option maxHeartbeats 1000000 in
theorem awake_any (w : World) : Calls Tryz.prog 10 #[] w fun e w' => e = .returned (.bool true) ∧ Below w.heap.size w w' := by
  go_enter Tryz.func10, Tryz.ntmps10
  go_wp2_with fail
  have r1 : RdB (w.alloc (.cells #[.int .u8 7] 5)) (some ⟨w.heap.size, 0, none⟩) 1 1 [7] := RdB.lit w [7] (by decide)
  have b0 := (Below.refl w.heap.size w).alloc (Nat.le_refl _) (.cells #[.int .u8 7] 5)
  refine (notch_any _ _ _ [7] _ r1 (by decide)).mono ?_
  rintro e w1 ⟨sa, sc, fa, fc, rfl, hs, hf, b1⟩
  have hb1 := b0.trans (b1.mono b0.size)
  have e1 : stockOf [7] = [1, 0, 7] := by decide +kernel
  have e2 : foilOf [7] = [1, 0, 8, 0] := by decide +kernel
  rw [e1] at hs ⊢
  rw [e2] at hf ⊢
  clear r1 b0 b1 e1 e2
  have HB := Lib.hid hb1; clear hb1
  go_wp2_with fail
  refine (join_ex1 w1).mono ?_
  rintro e w2 ⟨oa, oc, rfl, b2⟩
  have hb2 := HB.out.trans (b2.mono HB.out.size)
  have hs2 := hs.below b2
  have hf2 := hf.below b2
  have HB2 := Lib.hid hb2; clear hb2 b2 hs hf
  go_wp2_with fail
  refine (join_ex2 w2).mono ?_
  rintro e w3 ⟨oa3, oc3, rfl, b3⟩
  have hb3 := HB2.out.trans (b3.mono HB2.out.size)
  have hs3 := hs2.below b3
  have hf3 := hf2.below b3
  have HB3 := Lib.hid hb3; clear hb3 b3 hs2 hf2
  go_wp2_with fail
  refine (newStick_any w3).mono ?_
  rintro e w4 ⟨rfl, hst4, b4⟩
  have hz4 : w3.heap.size < w4.heap.size := hst4.lt _ rfl
  have B4 := Lib.hid b4; clear b4
  go_wp2_with fail
  have ba := (Below.refl w4.heap.size w4).alloc (Nat.le_refl _) (.cells #[.int .u8 7] 5)
  have hst5 := hst4.same (S := fun _ => False) (Same.of_below ba) (fun _ e => e.elim)
  refine (write_yes _ _ _ _ _ _ _ _ _ _ [7] hst5 (RdB.lit w4 [7] (by decide)) (by decide) (by decide) (by decide)).mono ?_
  rintro e w5 ⟨rfl, F5, hst5', hF5, hF5'⟩
  have e1 : ([] : List UInt8) ++ stockOf [7] = [1, 0, 7] := by decide +kernel
  have e2 : ([] : List UInt8) ++ foilOf [7] = [1, 0, 8, 0] := by decide +kernel
  rw [e1, e2] at hst5'
  have b5 : Below w3.heap.size w3 w5 := hF5.below (B4.out.trans (ba.mono (by omega))) (by simp; omega) (fun k hk => by omega)
  have hG5 : ∀ k, F5 k → w3.heap.size ≤ k := fun k hk => by
    rcases hF5' k hk with h | h
    · omega
    · simp at h; omega
  have B5 := Lib.hid b5; clear b5 hst5 ba hF5 hF5' hst4
  have G5 := Lib.hid hG5; clear hG5
  go_wp2_with fail
  refine (stick_ex w5 _ F5 hst5').mono ?_
  rintro e w6 ⟨rfl, F6, hst6, hF6, hF6'⟩
  have b6 : Below w3.heap.size w3 w6 := hF6.below B5.out B5.out.size G5.out
  have hs6 := hs3.below b6
  have hf6 := hf3.below b6
  have hb6 := HB3.out.trans (b6.mono HB3.out.size)
  have HB6 := Lib.hid hb6
  clear hb6 b6 hF6 hF6' hst5' hs3 hf3
  have c1 : (convert 41 9 (.slice sa 3 sc)).run Tryz.prog w6 = .ok (.string ⟨[1, 0, 7].toArray⟩) w6 := conv_bytes hs6
  have c2 : (convert 41 9 (.slice (some ⟨w6.heap.size, 0, none⟩) 3 3)).run Tryz.prog (w6.alloc (.cells #[.int .u8 1, .int .u8 0, .int .u8 7] 5)) = .ok (.string ⟨[1, 0, 7].toArray⟩) (w6.alloc (.cells #[.int .u8 1, .int .u8 0, .int .u8 7] 5)) := conv_bytes (RdB.lit w6 [1, 0, 7] (by decide))
  have ba := (Below.refl w6.heap.size w6).alloc (Nat.le_refl _) (.cells #[.int .u8 1, .int .u8 0, .int .u8 7] 5)
  have c3 : (convert 41 9 (.slice fa 4 fc)).run Tryz.prog (w6.alloc (.cells #[.int .u8 1, .int .u8 0, .int .u8 7] 5)) = .ok (.string ⟨[1, 0, 8, 0].toArray⟩) (w6.alloc (.cells #[.int .u8 1, .int .u8 0, .int .u8 7] 5)) := conv_bytes (hf6.below ba)
  have c4 : (convert 41 9 (.slice (some ⟨w6.heap.size + 1, 0, none⟩) 4 4)).run Tryz.prog ((w6.alloc (.cells #[.int .u8 1, .int .u8 0, .int .u8 7] 5)).alloc (.cells #[.int .u8 1, .int .u8 0, .int .u8 8, .int .u8 0] 5)) = .ok (.string ⟨[1, 0, 8, 0].toArray⟩) ((w6.alloc (.cells #[.int .u8 1, .int .u8 0, .int .u8 7] 5)).alloc (.cells #[.int .u8 1, .int .u8 0, .int .u8 8, .int .u8 0] 5)) := by
    have h := RdB.lit (w6.alloc (.cells #[.int .u8 1, .int .u8 0, .int .u8 7] 5)) [1, 0, 8, 0] (by decide)
    rw [World.size_alloc] at h
    exact conv_bytes h
  have bb := ba.alloc (by simp) (.cells #[.int .u8 1, .int .u8 0, .int .u8 8, .int .u8 0] 5)
  have hst7 := hst6.same (S := fun _ => False) (Same.of_below bb) (fun _ e => e.elim)
  have HST := Lib.hid hst7
  have HBB := Lib.hid bb
  clear hst6 hst7 hs6 hf6 ba bb
  go_wp2_with fail
  refine (tallies_ex _ _ _ HST.out).mono ?_
  rintro e w7 ⟨⟨oa7, oc7, rfl⟩, b7⟩
  have hb7 := HB6.out.trans ((HBB.out.trans (b7.mono HBB.out.size)).mono HB6.out.size)
  have HB7 := Lib.hid hb7
  clear hb7 b7
  go_wp2_with fail
  go_ret
  exact ⟨rfl, HB7.out⟩
end Go.Proofs.YtlnhppgfhkkidaaGreat
