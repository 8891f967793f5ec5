/- Join of the program: a range over the iterator of tallies. -/
import Derived.Test.YtpdmlklnbjegpaaGreatRjoin
import Derived.Test.YtpdmlklnbjegpaaGreatRange
import Derived.Sort.QuietIn
namespace Go.Proofs.YtpdmlklnbjegpaaGreat
open Go.RowKit
attribute [local go_sem] Oper.semAt_some

theorem app_bb1In {F : Fence} {n : Nat} (w : World) {ops : Array Oper} {rest : List Oper} {o : Oper} {a : Act} {Q : Exit → Act → World → Prop} (hgd : o.guard = none) (s x : Operand)
    (ho : o.op = .call { callee := .builtin .append, args := #[s, x], argTypes := #[72, 72] }) (base : Nat)
    (sa : Option Addr) (sn sc : Nat) (xs : List (List UInt8)) (hs : a.eval s = .slice sa sn sc) (hown : OwnBB w base sa sn sc xs)
    (g : Nat) (ya : Option Addr) (m yc : Nat) (l : List UInt8) (hx : a.eval x = .slice (some ⟨g, 0, none⟩) 1 1) (hc : w.cell? ⟨g, 0, none⟩ = some (.slice ya m yc))
    (hy : w.ownsRow 0 5 1 (.slice ya m yc) m (l.map byteV)) (hbytes : sn + 1 ≤ 16777216) (hbase : base ≤ w.heap.size)
    (h : ∀ a' c' w', OwnBB w' base a' (sn + 1) c' (xs ++ [l]) → w.grownBy w' (Value.ownBlock (.slice sa sn sc)) → wpListIn F n Tryz.prog ops Q rest (a.put o.dst (.slice a' (sn + 1) c')) w') :
    wpListIn F n Tryz.prog ops Q (o :: rest) a w := by
  obtain ⟨a', c', w', hr, h2, h3⟩ := run_app_bb1 w o.type base sa sn sc xs hown g ya m yc l hc hy hbytes hbase
  refine wpListIn_plain hgd fun K hK => ?_
  unfold Oper.wpIn
  refine ⟨?_, ?_⟩
  · simp [Oper.about, ho, resolve, Target.leads, Sem.run_pure]
  · rw [Oper.semAt_plain F _ _ (by rw [ho]; intro c hc'; cases hc')]
    simp [execOp, ho, resolve, invoke, builtin, hs, hx, hr, Result.andThen]
    exact hK _ _ (h a' c' w' h2 h3)

/-- Blocks that were there are as they were, but for those of S. -/
structure Same (S : Nat → Prop) (W W' : World) : Prop where
  os : W'.os = W.os
  tape : W'.tape = W.tape
  output : W'.output = W.output
  size : W.heap.size ≤ W'.heap.size
  block : ∀ k, k < W.heap.size → ¬ S k → W'.heap[k]? = W.heap[k]?

theorem Same.of_below {S : Nat → Prop} {W W' : World} (h : Below W.heap.size W W') : Same S W W' := ⟨h.os, h.tape, h.output, h.size, fun k hk _ => h.block k hk⟩
theorem Same.of_grown {S : Nat → Prop} {W W' : World} {row : Option Nat} (h : W.grownBy W' row) (hr : ∀ k, row = some k → S k) : Same S W W' :=
  ⟨h.os, h.tape, h.output, h.size, fun k hk hs => h.block k hk (fun e => hs (hr k e.symm))⟩
theorem Same.trans {S : Nat → Prop} {A B C : World} (h : Same S A B) (k : Same S B C) : Same S A C :=
  ⟨k.os.trans h.os, k.tape.trans h.tape, k.output.trans h.output, Nat.le_trans h.size k.size, fun i hi hs => (k.block i (Nat.lt_of_lt_of_le hi h.size) hs).trans (h.block i hi hs)⟩
theorem Same.below {S : Nat → Prop} {B : Nat} {A W W' : World} (h : Same S W W') (hb : Below B A W) (hB : B ≤ W.heap.size) (hs : ∀ k, S k → B ≤ k) : Below B A W' :=
  hb.trans ⟨h.os, h.tape, h.output, h.size, fun k hk => h.block k (by omega) (fun e => by have := hs k e; omega)⟩

theorem own_same {S : Nat → Prop} {W W' : World} {base : Nat} {e : TypeId} {k : Nat} {v : Value} {n : Nat} {xs : List Value} (h : W.ownsRow base e k v n xs) (hs : Same S W W')
    (hd : ∀ b cur fr, S b → W.heap[b]? ≠ some (.cells cur e fr) ∨ b < base) : W'.ownsRow base e k v n xs := by
  refine ⟨h.1, ?_⟩
  rcases h.2 with h | ⟨g, cap, cur, h, hg, hgg, hr⟩
  · exact .inl h
  · refine .inr ⟨g, cap, cur, h, hg, (hs.block g (Array.getElem?_eq_some_iff.1 hgg).1 (fun hsg => ?_)).trans hgg, hr⟩
    rcases hd g cur (0, 0) hsg with h' | h'
    · exact h' hgg
    · omega
theorem OwnBB.same {S : Nat → Prop} {W W' : World} {base : Nat} {a : Option Addr} {n c : Nat} {ls : List (List UInt8)} (h : OwnBB W base a n c ls) (hs : Same S W W')
    (h1 : ∀ b cur fr, S b → W.heap[b]? ≠ some (.cells cur 41 fr) ∨ b < base) (h2 : ∀ b cur fr, S b → W.heap[b]? ≠ some (.cells cur 5 fr)) : OwnBB W' base a n c ls := by
  obtain ⟨vs, k1, k2, k3⟩ := h
  refine ⟨vs, own_same k1 hs h1, k2, fun i hi => ?_⟩
  obtain ⟨ai, ci, k4, k5⟩ := k3 i hi
  exact ⟨ai, ci, k4, own_same k5 hs (fun b cur fr hb => .inl (h2 b cur fr hb))⟩

theorem tallies_any (v v' : Value) (hv : ∃ a n c, v = .slice a n c) (hv' : ∃ a n c, v' = .slice a n c) (w : World) :
    Calls Tryz.prog 59 #[v, v'] w fun e w' => e = .returned (.func (.func 99) #[] #[.pointer (some ⟨w.heap.size, 0, none⟩), .pointer (some ⟨w.heap.size + 1, 0, none⟩)]) ∧
      (w.alloc (.cells #[v] 41)).alloc (.cells #[v'] 41) = w' := by
  obtain ⟨a, n, c, rfl⟩ := hv
  obtain ⟨a', n', c', rfl⟩ := hv'
  go_enter Tryz.func59, Tryz.ntmps59
  go_wp2
  go_ret
  exact ⟨rfl, rfl⟩

/-- A block of one cell. -/
def Box (W : World) (b : Nat) (t : TypeId) (v : Value) : Prop := W.heap[b]? = some (.cells #[v] t (0, 0))
theorem Box.cell {W : World} {b : Nat} {t : TypeId} {v : Value} (h : Box W b t v) : W.cell? ⟨b, 0, none⟩ = some v := cell_of_one h
theorem Box.free {W : World} {b : Nat} {t : TypeId} {v : Value} (h : Box W b t v) : W.frozen? ⟨b, 0, none⟩ = false := free_of_one h
theorem Box.same {S : Nat → Prop} {W W' : World} {b : Nat} {t : TypeId} {v : Value} (h : Box W b t v) (hs : Same S W W') (hn : ¬ S b) : Box W' b t v :=
  (hs.block b (Array.getElem?_eq_some_iff.1 h).1 hn).trans h

theorem Box.new (W : World) (t : TypeId) (v : Value) {b : Nat} (hb : b = W.heap.size) : Box (W.alloc (.cells #[v] t)) b t v := by subst hb; exact heap_alloc_new W _
theorem Box.alloc {W : World} {b : Nat} {t : TypeId} {v : Value} (h : Box W b t v) (o : Obj) : Box (W.alloc o) b t v := h.same (Same.of_below (S := fun _ => False) ((Below.refl _ _).alloc (Nat.le_refl _) o)) id
theorem Box.set {W : World} {b : Nat} {t : TypeId} {v : Value} (h : Box W b t v) (u : Value) : Box (W.setCell ⟨b, 0, none⟩ u) b t u := one_setCell h
theorem Box.set_other {W : World} {b b' : Nat} {t : TypeId} {v : Value} (h : Box W b t v) (u : Value) (hne : b ≠ b') : Box (W.setCell ⟨b', 0, none⟩ u) b t v :=
  (Below.heap_setCell W ⟨b', 0, none⟩ u b hne).trans h
theorem Same.setCell {S : Nat → Prop} {W : World} {b : Nat} (u : Value) (h : S b) : Same S W (W.setCell ⟨b, 0, none⟩ u) := Same.of_grown (grownBy_setCell' W b u) (fun k e => by cases e; exact h)

/-- What Join knows between two rounds: its three variables; what was told so far. -/
def Told (w : World) (W : World) (d : List (List UInt8)) : Prop :=
  ∃ oa oc, Box W w.heap.size 72 (.slice oa d.length oc) ∧ OwnBB W (w.heap.size + 5) oa d.length oc d ∧ Box W (w.heap.size + 1) 3 (.int .i64 (sOf d)) ∧ Box W (w.heap.size + 2) 3 (.int .i64 (4 * (d.length : Int))) ∧ Below w.heap.size w W ∧ w.heap.size + 5 ≤ W.heap.size
/-- What the iterator knows: what is left of both journals. -/
def Left (w : World) (W : World) (l1 l2 : List UInt8) : Prop :=
  ∃ sa sc fa fc, Box W (w.heap.size + 3) 41 (.slice sa l1.length sc) ∧ RdB w sa l1.length sc l1 ∧ Box W (w.heap.size + 4) 41 (.slice fa l2.length fc) ∧ RdB w fa l2.length fc l2

/-- The iterator's own steps, and turns of the loop's record, leave what Join knows. -/
theorem Told.same {w W W' : World} {d : List (List UInt8)} (h : Told w W d) {S : Nat → Prop} (hs : Same S W W') (hS : ∀ k, S k → w.heap.size + 3 ≤ k)
    (hd : ∀ b cur fr, S b → (W.heap[b]? ≠ some (.cells cur 41 fr) ∨ b < w.heap.size + 5) ∧ W.heap[b]? ≠ some (.cells cur 5 fr)) : Told w W' d := by
  obtain ⟨oa, oc, h1, h2, h3, h4, h5, h6⟩ := h
  exact ⟨oa, oc, h1.same hs (fun e => by have := hS _ e; omega), h2.same hs (fun b cur fr hb => (hd b cur fr hb).1) (fun b cur fr hb => (hd b cur fr hb).2),
    h3.same hs (fun e => by have := hS _ e; omega), h4.same hs (fun e => by have := hS _ e; omega), hs.below h5 h5.size (fun k e => by have := hS k e; omega), Nat.le_trans h6 hs.size⟩
theorem Left.same {w W W' : World} {l1 l2 : List UInt8} (h : Left w W l1 l2) {S : Nat → Prop} (hs : Same S W W') (h3 : ¬ S (w.heap.size + 3)) (h4 : ¬ S (w.heap.size + 4)) : Left w W' l1 l2 := by
  obtain ⟨sa, sc, fa, fc, k1, k2, k3, k4⟩ := h
  exact ⟨sa, sc, fa, fc, k1.same hs h3, k2, k3.same hs h4, k4⟩

theorem Told.putObj {w W : World} {d : List (List UInt8)} (h : Told w W d) (o : Loop) (hl : ∃ r, W.heap[w.heap.size + 5 + 1]? = some (.loop r)) : Told w (W.putObj (w.heap.size + 5 + 1) (.loop o)) d := by
  obtain ⟨r, hl⟩ := hl
  refine h.same (S := fun k => k = w.heap.size + 5 + 1) (Same.of_grown (grownBy_putObj' W _ _) (fun k e => by cases e; rfl)) (fun k e => by omega) (fun b cur fr hb => ?_)
  subst hb
  rw [hl]
  exact ⟨.inl (by simp), by simp⟩
theorem Left.putObj {w W : World} {l1 l2 : List UInt8} (h : Left w W l1 l2) (o : Loop) : Left w (W.putObj (w.heap.size + 5 + 1) (.loop o)) l1 l2 :=
  h.same (S := fun k => k = w.heap.size + 5 + 1) (Same.of_grown (grownBy_putObj' W _ _) (fun k e => by cases e; rfl)) (by omega) (by omega)
theorem Told.below {w W W' : World} {d : List (List UInt8)} (h : Told w W d) (hb : Below W.heap.size W W') : Told w W' d :=
  h.same (S := fun _ => False) (Same.of_below hb) (fun _ e => e.elim) (fun _ _ _ e => e.elim)
theorem Left.below {w W W' : World} {l1 l2 : List UInt8} (h : Left w W l1 l2) (hb : Below W.heap.size W W') : Left w W' l1 l2 :=
  h.same (S := fun _ => False) (Same.of_below hb) id id

/-- One round of Join's body. -/
theorem Told.step {w W W3 : World} {d : List (List UInt8)} {b : List UInt8} {oa a' : Option Addr} {oc c' : Nat} (h1 : Box W w.heap.size 72 (.slice oa d.length oc)) (h3 : Box W (w.heap.size + 1) 3 (.int .i64 (sOf d)))
    (h4 : Box W (w.heap.size + 2) 3 (.int .i64 (4 * (d.length : Int)))) (h5 : Below w.heap.size w W) (h6 : w.heap.size + 5 ≤ W.heap.size) (hs : Same (fun k => w.heap.size + 5 ≤ k) W W3)
    (ho : OwnBB W3 (w.heap.size + 5) a' (d.length + 1) c' (d ++ [b])) :
    Told w (((W3.setCell ⟨w.heap.size, 0, none⟩ (.slice a' (d.length + 1) c')).setCell ⟨w.heap.size + 1, 0, none⟩ (.int .i64 ((sOf d : Int) + ((b.length : Int) + 2)))).setCell ⟨w.heap.size + 1 + 1, 0, none⟩ (.int .i64 (4 * (d.length : Int) + 4))) (d ++ [b]) := by
  have k1 := h1.same hs (by omega)
  have k3 := h3.same hs (by omega)
  have k4 := h4.same hs (by omega)
  have hA := Same.setCell (S := fun k => k = w.heap.size ∨ k = w.heap.size + 1 ∨ k = w.heap.size + 2) (W := W3) (b := w.heap.size) (.slice a' (d.length + 1) c') (.inl rfl)
  have hB := Same.setCell (S := fun k => k = w.heap.size ∨ k = w.heap.size + 1 ∨ k = w.heap.size + 2) (W := W3.setCell ⟨w.heap.size, 0, none⟩ (.slice a' (d.length + 1) c')) (b := w.heap.size + 1) (.int .i64 ((sOf d : Int) + ((b.length : Int) + 2))) (.inr (.inl rfl))
  have hC := Same.setCell (S := fun k => k = w.heap.size ∨ k = w.heap.size + 1 ∨ k = w.heap.size + 2) (W := (W3.setCell ⟨w.heap.size, 0, none⟩ (.slice a' (d.length + 1) c')).setCell ⟨w.heap.size + 1, 0, none⟩ (.int .i64 ((sOf d : Int) + ((b.length : Int) + 2)))) (b := w.heap.size + 1 + 1) (.int .i64 (4 * (d.length : Int) + 4)) (.inr (.inr rfl))
  have hall := (hA.trans hB).trans hC
  have hlen : (d ++ [b]).length = d.length + 1 := by simp
  refine ⟨a', c', ?_, ?_, ?_, ?_, ?_, ?_⟩
  · rw [hlen]
    exact ((k1.set _).set_other _ (by omega)).set_other _ (by omega)
  · rw [hlen]
    refine ho.same hall (fun q cur fr hq => .inr (by omega)) (fun q cur fr hq => ?_)
    rcases hq with rfl | rfl | rfl
    · rw [show W3.heap[w.heap.size]? = _ from k1]; simp
    · rw [show W3.heap[w.heap.size + 1]? = _ from k3]; simp
    · rw [show W3.heap[w.heap.size + 2]? = _ from k4]; simp
  · have e : ((sOf (d ++ [b]) : Nat) : Int) = (sOf d : Int) + ((b.length : Int) + 2) := by rw [sOf_snoc]; omega
    rw [e]
    exact ((k3.set_other _ (by omega)).set _).set_other _ (by omega)
  · have e : (4 * ((d ++ [b]).length : Int)) = 4 * (d.length : Int) + 4 := by rw [hlen]; omega
    rw [e]
    exact ((k4.set_other _ (by omega)).set_other _ (by omega)).set _
  · exact hall.below (hs.below h5 h5.size (fun k e => by omega)) (Nat.le_trans h5.size hs.size) (fun k e => by omega)
  · exact Nat.le_trans h6 (Nat.le_trans hs.size hall.size)


/-- The length of the slice in a box. -/
def boxLen (W : World) (b : Nat) : Nat := match W.cell? ⟨b, 0, none⟩ with | some (.slice _ n _) => n | _ => 0
theorem Left.boxLen {w W : World} {l1 l2 : List UInt8} (h : Left w W l1 l2) : boxLen W (w.heap.size + 4) = l2.length := by
  obtain ⟨sa, sc, fa, fc, k1, k2, k3, k4⟩ := h
  simp [Go.Proofs.YtpdmlklnbjegpaaGreat.boxLen, k3.cell]

theorem or_bytes (x y : Nat) (hx : x < 256) (hy : y < 256) : bits .or .i64 (x : Int) ((y : Int) * 256) = ((x + 256 * y : Nat) : Int) := by
  have h := (bits_nat .i64 16 (by decide) (fun n h0 h1 => by rw [IntKind.wrap_i64]; omega) x (256 * y) (by omega) (by omega)).2
  have e : (256 * y : Nat) = 2 ^ 8 * y := by omega
  rw [show ((y : Int) * 256) = ((256 * y : Nat) : Int) by omega, h, Nat.or_comm, e, ← Nat.two_pow_add_eq_or_of_lt (by omega) y]
  omega

/-- A cut of bytes, as an equation for the walk. -/
theorem cut_eq {w : World} {xa : Option Addr} {n c : Nat} {l : List UInt8} (hrd : RdB w xa n c l) (L H : Nat) (lo hi : Option Value)
    (hl : (lo = none ∧ L = 0) ∨ ∃ kd, lo = some (.int kd (L : Int))) (hh : (hi = none ∧ H = n) ∨ ∃ kd, hi = some (.int kd (H : Int))) (h1 : L ≤ H) (h2 : H ≤ n) :
    ∃ a', (∀ W, (Instr.sliceAt 41 (.slice xa n c) lo hi none).run Tryz.prog W = .ok (.slice a' (H - L) (c - L)) W) ∧ RdB w a' (H - L) (c - L) ((l.drop L).take (H - L)) := by
  obtain ⟨i, hi', hz0, hz1, hz2⟩ := info_parts infoByte
  obtain ⟨a', hs, hr⟩ := RdA.sliced hrd L H h1 h2
  have hnc := hrd.2.1
  refine ⟨a', fun W => ?_, ?_⟩
  · rw [← hs]
    have hel : Tryz.prog.elem 41 = 5 := by simp [Program.elem, Tryz.underlying41]
    rw [run_sliceAt_slice (P := Tryz.prog) W 41 _ _ _ _ (by rw [hel]; exact Tryz.underlying41), run_slice_any (P := Tryz.prog) W 41 xa n c (by rw [hel]; exact Tryz.underlying41)]
    have hb : (Instr.sliceBounds true n c lo hi none).run Tryz.prog W = .ok (L, H, c) W := by
      rcases hl with ⟨rfl, rfl⟩ | ⟨kd, rfl⟩ <;> rcases hh with ⟨rfl, rfl⟩ | ⟨kd', rfl⟩
      · simp [Instr.sliceBounds]
      · simp [Instr.sliceBounds, run_sliceBound, Result.andThen, (by omega : H ≤ c)]
      · simp [Instr.sliceBounds, run_sliceBound, Result.andThen, h1]
      · simp [Instr.sliceBounds, run_sliceBound, Result.andThen, (by omega : H ≤ c), h1]
    rw [hb, hel]
    simp [Result.andThen, sizeOf, typeInfo, hi', hz1]
  · unfold RdB
    rw [List.map_take, List.map_drop]
    simpa using hr

theorem Left.step {w W : World} {d : List (List UInt8)} {m1 m2 : List UInt8} {v1 v2 : Value} (hT : Told w W d) (j1 : Box W (w.heap.size + 3) 41 v1) (j3 : Box W (w.heap.size + 4) 41 v2)
    {na ma : Option Addr} {nn mn nc mc : Nat} (h1 : RdB w na nn nc m1) (h2 : RdB w ma mn mc m2) {rec : LoopState → Option Code → Loop} (hl : LoopAt rec (w.heap.size + 5) .ready none W) :
    Told w ((W.setCell ⟨w.heap.size + 3, 0, none⟩ (.slice na nn nc)).setCell ⟨w.heap.size + 4, 0, none⟩ (.slice ma mn mc)).drew d ∧
    Left w ((W.setCell ⟨w.heap.size + 3, 0, none⟩ (.slice na nn nc)).setCell ⟨w.heap.size + 4, 0, none⟩ (.slice ma mn mc)).drew m1 m2 ∧
    LoopAt rec (w.heap.size + 5) .ready none ((W.setCell ⟨w.heap.size + 3, 0, none⟩ (.slice na nn nc)).setCell ⟨w.heap.size + 4, 0, none⟩ (.slice ma mn mc)).drew := by
  have hA := Same.setCell (S := fun k => k = w.heap.size + 3 ∨ k = w.heap.size + 4) (W := W) (b := w.heap.size + 3) (.slice na nn nc) (.inl rfl)
  have hB := Same.setCell (S := fun k => k = w.heap.size + 3 ∨ k = w.heap.size + 4) (W := W.setCell ⟨w.heap.size + 3, 0, none⟩ (.slice na nn nc)) (b := w.heap.size + 4) (.slice ma mn mc) (.inr rfl)
  have hC := (hA.trans hB)
  have hall : Same (fun k => k = w.heap.size + 3 ∨ k = w.heap.size + 4) W ((W.setCell ⟨w.heap.size + 3, 0, none⟩ (.slice na nn nc)).setCell ⟨w.heap.size + 4, 0, none⟩ (.slice ma mn mc)).drew := ⟨hC.os, hC.tape, hC.output, hC.size, hC.block⟩
  refine ⟨hT.same hall (fun k e => by omega) (fun b cur fr hb => ?_), ?_, ?_⟩
  · rcases hb with rfl | rfl
    · rw [show W.heap[w.heap.size + 3]? = _ from j1]
      exact ⟨.inr (by omega), by simp⟩
    · rw [show W.heap[w.heap.size + 4]? = _ from j3]
      exact ⟨.inr (by omega), by simp⟩
  · obtain rfl := h1.len
    obtain rfl := h2.len
    exact ⟨na, nc, ma, mc, (j1.set _).set_other _ (by omega), h1, (j3.set_other _ (by omega)).set _, h2⟩
  · exact ⟨(hall.block _ (Array.getElem?_eq_some_iff.1 hl.1).1 (by omega)).trans hl.1, (hall.block _ (Array.getElem?_eq_some_iff.1 hl.2).1 (by omega)).trans hl.2⟩

theorem OwnBB.cells {W : World} {base : Nat} {a : Option Addr} {n c : Nat} {ls : List (List UInt8)} (h : OwnBB W base a n c ls) : ∀ (j : Nat) (o : Obj), Value.ownBlock (.slice a n c) = some j → W.heap[j]? = some o → o.isCells = true := by
  obtain ⟨vs, h1, _⟩ := h
  intro j o hj ho
  rcases h1.2 with ⟨h2, _⟩ | ⟨g, cap, cur, h2, _, hg, _⟩
  · rw [h2] at hj; simp [Value.ownBlock] at hj
  · rw [h2] at hj
    simp only [Value.ownBlock, Option.some.injEq] at hj
    subst hj
    rw [hg] at ho
    cases ho
    rfl
theorem OwnBB.mono {W : World} {base B : Nat} {a : Option Addr} {n c : Nat} {ls : List (List UInt8)} (h : OwnBB W base a n c ls) (hB : B ≤ base) : OwnBB W B a n c ls := by
  obtain ⟨vs, h1, h2, h3⟩ := h
  exact ⟨vs, own_mono h1 hB, h2, h3⟩
theorem Left.step3 {w W W3 : World} {l1 l2 : List UInt8} (h : Left w W l1 l2) (hs : Same (fun k => w.heap.size + 5 ≤ k) W W3) (v0 v1 v2 : Value) :
    Left w (((W3.setCell ⟨w.heap.size, 0, none⟩ v0).setCell ⟨w.heap.size + 1, 0, none⟩ v1).setCell ⟨w.heap.size + 1 + 1, 0, none⟩ v2) l1 l2 := by
  obtain ⟨sa, sc, fa, fc, k1, k2, k3, k4⟩ := h
  have j1 := k1.same hs (by omega)
  have j3 := k3.same hs (by omega)
  exact ⟨sa, sc, fa, fc, ((j1.set_other _ (by omega)).set_other _ (by omega)).set_other _ (by omega), k2, ((j3.set_other _ (by omega)).set_other _ (by omega)).set_other _ (by omega), k4⟩

structure YieldSt where
  d : List (List UInt8)
  l1 : List UInt8
  l2 : List UInt8
  b : List UInt8
  xa : Option Addr
  xc : Nat

def AtYield (w : World) (s : YieldSt) (W : World) : Prop :=
  Told w W s.d ∧ Left w W s.l1 s.l2 ∧ W.ownsRow 0 5 1 (.slice s.xa s.b.length s.xc) s.b.length (s.b.map byteV) ∧ s.d.length + 1 ≤ 4194304 ∧ sOf s.d ≤ 16777216 ∧ s.b.length ≤ 16777216

theorem LoopAt.below {rec : LoopState → Option Code → Loop} {D : Nat} {st : LoopState} {pe : Option Code} {W W' : World} (h : LoopAt rec D st pe W) (hb : Below W.heap.size W W') : LoopAt rec D st pe W' :=
  ⟨(hb.block _ (Array.getElem?_eq_some_iff.1 h.1).1).trans h.1, (hb.block _ (Array.getElem?_eq_some_iff.1 h.2).1).trans h.2⟩

set_option maxHeartbeats 2000000 in
theorem iter_any (k : Nat) (w : World) (st fo : List UInt8) (hst : st.length ≤ 16777216) (hfo : fo.length ≤ 16777216) (rec : LoopState → Option Code → Loop) (W1 : World) (h0 : Told w W1 []) (hL : Left w W1 st fo) (hl : LoopAt rec (w.heap.size + 5) .ready none W1)
    (hY : ∀ s W, AtYield w s W → LoopAt rec (w.heap.size + 5) .ready none W → YieldAt Fence.wide (k - 1) Tryz.prog (w.heap.size + 5 + 1) #[.slice s.xa s.b.length s.xc] W fun e W' =>
        (e = .returned (.bool true) ∧ (Told w W' (s.d ++ [s.b]) ∧ Left w W' s.l1 s.l2) ∧ LoopAt rec (w.heap.size + 5) .ready none W') ∨ (∃ c, e = .returned (.bool false) ∧ False ∧ LoopAt rec (w.heap.size + 5) .done (some c) W')) :
    CallsIn Fence.wide k Tryz.prog 99 #[.func (.yield (w.heap.size + 5 + 1)) #[] #[], .pointer (some ⟨w.heap.size + 3, 0, none⟩), .pointer (some ⟨w.heap.size + 4, 0, none⟩)] W1 fun e W' =>
        (∃ v, e = .returned v) ∧ ((Told w W' (joinOf st fo) ∧ LoopAt rec (w.heap.size + 5) .ready none W') ∨ (∃ c : Code, False ∧ LoopAt rec (w.heap.size + 5) .done (some c) W')) := by
  refine callsIn_of_wp Tryz.func99 rfl trivial ?_
  simp only [Tryz.ntmps99, List.size_toArray, List.length_cons, List.length_nil, Nat.reduceAdd, Nat.reduceSub, Array.replicate_succ, Array.replicate_zero, List.push_toArray, List.append_toArray, List.nil_append, List.cons_append]
  gi_wp2
  gi_loopw [4, 5, 6, 7] (fun _ _ _ _ wr => ∃ (d : List (List UInt8)) (l1 l2 : List UInt8), Told w wr d ∧ Left w wr l1 l2 ∧ LoopAt rec (w.heap.size + 5) .ready none wr ∧ Hid (joinOf st fo = d ++ joinOf l1 l2) ∧ Hid (sOf d + l1.length = st.length) ∧ Hid (4 * d.length + l2.length = fo.length)) (fun _ _ _ _ wr => boxLen wr (w.heap.size + 4))
  case atStart => exact ⟨[], st, fo, h0, hL, hl, show _ = _ by simp, show _ = _ by simp [sOf], show _ = _ by simp⟩
  case round =>
    obtain ⟨d, l1, l2, hT, hLf, hla, HJ, HS, HD⟩ := hrel
    have hbl := Lib.hid hLf.boxLen
    obtain ⟨sa, sc, fa, fc, k1, k2, k3, k4⟩ := hLf
    have c1 := k1.cell
    have c2 := k3.cell
    have m1 := RdA.maxn k2
    have m2 := RdA.maxn k4
    have hbw : Below w.heap.size w wr := by obtain ⟨_, _, _, _, _, _, h, _⟩ := hT; exact h
    have HE : Hid (¬ CanJoin l1 l2 0 0 → joinOf st fo = d) := by
      intro h
      have := join_stop h
      rw [List.drop_zero, List.drop_zero] at this
      rw [HJ.out, this, List.append_nil]
    by_cases h1 : 2 ≤ l1.length
    · by_cases h2 : 4 ≤ l2.length
      · have g1 : decide ((2 : Int) ≤ (l1.length : Int)) = true := by simp; omega
        have g2 : decide ((4 : Int) ≤ (l2.length : Int)) = true := by simp; omega
        have k2w := k2.below hbw
        have k4w := k4.below hbw
        obtain ⟨b, off, rfl, hc⟩ := k2w.at (by omega)
        have hc0 := hc 0 (by omega)
        have hc1 := hc 1 (by omega)
        rw [Nat.add_zero] at hc0
        clear hc
        have q1 : (0 : Int) < (l1.length : Int) := by omega
        have q2 : (1 : Int) < (l1.length : Int) := by omega
        have q3 := byte_toNat l1 0
        have q4 := byte_toNat l1 1
        gi_wp2
        gi_quiet (fail)
        have hor := or_bytes (l1[0]?.getD 0).toNat (l1[1]?.getD 0).toNat (by omega) (by omega)
        have hN := atN_lt l1 0
        have hat : (l1[0]?.getD 0).toNat + 256 * (l1[1]?.getD 0).toNat = atN l1 0 := rfl
        rw [hat] at hor
        rw [hor]
        clear hor hat hc0 hc1 q3 q4
        generalize hNe : atN l1 0 = N at *
        have HN := Lib.hid hNe; clear hNe
        have hT1 := hT.below (below_drewN (Below.refl _ _) nq)
        have hla1 := hla.below (below_drewN (Below.refl _ _) nq)
        have k1' : Box (wr.drewN nq) (w.heap.size + 3) 41 _ := k1
        have k3' : Box (wr.drewN nq) (w.heap.size + 4) 41 _ := k3
        by_cases h3 : N ≤ 8192
        · have g3 : decide ((8192 : Int) < (N : Int)) = false := by simp; omega
          by_cases h4 : N + 2 ≤ l1.length
          · have g4 : decide ((l1.length : Int) < (N : Int) + 2) = false := by simp; omega
            obtain ⟨ba, hcut, hbr⟩ := cut_eq k2 2 (N + 2) (some (.int .i64 2)) (some (.int .i64 ((N : Int) + 2))) (.inr ⟨_, rfl⟩) (.inr ⟨_, by go_num⟩) (by omega) h4
            have hBe : (l1.drop 2).take (N + 2 - 2) = bodyAt l1 0 := by rw [bodyAt, HN.out, Nat.zero_add, Nat.add_sub_cancel]
            have hkb : RdB w ba N (sc - 2) (bodyAt l1 0) := by rw [hBe, Nat.add_sub_cancel] at hbr; exact hbr
            have hBl : (bodyAt l1 0).length = N := hkb.len
            have HB := Lib.hid hBl; clear hBl
            have hbw2 : Below w.heap.size w (wr.drewN nq) := below_drewN hbw nq
            obtain ⟨fa4, hcutf, hbf⟩ := cut_eq k4 0 4 none (some (.int .i64 4)) (.inl ⟨rfl, rfl⟩) (.inr ⟨_, rfl⟩) (by omega) h2
            clear hbr hBe k1 k3 hla hT k2w k4w
            gi_wp2_with fail
            clear c1 c2
            generalize wr.drewN nq = W2 at *
            refine ⟨trivial, fun h => by simp [Fence.wide] at h, ?_⟩
            refine (callsIn_wide.2 (halves_any _ _ _ (bodyAt l1 0) _ (hkb.below hbw2) (by omega))).mono ?_
            rintro e W3 ⟨a1, c1, a2, c2, rfl, hw1, hw2', hb3⟩
            have hw2 := RdB.of_own hw2'
            clear hw2'
            have hT3 := hT1.below hb3
            have hla3 := hla1.below hb3
            have k13 := k1'.same (Same.of_below (S := fun _ => False) hb3) id
            have k33 := k3'.same (Same.of_below (S := fun _ => False) hb3) id
            have hbw3 := hbw2.trans (hb3.mono hbw2.size)
            have d1 := k13.cell
            have d2 := k33.cell
            clear hT1 hla1 k1' k3' hw1
            gi_wp2_with fail
            refine ⟨trivial, fun h => by simp [Fence.wide] at h, ?_⟩
            refine (callsIn_wide.2 (equal_any _ _ _ _ _ _ _ _ _ hw2 (hbf.below hbw3))).mono ?_
            rintro e W4 ⟨bq, rfl, hiff, q, rfl⟩
            have hiff' : bq = true ↔ CanJoin l1 l2 0 0 := by
              rw [hiff, canJoin_iff]
              simp only [List.drop_zero, Nat.sub_zero]
              constructor
              · intro h
                exact ⟨h1, h2, by rw [HN.out]; exact h3, by rw [HN.out]; exact h4, by rw [← h, HN.out]; simp only [bodyAt, HN.out, Nat.zero_add]⟩
              · intro h
                rw [h.2.2.2.2, HN.out]; simp only [bodyAt, HN.out, Nat.zero_add]
            have HI := Lib.hid hiff'
            clear hiff hiff' hw2
            have hbq : Below W3.heap.size W3 (W3.drewN q) := below_drewN (Below.refl _ _) q
            have hT4 := hT3.below hbq
            have hla4 := hla3.below hbq
            have hbw4 := hbw3.trans (hbq.mono hbw3.size)
            have k14 := k13.same (Same.of_below (S := fun _ => False) hbq) id
            have k34 := k33.same (Same.of_below (S := fun _ => False) hbq) id
            clear hT3 hla3 k13 k33 hbf hb3
            cases bq with
            | false =>
              gi_wp2
              refine ⟨trivial, ?_⟩
              gi_wp2
              refine ⟨fun _ h => (by cases h), ?_⟩
              gi_wp2
              refine bodyPost_ret (results_none rfl _ _ _) rfl ?_
              exact ⟨⟨_, rfl⟩, .inl ⟨by rw [HE.out (fun h => by have := HI.out.2 h; cases this)]; exact hT4, hla4⟩⟩
            | true =>
              gi_wp2_with fail
              generalize W3.drewN q = W4 at *
              refine ⟨trivial, fun h => by simp [Fence.wide] at h, ?_⟩
              refine (callsIn_wide.2 (clone_any _ _ _ _ _ (by omega) (hkb.below hbw4))).mono ?_
              rintro e W5 ⟨xa, xc, rfl, hox, hb5⟩
              have hT5 := hT4.below hb5
              have hla5 := hla4.below hb5
              have k15 := k14.same (Same.of_below (S := fun _ => False) hb5) id
              have k35 := k34.same (Same.of_below (S := fun _ => False) hb5) id
              have hL5 : Left w W5 l1 l2 := ⟨_, _, _, _, k15, k2, k35, k4⟩
              have hox5 : W5.ownsRow 0 5 1 (.slice xa (bodyAt l1 0).length xc) (bodyAt l1 0).length ((bodyAt l1 0).map byteV) := by
                rw [HB.out]; exact own_mono hox (Nat.zero_le _)
              obtain ⟨fn, tmps, assign, body, hy, hR⟩ := hY ⟨d, l1, l2, bodyAt l1 0, xa, xc⟩ W5 ⟨hT5, hL5, hox5, by have := HD.out; show d.length + 1 ≤ _; omega, by have := HS.out; show sOf d ≤ _; omega, by show (bodyAt l1 0).length ≤ _; rw [HB.out]; omega⟩ hla5
              dsimp only at hy
              rw [HB.out] at hy
              clear hox hox5 hL5 hT5 hT4 hla4 hla5 k14 k34 k15 k35 hb5 d1 d2
              gi_wp2_with fail
              refine ⟨fun h => by simp [Fence.wide] at h, ?_⟩
              refine hR.mono ?_
              rintro e W6 (⟨rfl, ⟨hT6, hL6⟩, hla6⟩ | ⟨c, _, hf, _⟩)
              · clear hR hy
                obtain ⟨sa', sc', fa', fc', j1, j2, j3, j4⟩ := hL6
                obtain ⟨na, hcn, hrn⟩ := cut_eq j2 (N + 2) l1.length (some (.int .i64 ((N : Int) + 2))) none (.inr ⟨_, by go_num⟩) (.inl ⟨rfl, rfl⟩) h4 (Nat.le_refl _)
                obtain ⟨ma, hcm, hrm⟩ := cut_eq j4 4 l2.length (some (.int .i64 4)) none (.inr ⟨_, rfl⟩) (.inl ⟨rfl, rfl⟩) h2 (Nat.le_refl _)
                have d1 := j1.cell
                have d2 := j3.cell
                have f1 := j1.free
                have f2 := j3.free
                gi_wp2
                gi_region
                have hrn' : RdB w na (l1.length - (N + 2)) (sc' - (N + 2)) (l1.drop (N + 2)) := by
                  rw [List.take_of_length_le (by simp)] at hrn; exact hrn
                have hrm' : RdB w ma (l2.length - 4) (fc' - 4) (l2.drop 4) := by
                  rw [List.take_of_length_le (by simp)] at hrm; exact hrm
                obtain ⟨hT7, hL7, hla7⟩ := Left.step hT6 j1 j3 hrn' hrm' hla6
                have hgo := join_go (HI.out.1 trivial)
                rw [List.drop_zero, List.drop_zero, HN.out, Nat.zero_add, Nat.zero_add, Nat.add_comm 2 N] at hgo
                have HG := Lib.hid hgo
                have HB7 := Lib.hid hL7.boxLen
                clear hgo j1 j2 j3 j4 hcn hrn hcm hrm d1 d2 f1 f2 hrn' hrm' hT6 hla6
                have E1 : Hid (joinOf st fo = (d ++ [bodyAt l1 0]) ++ joinOf (l1.drop (N + 2)) (l2.drop 4)) := by
                  show _ = _
                  rw [HJ.out, HG.out, List.append_assoc]; rfl
                have E2 : Hid (sOf (d ++ [bodyAt l1 0]) + (l1.drop (N + 2)).length = st.length) := by
                  show _ = _
                  rw [sOf_snoc, HB.out, List.length_drop, ← HS.out]; omega
                have E3 : Hid (4 * (d ++ [bodyAt l1 0]).length + (l2.drop 4).length = fo.length) := by
                  show _ = _
                  rw [List.length_append, List.length_drop, ← HD.out]; simp; omega
                go_roundw
                case rel =>
                  (repeat apply Exists.intro)
                  exact ⟨⟨d ++ [bodyAt l1 0], l1.drop (N + 2), l2.drop 4, hT7, hL7, hla7, E1, E2, E3⟩, rfl⟩
                case measure => rw [HB7.out, hbl.out, List.length_drop]; omega
              · exact hf.elim
          · have g4 : decide ((l1.length : Int) < (N : Int) + 2) = true := by simp; omega
            gi_wp2
            refine bodyPost_ret (results_none rfl _ _ _) rfl ?_
            exact ⟨⟨_, rfl⟩, .inl ⟨by rw [HE.out (fun h => h4 (by have := h.2.2.2.1; rw [HN.out] at this; omega))]; exact hT1, hla1⟩⟩
        · have g3 : decide ((8192 : Int) < (N : Int)) = true := by simp; omega
          gi_wp2
          refine bodyPost_ret (results_none rfl _ _ _) rfl ?_
          exact ⟨⟨_, rfl⟩, .inl ⟨by rw [HE.out (fun h => h3 (by have := h.2.2.1; rw [HN.out] at this; omega))]; exact hT1, hla1⟩⟩
      · have g1 : decide ((2 : Int) ≤ (l1.length : Int)) = true := by simp; omega
        have g2 : decide ((4 : Int) ≤ (l2.length : Int)) = false := by simp; omega
        gi_wp2
        go_end0
        exact ⟨⟨_, rfl⟩, .inl ⟨by rw [HE.out (fun h => h2 (by have := h.2.1; omega))]; exact hT, hla⟩⟩
    · have g1 : decide ((2 : Int) ≤ (l1.length : Int)) = false := by simp; omega
      gi_wp2
      go_end0
      exact ⟨⟨_, rfl⟩, .inl ⟨by rw [HE.out (fun h => h1 (by have := h.1; omega))]; exact hT, hla⟩⟩

set_option maxHeartbeats 2000000 in
theorem join_any (a : Option Addr) (n c : Nat) (st : List UInt8) (a' : Option Addr) (n' c' : Nat) (fo : List UInt8) (w : World) (hr : RdB w a n c st) (hr' : RdB w a' n' c' fo) (hn : n ≤ 16777216) (hn' : n' ≤ 16777216) :
    Calls Tryz.prog 22 #[.slice a n c, .slice a' n' c'] w fun e w' => ∃ oa oc, e = .returned (.tuple #[.slice oa (joinOf st fo).length oc, .int .i64 (sOf (joinOf st fo)), .int .i64 (4 * ((joinOf st fo).length : Int))]) ∧
      OwnBB w' w.heap.size oa (joinOf st fo).length oc (joinOf st fo) ∧ Below w.heap.size w w' := by
  have hl := hr.len
  have hl' := hr'.len
  have hst : st.length ≤ 16777216 := by omega
  have hfo : fo.length ≤ 16777216 := by omega
  subst hl
  subst hl'
  refine (callsIn_wide (n := 4)).1 ?_
  refine callsIn_of_wp_marks Tryz.func22 rfl trivial ?_
  simp only [Tryz.ntmps22, List.size_toArray, List.length_cons, List.length_nil, Nat.reduceAdd, Nat.reduceSub, Array.replicate_succ, Array.replicate_zero, List.push_toArray, List.append_toArray, List.nil_append, List.cons_append]
  gi_wp2_with (refine ⟨trivial, ?_⟩; gi_at_call 59; refine (callsIn_wide.2 (tallies_any _ _ ⟨_, _, _, rfl⟩ ⟨_, _, _, rfl⟩ _)).mono ?_; rintro e w' ⟨rfl, rfl⟩)
  have hsz : (((((w.alloc (.cells #[.slice none 0 0] 72)).alloc (.cells #[.int .i64 0] 3)).alloc (.cells #[.int .i64 0] 3)).alloc (.cells #[.slice a st.length c] 41)).alloc (.cells #[.slice a' fo.length c'] 41)).heap.size = w.heap.size + 5 := by simp
  have hbl : Below w.heap.size w (((((w.alloc (.cells #[.slice none 0 0] 72)).alloc (.cells #[.int .i64 0] 3)).alloc (.cells #[.int .i64 0] 3)).alloc (.cells #[.slice a st.length c] 41)).alloc (.cells #[.slice a' fo.length c'] 41)) :=
    (((((Below.refl _ _).alloc (Nat.le_refl _) _).alloc (by simp) _).alloc (by simp; omega) _).alloc (by simp; omega) _).alloc (by simp; omega) _
  have hT : Told w (((((w.alloc (.cells #[.slice none 0 0] 72)).alloc (.cells #[.int .i64 0] 3)).alloc (.cells #[.int .i64 0] 3)).alloc (.cells #[.slice a st.length c] 41)).alloc (.cells #[.slice a' fo.length c'] 41)) [] := by
    exact ⟨none, 0, ((((Box.new w _ _ rfl).alloc _).alloc _).alloc _).alloc _, OwnBB.nil _ _, (((Box.new _ _ _ (by simp)).alloc _).alloc _).alloc _, ((Box.new _ _ _ (by simp)).alloc _).alloc _, hbl, by rw [hsz]; omega⟩
  have hL : Left w (((((w.alloc (.cells #[.slice none 0 0] 72)).alloc (.cells #[.int .i64 0] 3)).alloc (.cells #[.int .i64 0] 3)).alloc (.cells #[.slice a st.length c] 41)).alloc (.cells #[.slice a' fo.length c'] 41)) st fo := by
    exact ⟨a, c, a', c', (Box.new _ _ _ (by simp)).alloc _, hr, Box.new _ _ _ (by simp), hr'⟩
  generalize (((((w.alloc (.cells #[.slice none 0 0] 72)).alloc (.cells #[.int .i64 0] 3)).alloc (.cells #[.int .i64 0] 3)).alloc (.cells #[.slice a st.length c] 41)).alloc (.cells #[.slice a' fo.length c'] 41)) = W5 at *
  refine wp_range_own (n := 3) (σ := YieldSt) (w := W5) (gf := 99) (lb := #[.pointer (some ⟨w.heap.size + 3, 0, none⟩), .pointer (some ⟨w.heap.size + 4, 0, none⟩)]) rfl (enters_of Tryz.func99 (by kernel_rfl) rfl)
    (fun s => #[.slice s.xa s.b.length s.xc]) (fun _ => rfl) (fun s W => AtYield w s W) (fun s W => Told w W (s.d ++ [s.b]) ∧ Left w W s.l1 s.l2) (fun _ _ _ => False) (fun W => Told w W (joinOf st fo)) (fun _ _ => False) ?hA ?hB ?hX ?hD ?hS
    (fun s => { tmps := #[.slice a st.length c, .slice a' fo.length c', undef, undef, .pointer (some ⟨w.heap.size, 0, none⟩), .pointer (some ⟨w.heap.size + 1, 0, none⟩), .pointer (some ⟨w.heap.size + 1 + 1, 0, none⟩), .slice s.xa s.b.length s.xc, .slice a st.length c, .slice a' fo.length c', .func (.func 99) #[] #[.pointer (some ⟨w.heap.size + 3, 0, none⟩), .pointer (some ⟨w.heap.size + 4, 0, none⟩)], .slice s.xa s.b.length s.xc, undef, undef, undef, undef, undef, undef, undef, undef, undef, undef, undef, undef, undef, undef], defers := [] })
    ?assign ?body ?iter ?done ?stop
  case hA =>
    rw [hsz]
    rintro s W o ⟨h1, h2, h3, h4⟩ hlp
    obtain ⟨r, hr⟩ := hlp
    exact ⟨h1.putObj o ⟨r, hr⟩, h2.putObj o, ownsRow_putObj h3 _ hr rfl, h4⟩
  case hB =>
    rw [hsz]
    rintro s W o ⟨h1, h2⟩ hlp
    exact ⟨h1.putObj o hlp, h2.putObj o⟩
  case hX => intro _ _ _ _ h _; exact h.elim
  case hD =>
    rw [hsz]
    intro W o h hlp
    exact h.putObj o hlp
  case hS => intro _ _ _ h _; exact h.elim
  case assign =>
    intro s W K hs hK
    gi_wp2
    exact hK
  case body =>
    rw [hsz]
    rintro s W ⟨⟨oa, oc, t1, t2, t3, t4, t5, t6⟩, hLf, hox, hb1, hb2, hb3⟩ hlp hdp
    have b1 := t1.cell
    have b2 := t3.cell
    have b3 := t4.cell
    have e1 := t1.free
    have e2 := t3.free
    have e3 := t4.free
    have hal := (Below.refl W.heap.size W).alloc (Nat.le_refl _) (Obj.cells #[Value.slice s.xa s.b.length s.xc] 41)
    have t2' := t2.below hal
    have hy' := own_below hox hal
    gi_wp2_with (gi_at_builtin; refine app_bb1In _ rfl _ _ rfl (w.heap.size + 5) _ _ _ s.d rfl t2' W.heap.size _ _ _ s.b rfl (cell_of_one (heap_alloc_new W _)) hy' (by omega) (by simp; omega) ?_; intro a5 c5 w5 ho5 hg5; refine Hid.out ?_)
    refine Lib.hid ?_
    have hW5 : Same (fun k => w.heap.size + 5 ≤ k) W w5 := (Same.of_below hal).trans (Same.of_grown hg5 (fun k hk => (t2.lt k hk).1))
    have hko : KeepsOthers W w5 := (KeepsOthers.alloc W _).trans (KeepsOthers.of_grownBy hg5 t2'.cells)
    have u1 := t1.same hW5 (by omega)
    have u2 := t3.same hW5 (by omega)
    have u3 := t4.same hW5 (by omega)
    have b1 := u1.cell
    have b2 := u2.cell
    have b3 := u3.cell
    have e1 := u1.free
    have e2 := u2.free
    have e3 := u3.free
    have hst := Told.step t1 t3 t4 t5 t6 hW5 ho5
    have hlf := hLf.step3 hW5 (.slice a5 (s.d.length + 1) c5) (.int .i64 ((sOf s.d : Int) + ((s.b.length : Int) + 2))) (.int .i64 (4 * (s.d.length : Int) + 4))
    clear hal t2' hy' hg5 ho5 u1 u2 u3 hW5 hox t1 t2 t3 t4
    gi_wp2
    exact ⟨((hko.trans (KeepsOthers.setCell _ _ _)).trans (KeepsOthers.setCell _ _ _)).trans (KeepsOthers.setCell _ _ _) |>.from _, hst, hlf⟩
  case iter =>
    intro rec hlr hY
    rw [hsz] at hlr hY ⊢
    have hbb := ((Below.refl W5.heap.size W5).alloc (Nat.le_refl _) (.deferred (some []))).alloc (by simp) (.loop (rec .ready none))
    exact iter_any 3 w st fo hst hfo rec _ (hT.below hbb) (hL.below hbb) hlr hY
  case done =>
    rw [hsz]
    rintro W ⟨oa, oc, t1, t2, t3, t4, t5, t6⟩ hK
    have b1 := t1.cell
    have b2 := t3.cell
    have b3 := t4.cell
    have e1 := t1.free
    have e2 := t3.free
    have e3 := t4.free
    gi_wp2
    gi_region
    have hS : Same (fun k => k = w.heap.size ∨ k = w.heap.size + 1 ∨ k = w.heap.size + 2) W (((W.setCell ⟨w.heap.size, 0, none⟩ (.slice oa (joinOf st fo).length oc)).setCell ⟨w.heap.size + 1, 0, none⟩ (.int .i64 (sOf (joinOf st fo)))).setCell ⟨w.heap.size + 1 + 1, 0, none⟩ (.int .i64 (4 * ((joinOf st fo).length : Int)))).drew := by
      have h := ((Same.setCell (S := fun k => k = w.heap.size ∨ k = w.heap.size + 1 ∨ k = w.heap.size + 2) (W := W) (.slice oa (joinOf st fo).length oc) (.inl rfl)).trans (Same.setCell (.int .i64 (sOf (joinOf st fo))) (.inr (.inl rfl)))).trans (Same.setCell (.int .i64 (4 * ((joinOf st fo).length : Int))) (.inr (.inr rfl)))
      exact ⟨h.os, h.tape, h.output, h.size, h.block⟩
    have r1 : Box (((W.setCell ⟨w.heap.size, 0, none⟩ (.slice oa (joinOf st fo).length oc)).setCell ⟨w.heap.size + 1, 0, none⟩ (.int .i64 (sOf (joinOf st fo)))).setCell ⟨w.heap.size + 1 + 1, 0, none⟩ (.int .i64 (4 * ((joinOf st fo).length : Int)))).drew w.heap.size 72 _ := ((t1.set _).set_other _ (by omega)).set_other _ (by omega)
    have r2 : Box (((W.setCell ⟨w.heap.size, 0, none⟩ (.slice oa (joinOf st fo).length oc)).setCell ⟨w.heap.size + 1, 0, none⟩ (.int .i64 (sOf (joinOf st fo)))).setCell ⟨w.heap.size + 1 + 1, 0, none⟩ (.int .i64 (4 * ((joinOf st fo).length : Int)))).drew (w.heap.size + 1) 3 _ := ((t3.set_other _ (by omega)).set _).set_other _ (by omega)
    have r3 : Box (((W.setCell ⟨w.heap.size, 0, none⟩ (.slice oa (joinOf st fo).length oc)).setCell ⟨w.heap.size + 1, 0, none⟩ (.int .i64 (sOf (joinOf st fo)))).setCell ⟨w.heap.size + 1 + 1, 0, none⟩ (.int .i64 (4 * ((joinOf st fo).length : Int)))).drew (w.heap.size + 1 + 1) 3 _ := ((t4.set_other _ (by omega)).set_other _ (by omega)).set _
    have hK' := (hS.block _ (Array.getElem?_eq_some_iff.1 hK).1 (by omega)).trans hK
    have ho' := t2.same hS (fun b cur fr hb => .inr (by omega)) (fun b cur fr hb => by
      rcases hb with rfl | rfl | rfl
      · rw [show W.heap[w.heap.size]? = _ from t1]; simp
      · rw [show W.heap[w.heap.size + 1]? = _ from t3]; simp
      · rw [show W.heap[w.heap.size + 2]? = _ from t4]; simp)
    have hb' := hS.below t5 t5.size (fun k e => by omega)
    generalize (((W.setCell ⟨w.heap.size, 0, none⟩ (.slice oa (joinOf st fo).length oc)).setCell ⟨w.heap.size + 1, 0, none⟩ (.int .i64 (sOf (joinOf st fo)))).setCell ⟨w.heap.size + 1 + 1, 0, none⟩ (.int .i64 (4 * ((joinOf st fo).length : Int)))).drew = W7 at *
    gi_wp2
    refine ⟨by simp, .inl ⟨_, _, rfl, run_takeDeferred hK', ?_⟩⟩
    have hp : Same (fun k => k = w.heap.size + 5) W7 (W7.putObj (w.heap.size + 5) (.deferred none)) := Same.of_grown (grownBy_putObj' W7 _ _) (fun k e => by cases e; rfl)
    have s1 := (r1.same hp (by omega)).cell
    have s2 := (r2.same hp (by omega)).cell
    have s3 := (r3.same hp (by omega)).cell
    have hb'' := hp.below hb' hb'.size (fun k e => by omega)
    have ho'' := ho'.same hp (fun b cur fr hb => .inl (by subst hb; rw [hK']; simp)) (fun b cur fr hb => by subst hb; rw [hK']; simp)
    generalize W7.putObj (w.heap.size + 5) (.deferred none) = W8 at *
    clear hS r1 r2 r3 hp
    refine ⟨.tuple #[.slice oa (joinOf st fo).length oc, .int .i64 (sOf (joinOf st fo)), .int .i64 (4 * ((joinOf st fo).length : Int))], ?_, oa, oc, rfl, ho''.mono (by omega), hb''⟩
    simp [results, Tryz.results22, go_sem, s1, s2, s3]
  case stop => intro c W h; exact h.elim
end Go.Proofs.YtpdmlklnbjegpaaGreat
