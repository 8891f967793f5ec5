/- The program's said. -/
import Derived.Test.YtpdmlklnbjegpaaGreatHis4
import Derived.Laws.ResultCell
namespace Go.Proofs.YtpdmlklnbjegpaaGreat
open Go.RowKit

/-- A note without the content of a kind; whether that content is right. -/
def saidN (k : Int) (n : NoteV) : NoteV :=
  if k = 1 then { n with hardLo := 0, hardHi := 0 } else if k = 2 then { n with turns := 0 } else if k = 3 then { n with stone := 0, a := 0, b := 0, diffLo := 0, diffHi := 0 }
  else if k = 4 then { n with stone := 0, ring := 0, strokes := [] } else if k = 5 ∨ k = 6 then { n with refH := 0, refN := 0 } else n
def cellB (f : FrV) (x : Int) : Bool := inB x 0 (f.rings * f.sectors - 1)
def saidB (f : FrV) (k : Int) (n : NoteV) : Bool :=
  if k = 1 then spansB n.hardLo n.hardHi 1 255 else if k = 2 then inB n.turns 1 10000
  else if k = 3 then inB n.stone 0 1 && (cellB f n.a && ((decide (n.b = -1) || cellB f n.b) && (decide (n.a ≠ n.b) && spansB n.diffLo n.diffHi (-1000000000) 1000000000)))
  else if k = 4 then inB n.stone 0 1 && (inB n.ring 0 (f.rings - 1) && strokesB (f.sectors - f.wide) n.strokes)
  else if k = 5 ∨ k = 6 then rightNameB n.refH n.refN else false

theorem wpList_store_rowN {P : Program} {ops : Array Oper} {rest : List Oper} {op : Oper} {a : Act} {w : World} {Q : Exit → Act → World → Prop} (hgd : op.guard = none) (ty : TypeId) (x y : Operand) (ho : op.op = .store ty x y) (p : Nat)
    (c c' : Array Value) (t : TypeId) (hx : a.eval x = .pointer (some ⟨p, 0, none⟩)) (hy : a.eval y = .agg c') (hg : w.heap[p]? = some (.cells c t (0, 0))) (hi : (P.info? ty).map (·.size) = some c'.size) (hc : c.size = c'.size) (h1 : c'.all (·.oneCell') = true)
    (h : wpList P ops Q rest (a.put op.dst undef) (w.setRow p c')) : wpList P ops Q (op :: rest) a w := by
  refine wpList_plain hgd fun K hK => ?_
  unfold Oper.wp execOp
  simp only [ho, hx, hy, Instr.storeAt, Instr.sureAddr, Sem.run_bind, Sem.run_pure, Result.andThen_ok, run_storeVar_row w p t ty c c' hg hi hc h1]
  exact hK _ _ h
/-- Four blocks made one behind the other. -/
theorem four_blocks (w : World) (A B C D : Obj) : (((((w.alloc A).alloc B).alloc C).alloc D).heap[w.heap.size]? = some A ∧ ((((w.alloc A).alloc B).alloc C).alloc D).heap[w.heap.size + 1]? = some B ∧
    ((((w.alloc A).alloc B).alloc C).alloc D).heap[w.heap.size + 1 + 1]? = some C ∧ ((((w.alloc A).alloc B).alloc C).alloc D).heap[w.heap.size + 1 + 1 + 1]? = some D) ∧
    Below w.heap.size w ((((w.alloc A).alloc B).alloc C).alloc D) ∧ w.heap.size + 1 + 1 + 1 < ((((w.alloc A).alloc B).alloc C).alloc D).heap.size := by
  refine ⟨⟨?_, ?_, ?_, ?_⟩, ?_, ?_⟩
  · exact heap_before _ _ _ _ (heap_before _ _ _ _ (heap_before _ _ _ _ (heap_at _ _ _ rfl)))
  · exact heap_before _ _ _ _ (heap_before _ _ _ _ (heap_at _ _ _ (by simp)))
  · exact heap_before _ _ _ _ (heap_at _ _ _ (by simp))
  · exact heap_at _ _ _ (by simp)
  · exact ((((Below.refl _ _).alloc (Nat.le_refl _) _).alloc (by simp) _).alloc (by simp; omega) _).alloc (by simp; omega) _
  · simp
theorem as0_0 (v : Value) (w : World) : (Instr.typeAssert (.iface 198 v) 195 198 true).run Tryz.prog w = .ok (.tuple #[v, .bool true]) w := by kernel_rfl
theorem as0_1 (v : Value) (w : World) : (Instr.typeAssert (.iface 198 v) 195 201 true).run Tryz.prog w = .ok (.tuple #[.agg #[.int .i64 0], .bool false]) w := by kernel_rfl
theorem as0_2 (v : Value) (w : World) : (Instr.typeAssert (.iface 198 v) 195 203 true).run Tryz.prog w = .ok (.tuple #[.agg #[.int .i64 0, .int .i64 0, .int .i64 0], .bool false]) w := by kernel_rfl
theorem as0_3 (v : Value) (w : World) : (Instr.typeAssert (.iface 198 v) 195 206 true).run Tryz.prog w = .ok (.tuple #[.agg #[.int .i64 0, .int .i64 0], .bool false]) w := by kernel_rfl
theorem as0_4 (v : Value) (w : World) : (Instr.typeAssert (.iface 198 v) 195 208 true).run Tryz.prog w = .ok (.tuple #[.agg #[.int .i64 0, .int .i64 0], .bool false]) w := by kernel_rfl
theorem as1_0 (v : Value) (w : World) : (Instr.typeAssert (.iface 201 v) 195 198 true).run Tryz.prog w = .ok (.tuple #[.agg #[.int .i64 0, .int .i64 0], .bool false]) w := by kernel_rfl
theorem as1_1 (v : Value) (w : World) : (Instr.typeAssert (.iface 201 v) 195 201 true).run Tryz.prog w = .ok (.tuple #[v, .bool true]) w := by kernel_rfl
theorem as1_2 (v : Value) (w : World) : (Instr.typeAssert (.iface 201 v) 195 203 true).run Tryz.prog w = .ok (.tuple #[.agg #[.int .i64 0, .int .i64 0, .int .i64 0], .bool false]) w := by kernel_rfl
theorem as1_3 (v : Value) (w : World) : (Instr.typeAssert (.iface 201 v) 195 206 true).run Tryz.prog w = .ok (.tuple #[.agg #[.int .i64 0, .int .i64 0], .bool false]) w := by kernel_rfl
theorem as1_4 (v : Value) (w : World) : (Instr.typeAssert (.iface 201 v) 195 208 true).run Tryz.prog w = .ok (.tuple #[.agg #[.int .i64 0, .int .i64 0], .bool false]) w := by kernel_rfl
theorem as2_0 (v : Value) (w : World) : (Instr.typeAssert (.iface 203 v) 195 198 true).run Tryz.prog w = .ok (.tuple #[.agg #[.int .i64 0, .int .i64 0], .bool false]) w := by kernel_rfl
theorem as2_1 (v : Value) (w : World) : (Instr.typeAssert (.iface 203 v) 195 201 true).run Tryz.prog w = .ok (.tuple #[.agg #[.int .i64 0], .bool false]) w := by kernel_rfl
theorem as2_2 (v : Value) (w : World) : (Instr.typeAssert (.iface 203 v) 195 203 true).run Tryz.prog w = .ok (.tuple #[v, .bool true]) w := by kernel_rfl
theorem as2_3 (v : Value) (w : World) : (Instr.typeAssert (.iface 203 v) 195 206 true).run Tryz.prog w = .ok (.tuple #[.agg #[.int .i64 0, .int .i64 0], .bool false]) w := by kernel_rfl
theorem as2_4 (v : Value) (w : World) : (Instr.typeAssert (.iface 203 v) 195 208 true).run Tryz.prog w = .ok (.tuple #[.agg #[.int .i64 0, .int .i64 0], .bool false]) w := by kernel_rfl
theorem as3_0 (v : Value) (w : World) : (Instr.typeAssert (.iface 206 v) 195 198 true).run Tryz.prog w = .ok (.tuple #[.agg #[.int .i64 0, .int .i64 0], .bool false]) w := by kernel_rfl
theorem as3_1 (v : Value) (w : World) : (Instr.typeAssert (.iface 206 v) 195 201 true).run Tryz.prog w = .ok (.tuple #[.agg #[.int .i64 0], .bool false]) w := by kernel_rfl
theorem as3_2 (v : Value) (w : World) : (Instr.typeAssert (.iface 206 v) 195 203 true).run Tryz.prog w = .ok (.tuple #[.agg #[.int .i64 0, .int .i64 0, .int .i64 0], .bool false]) w := by kernel_rfl
theorem as3_3 (v : Value) (w : World) : (Instr.typeAssert (.iface 206 v) 195 206 true).run Tryz.prog w = .ok (.tuple #[v, .bool true]) w := by kernel_rfl
theorem as3_4 (v : Value) (w : World) : (Instr.typeAssert (.iface 206 v) 195 208 true).run Tryz.prog w = .ok (.tuple #[.agg #[.int .i64 0, .int .i64 0], .bool false]) w := by kernel_rfl
theorem as4_0 (v : Value) (w : World) : (Instr.typeAssert (.iface 208 v) 195 198 true).run Tryz.prog w = .ok (.tuple #[.agg #[.int .i64 0, .int .i64 0], .bool false]) w := by kernel_rfl
theorem as4_1 (v : Value) (w : World) : (Instr.typeAssert (.iface 208 v) 195 201 true).run Tryz.prog w = .ok (.tuple #[.agg #[.int .i64 0], .bool false]) w := by kernel_rfl
theorem as4_2 (v : Value) (w : World) : (Instr.typeAssert (.iface 208 v) 195 203 true).run Tryz.prog w = .ok (.tuple #[.agg #[.int .i64 0, .int .i64 0, .int .i64 0], .bool false]) w := by kernel_rfl
theorem as4_3 (v : Value) (w : World) : (Instr.typeAssert (.iface 208 v) 195 206 true).run Tryz.prog w = .ok (.tuple #[.agg #[.int .i64 0, .int .i64 0], .bool false]) w := by kernel_rfl
theorem as4_4 (v : Value) (w : World) : (Instr.typeAssert (.iface 208 v) 195 208 true).run Tryz.prog w = .ok (.tuple #[v, .bool true]) w := by kernel_rfl
theorem asn_0 (w : World) : (Instr.typeAssert .nilIface 195 198 true).run Tryz.prog w = .ok (.tuple #[.agg #[.int .i64 0, .int .i64 0], .bool false]) w := by kernel_rfl
theorem asn_1 (w : World) : (Instr.typeAssert .nilIface 195 201 true).run Tryz.prog w = .ok (.tuple #[.agg #[.int .i64 0], .bool false]) w := by kernel_rfl
theorem asn_2 (w : World) : (Instr.typeAssert .nilIface 195 203 true).run Tryz.prog w = .ok (.tuple #[.agg #[.int .i64 0, .int .i64 0, .int .i64 0], .bool false]) w := by kernel_rfl
theorem asn_3 (w : World) : (Instr.typeAssert .nilIface 195 206 true).run Tryz.prog w = .ok (.tuple #[.agg #[.int .i64 0, .int .i64 0], .bool false]) w := by kernel_rfl
theorem asn_4 (w : World) : (Instr.typeAssert .nilIface 195 208 true).run Tryz.prog w = .ok (.tuple #[.agg #[.int .i64 0, .int .i64 0], .bool false]) w := by kernel_rfl
theorem note_frozen {W : World} {p : Nat} {A : Array Value} {t : TypeId} (h1 : W.heap[p]? = some (.cells A t (0, 0))) (j : Nat) : W.frozen? ⟨p, j, none⟩ = false := by simp [World.frozen?, h1]

theorem results_cell_row_tmp {P : Program} {fn : Func} {p u : Tmp} {ty : TypeId} (h : fn.results = #[.cell p ty, .tmp u]) (tmps : Array Value) (w : World) (g : Nat) (t : TypeId) (cs : Array Value) (fr : Nat × Nat) (d : TypeDesc)
    (hp : tmps.getD p undef = .pointer (some ⟨g, 0, none⟩)) (hg : w.heap[g]? = some (.cells cs t fr)) (hu : P.underlying ty = some d) (hd : (match d with | .struct _ | .array _ _ => true | _ => false) = true) (hi : (P.info? ty).map (·.size) = some cs.size) :
    (results fn tmps).run P w = .ok (.tuple #[.agg cs, tmps.getD u undef]) w := by
  rw [results_cell_tmp h, hp]
  simp [asAddr, run_loadVar_row w g t ty cs fr d hg hu hd hi]
/-- The four blocks that said makes first: the frame, the note, the result, and what is left (its cells are C). -/
structure Loc (w W : World) (p0 p1 p2 p3 : Nat) (f : FrV) (n : NoteV) (sa : Option Addr) (sc : Nat) (C : Array Value) : Prop where
  e0 : W.heap[p0]? = some (.cells #[.int .i64 f.rings, .int .i64 f.sectors, .int .i64 f.wide] 131 (0, 0))
  e1 : W.heap[p1]? = some (.cells (noteA n sa sc) 47 (0, 0))
  e2 : W.heap[p2]? = some (.cells (noteA zeroN none 0) 47 (0, 0))
  e3 : W.heap[p3]? = some (.cells C 47 (0, 0))
  b : Below p0 w W
  lt : p0 < p1 ∧ p1 < p2 ∧ p2 < p3
theorem Loc.below {w W W' : World} {p0 p1 p2 p3 : Nat} {f : FrV} {n : NoteV} {sa : Option Addr} {sc : Nat} {C : Array Value} (h : Loc w W p0 p1 p2 p3 f n sa sc C) (hb : Below W.heap.size W W') : Loc w W' p0 p1 p2 p3 f n sa sc C := by
  have g : ∀ {k : Nat} {o : Obj}, W.heap[k]? = some o → W'.heap[k]? = some o := fun {k o} hk => (hb.block k (Array.getElem?_eq_some_iff.1 hk).1).trans hk
  have h0 := (Array.getElem?_eq_some_iff.1 h.e0).1
  exact ⟨g h.e0, g h.e1, g h.e2, g h.e3, h.b.trans (hb.mono (by omega)), h.lt⟩
theorem Loc.alloc {w W : World} {p0 p1 p2 p3 : Nat} {f : FrV} {n : NoteV} {sa : Option Addr} {sc : Nat} {C : Array Value} (h : Loc w W p0 p1 p2 p3 f n sa sc C) (o : Obj) : Loc w (W.alloc o) p0 p1 p2 p3 f n sa sc C := h.below ((Below.refl _ _).alloc (Nat.le_refl _) _)
theorem Loc.set {w W : World} {p0 p1 p2 p3 : Nat} {f : FrV} {n : NoteV} {sa : Option Addr} {sc : Nat} {C : Array Value} (h : Loc w W p0 p1 p2 p3 f n sa sc C) (j : Nat) (v : Value) : Loc w (W.setCell ⟨p3, j, none⟩ v) p0 p1 p2 p3 f n sa sc (C.setIfInBounds j v) := by
  have g : ∀ {k : Nat}, k ≠ p3 → (W.setCell ⟨p3, j, none⟩ v).heap[k]? = W.heap[k]? := fun {k} hk => Below.heap_setCell W ⟨p3, j, none⟩ v k hk
  have hl := h.lt
  refine ⟨(g (by omega)).trans h.e0, (g (by omega)).trans h.e1, (g (by omega)).trans h.e2, heap_setCell_same W p3 j C 47 v h.e3, h.b.trans ⟨rfl, rfl, rfl, by simp [World.setCell], fun k hk => g (by omega)⟩, h.lt⟩
theorem Loc.done {w W : World} {p0 p1 p2 p3 : Nat} {f : FrV} {n : NoteV} {sa : Option Addr} {sc : Nat} {C : Array Value} (h : Loc w W p0 p1 p2 p3 f n sa sc C) (C' : Array Value) : (W.setRow p2 C').heap[p2]? = some (.cells C' 47 (0, 0)) ∧ Below p0 w (W.setRow p2 C') := by
  have hl := h.lt
  exact ⟨setRow_heap W p2 _ C' _ _ h.e2, h.b.trans ⟨rfl, rfl, rfl, by simp, fun k hk => setRow_other W p2 k C' (by omega)⟩⟩

section
attribute [local go_sem] as0_0 as0_1 as0_2 as0_3 as0_4 as1_0 as1_1 as1_2 as1_3 as1_4 as2_0 as2_1 as2_2 as2_3 as2_4 as3_0 as3_1 as3_2 as3_3 as3_4 as4_0 as4_1 as4_2 as4_3 as4_4 asn_0 asn_1 asn_2 asn_3 asn_4 noteA_0 noteA_1 noteA_2 noteA_3 noteA_4 noteA_5 noteA_6 noteA_7 noteA_8 noteA_9 noteA_10 noteA_11 noteA_12 noteA_13 noteA_14 noteA_15 noteA_16 noteA_17 noteA_18 noteA_s0 noteA_s1 noteA_s2 noteA_s3 noteA_s4 noteA_s5 noteA_s6 noteA_s7 noteA_s8 noteA_s9 noteA_s10 noteA_s11 noteA_s12 noteA_s13 noteA_s14 noteA_s15 noteA_s16 noteA_s17 noteA_s18
variable (f : FrV) (n : NoteV) (sa : Option Addr) (sc : Nat) (w : World)
set_option maxHeartbeats 1000000 in
set_option maxRecDepth 100000 in
theorem said1 : Calls Tryz.prog 101 #[f.val, .int .i64 1, .agg (noteA n sa sc)] w fun e w' => e = .returned (.tuple #[.agg (noteA (saidN 1 n) sa sc), .bool (saidB f 1 n)]) ∧ Below w.heap.size w w' := by
  have i43 : (Tryz.prog.info? 47).map (·.size) = some (noteA n sa sc).size := by kernel_rfl
  have h43 := noteA_one n sa sc
  have I43 := Lib.hid i43; clear i43
  have s1 : (w.alloc (.cells #[.int .i64 f.rings, .int .i64 f.sectors, .int .i64 f.wide] 131)).heap.size = w.heap.size + 1 := by simp
  have g5 := fun Z => heap_before ((w.alloc (.cells #[.int .i64 f.rings, .int .i64 f.sectors, .int .i64 f.wide] 131)).alloc (.cells (noteA n sa sc) 47)) Z _ _ (heap_at (w.alloc (.cells #[.int .i64 f.rings, .int .i64 f.sectors, .int .i64 f.wide] 131)) (.cells (noteA n sa sc) 47) _ s1)
  have g5' := fun Z Y => heap_before _ Y _ _ (g5 Z)
  have G5 := Lib.hid g5; clear g5 s1
  have G5' := Lib.hid g5'; clear g5'
  have FB := Lib.hid (four_blocks w (.cells #[.int .i64 f.rings, .int .i64 f.sectors, .int .i64 f.wide] 131) (.cells (noteA n sa sc) 47) (.cells (noteA zeroN none 0) 47) (.cells (noteA n sa sc) 47))
  unfold FrV.val
  go_enter Tryz.func101, Tryz.ntmps101
  go_wp2_with (first
    | (refine wpList_load_row rfl 47 _ rfl (w.heap.size + 1) rfl 47 (noteA n sa sc) (0, 0) _ ?hg Tryz.underlying47 rfl I43.out ?_; case hg => (first | exact G5.out _ | exact G5'.out _ _))
    | (refine wpList_store_newp _ rfl 47 _ _ rfl (w.heap.size + 3) ?hp _ (noteA n sa sc) rfl rfl I43.out rfl h43 ?_; case hp => simp))
  simp only [← noteA_zero]
  clear G5 G5'
  generalize hW : (((w.alloc (.cells #[.int .i64 f.rings, .int .i64 f.sectors, .int .i64 f.wide] 131)).alloc (.cells (noteA n sa sc) 47)).alloc (.cells (noteA zeroN none 0) 47)).alloc (.cells (noteA n sa sc) 47) = W0 at *
  obtain ⟨⟨e0, e1, e2, e3⟩, hb0, hp3⟩ := FB.out
  clear hW FB
  generalize hp0 : w.heap.size = p0 at *
  generalize hp1 : p0 + 1 = p1 at *
  generalize hp2 : p1 + 1 = p2 at *
  generalize hp3e : p2 + 1 = p3 at *
  have OR := Lib.hid (show p0 < p1 ∧ p1 < p2 ∧ p2 < p3 ∧ p3 < W0.heap.size by omega)
  have HP0 := Lib.hid hp0
  clear hp0 hp1 hp2 hp3e hp3
  refine (content1 n sa sc _).mono ?_
  rintro e w1 ⟨rfl, b1⟩
  have L1 := Lib.hid ((Loc.mk e0 e1 e2 e3 hb0 (by have := OR.out; omega) : Loc w W0 p0 p1 p2 p3 f n sa sc (noteA n sa sc)).below b1)
  clear OR b1 hb0 e0 e1 e2 e3
  have hlt3 : p3 < w1.heap.size := (Array.getElem?_eq_some_iff.1 L1.out.e3).1
  have hlt1 : p1 < w1.heap.size := (Array.getElem?_eq_some_iff.1 L1.out.e1).1
  have hlt0 : p0 < w1.heap.size := (Array.getElem?_eq_some_iff.1 L1.out.e0).1
  have k8 := note_cells L1.out.e3 8 _ rfl
  simp only [Nat.zero_add] at k8
  have f8 := note_frozen L1.out.e3 8
  have k9 := note_cells L1.out.e3 9 _ rfl
  simp only [Nat.zero_add] at k9
  have f9 := note_frozen L1.out.e3 9
  go_wp2_with fail
  generalize hWx : (((w1.setCell ⟨p3, 8, none⟩ (.int .i64 0)).setCell ⟨p3, 9, none⟩ (.int .i64 0)).alloc (.cells #[.int .i64 n.hardLo, .int .i64 n.hardHi] 198)) = Wx at *
  have L2 := Lib.hid (show Loc w Wx p0 p1 p2 p3 f n sa sc (noteA (saidN 1 n) sa sc) from by rw [← hWx]; exact (((L1.out.set 8 (.int .i64 0)).set 9 (.int .i64 0)).alloc (.cells #[.int .i64 n.hardLo, .int .i64 n.hardHi] 198)))
  clear hWx L1
  refine (spans_any n.hardLo n.hardHi 1 255 _).mono ?_
  rintro e w3 ⟨rfl, b3⟩
  have L3 := Lib.hid (L2.out.below b3)
  have i43' : (Tryz.prog.info? 47).map (·.size) = some (noteA (saidN 1 n) sa sc).size := by kernel_rfl
  have o43' := noteA_one (saidN 1 n) sa sc
  have I43' := Lib.hid i43'; clear i43'
  have DN := Lib.hid (L3.out.done (noteA (saidN 1 n) sa sc))
  go_wp2_with (first
    | (refine wpList_load_row rfl 47 _ rfl p3 rfl 47 (noteA (saidN 1 n) sa sc) (0, 0) _ L3.out.e3 Tryz.underlying47 rfl I43'.out ?_)
    | (refine wpList_store_rowN rfl 47 _ _ rfl p2 (noteA zeroN none 0) (noteA (saidN 1 n) sa sc) 47 rfl rfl L3.out.e2 I43'.out rfl o43' ?_))
  (try simp only [Exit.inBlock, Exit.then])
  refine bodyPost_ret (results_cell_row_tmp rfl _ _ p2 47 (noteA (saidN 1 n) sa sc) (0, 0) _ rfl DN.out.1 Tryz.underlying47 rfl I43'.out) rfl ?_
  exact ⟨rfl, by rw [HP0.out]; exact DN.out.2⟩
set_option maxHeartbeats 1000000 in
set_option maxRecDepth 100000 in
theorem said2 : Calls Tryz.prog 101 #[f.val, .int .i64 2, .agg (noteA n sa sc)] w fun e w' => e = .returned (.tuple #[.agg (noteA (saidN 2 n) sa sc), .bool (saidB f 2 n)]) ∧ Below w.heap.size w w' := by
  have i43 : (Tryz.prog.info? 47).map (·.size) = some (noteA n sa sc).size := by kernel_rfl
  have h43 := noteA_one n sa sc
  have I43 := Lib.hid i43; clear i43
  have s1 : (w.alloc (.cells #[.int .i64 f.rings, .int .i64 f.sectors, .int .i64 f.wide] 131)).heap.size = w.heap.size + 1 := by simp
  have g5 := fun Z => heap_before ((w.alloc (.cells #[.int .i64 f.rings, .int .i64 f.sectors, .int .i64 f.wide] 131)).alloc (.cells (noteA n sa sc) 47)) Z _ _ (heap_at (w.alloc (.cells #[.int .i64 f.rings, .int .i64 f.sectors, .int .i64 f.wide] 131)) (.cells (noteA n sa sc) 47) _ s1)
  have g5' := fun Z Y => heap_before _ Y _ _ (g5 Z)
  have G5 := Lib.hid g5; clear g5 s1
  have G5' := Lib.hid g5'; clear g5'
  have FB := Lib.hid (four_blocks w (.cells #[.int .i64 f.rings, .int .i64 f.sectors, .int .i64 f.wide] 131) (.cells (noteA n sa sc) 47) (.cells (noteA zeroN none 0) 47) (.cells (noteA n sa sc) 47))
  unfold FrV.val
  go_enter Tryz.func101, Tryz.ntmps101
  go_wp2_with (first
    | (refine wpList_load_row rfl 47 _ rfl (w.heap.size + 1) rfl 47 (noteA n sa sc) (0, 0) _ ?hg Tryz.underlying47 rfl I43.out ?_; case hg => (first | exact G5.out _ | exact G5'.out _ _))
    | (refine wpList_store_newp _ rfl 47 _ _ rfl (w.heap.size + 3) ?hp _ (noteA n sa sc) rfl rfl I43.out rfl h43 ?_; case hp => simp))
  simp only [← noteA_zero]
  clear G5 G5'
  generalize hW : (((w.alloc (.cells #[.int .i64 f.rings, .int .i64 f.sectors, .int .i64 f.wide] 131)).alloc (.cells (noteA n sa sc) 47)).alloc (.cells (noteA zeroN none 0) 47)).alloc (.cells (noteA n sa sc) 47) = W0 at *
  obtain ⟨⟨e0, e1, e2, e3⟩, hb0, hp3⟩ := FB.out
  clear hW FB
  generalize hp0 : w.heap.size = p0 at *
  generalize hp1 : p0 + 1 = p1 at *
  generalize hp2 : p1 + 1 = p2 at *
  generalize hp3e : p2 + 1 = p3 at *
  have OR := Lib.hid (show p0 < p1 ∧ p1 < p2 ∧ p2 < p3 ∧ p3 < W0.heap.size by omega)
  have HP0 := Lib.hid hp0
  clear hp0 hp1 hp2 hp3e hp3
  refine (content2 n sa sc _).mono ?_
  rintro e w1 ⟨rfl, b1⟩
  have L1 := Lib.hid ((Loc.mk e0 e1 e2 e3 hb0 (by have := OR.out; omega) : Loc w W0 p0 p1 p2 p3 f n sa sc (noteA n sa sc)).below b1)
  clear OR b1 hb0 e0 e1 e2 e3
  have hlt3 : p3 < w1.heap.size := (Array.getElem?_eq_some_iff.1 L1.out.e3).1
  have hlt1 : p1 < w1.heap.size := (Array.getElem?_eq_some_iff.1 L1.out.e1).1
  have hlt0 : p0 < w1.heap.size := (Array.getElem?_eq_some_iff.1 L1.out.e0).1
  have k7 := note_cells L1.out.e3 7 _ rfl
  simp only [Nat.zero_add] at k7
  have f7 := note_frozen L1.out.e3 7
  go_wp2_with fail
  generalize hWx : ((w1.setCell ⟨p3, 7, none⟩ (.int .i64 0)).alloc (.cells #[.int .i64 n.turns] 201)) = Wx at *
  have L2 := Lib.hid (show Loc w Wx p0 p1 p2 p3 f n sa sc (noteA (saidN 2 n) sa sc) from by rw [← hWx]; exact ((L1.out.set 7 (.int .i64 0)).alloc (.cells #[.int .i64 n.turns] 201)))
  clear hWx L1
  refine (hin_any n.turns 1 10000 _).mono ?_
  rintro e w3 ⟨rfl, rfl⟩
  have i43' : (Tryz.prog.info? 47).map (·.size) = some (noteA (saidN 2 n) sa sc).size := by kernel_rfl
  have o43' := noteA_one (saidN 2 n) sa sc
  have I43' := Lib.hid i43'; clear i43'
  have DN := Lib.hid (L2.out.done (noteA (saidN 2 n) sa sc))
  go_wp2_with (first
    | (refine wpList_load_row rfl 47 _ rfl p3 rfl 47 (noteA (saidN 2 n) sa sc) (0, 0) _ L2.out.e3 Tryz.underlying47 rfl I43'.out ?_)
    | (refine wpList_store_rowN rfl 47 _ _ rfl p2 (noteA zeroN none 0) (noteA (saidN 2 n) sa sc) 47 rfl rfl L2.out.e2 I43'.out rfl o43' ?_))
  (try simp only [Exit.inBlock, Exit.then])
  refine bodyPost_ret (results_cell_row_tmp rfl _ _ p2 47 (noteA (saidN 2 n) sa sc) (0, 0) _ rfl DN.out.1 Tryz.underlying47 rfl I43'.out) rfl ?_
  exact ⟨rfl, by rw [HP0.out]; exact DN.out.2⟩
set_option maxHeartbeats 1000000 in
set_option maxRecDepth 100000 in
theorem said5 : Calls Tryz.prog 101 #[f.val, .int .i64 5, .agg (noteA n sa sc)] w fun e w' => e = .returned (.tuple #[.agg (noteA (saidN 5 n) sa sc), .bool (saidB f 5 n)]) ∧ Below w.heap.size w w' := by
  have i43 : (Tryz.prog.info? 47).map (·.size) = some (noteA n sa sc).size := by kernel_rfl
  have h43 := noteA_one n sa sc
  have I43 := Lib.hid i43; clear i43
  have s1 : (w.alloc (.cells #[.int .i64 f.rings, .int .i64 f.sectors, .int .i64 f.wide] 131)).heap.size = w.heap.size + 1 := by simp
  have g5 := fun Z => heap_before ((w.alloc (.cells #[.int .i64 f.rings, .int .i64 f.sectors, .int .i64 f.wide] 131)).alloc (.cells (noteA n sa sc) 47)) Z _ _ (heap_at (w.alloc (.cells #[.int .i64 f.rings, .int .i64 f.sectors, .int .i64 f.wide] 131)) (.cells (noteA n sa sc) 47) _ s1)
  have g5' := fun Z Y => heap_before _ Y _ _ (g5 Z)
  have G5 := Lib.hid g5; clear g5 s1
  have G5' := Lib.hid g5'; clear g5'
  have FB := Lib.hid (four_blocks w (.cells #[.int .i64 f.rings, .int .i64 f.sectors, .int .i64 f.wide] 131) (.cells (noteA n sa sc) 47) (.cells (noteA zeroN none 0) 47) (.cells (noteA n sa sc) 47))
  unfold FrV.val
  go_enter Tryz.func101, Tryz.ntmps101
  go_wp2_with (first
    | (refine wpList_load_row rfl 47 _ rfl (w.heap.size + 1) rfl 47 (noteA n sa sc) (0, 0) _ ?hg Tryz.underlying47 rfl I43.out ?_; case hg => (first | exact G5.out _ | exact G5'.out _ _))
    | (refine wpList_store_newp _ rfl 47 _ _ rfl (w.heap.size + 3) ?hp _ (noteA n sa sc) rfl rfl I43.out rfl h43 ?_; case hp => simp))
  simp only [← noteA_zero]
  clear G5 G5'
  generalize hW : (((w.alloc (.cells #[.int .i64 f.rings, .int .i64 f.sectors, .int .i64 f.wide] 131)).alloc (.cells (noteA n sa sc) 47)).alloc (.cells (noteA zeroN none 0) 47)).alloc (.cells (noteA n sa sc) 47) = W0 at *
  obtain ⟨⟨e0, e1, e2, e3⟩, hb0, hp3⟩ := FB.out
  clear hW FB
  generalize hp0 : w.heap.size = p0 at *
  generalize hp1 : p0 + 1 = p1 at *
  generalize hp2 : p1 + 1 = p2 at *
  generalize hp3e : p2 + 1 = p3 at *
  have OR := Lib.hid (show p0 < p1 ∧ p1 < p2 ∧ p2 < p3 ∧ p3 < W0.heap.size by omega)
  have HP0 := Lib.hid hp0
  clear hp0 hp1 hp2 hp3e hp3
  refine (content5 n sa sc _).mono ?_
  rintro e w1 ⟨rfl, b1⟩
  have L1 := Lib.hid ((Loc.mk e0 e1 e2 e3 hb0 (by have := OR.out; omega) : Loc w W0 p0 p1 p2 p3 f n sa sc (noteA n sa sc)).below b1)
  clear OR b1 hb0 e0 e1 e2 e3
  have hlt3 : p3 < w1.heap.size := (Array.getElem?_eq_some_iff.1 L1.out.e3).1
  have hlt1 : p1 < w1.heap.size := (Array.getElem?_eq_some_iff.1 L1.out.e1).1
  have hlt0 : p0 < w1.heap.size := (Array.getElem?_eq_some_iff.1 L1.out.e0).1
  have k16 := note_cells L1.out.e3 16 _ rfl
  simp only [Nat.zero_add] at k16
  have f16 := note_frozen L1.out.e3 16
  have k17 := note_cells L1.out.e3 17 _ rfl
  simp only [Nat.zero_add] at k17
  have f17 := note_frozen L1.out.e3 17
  go_wp2_with fail
  generalize hWx : (((w1.setCell ⟨p3, 16, none⟩ (.int .i64 0)).setCell ⟨p3, 17, none⟩ (.int .i64 0)).alloc (.cells #[.int .i64 n.refH, .int .i64 n.refN] 208)) = Wx at *
  have L2 := Lib.hid (show Loc w Wx p0 p1 p2 p3 f n sa sc (noteA (saidN 5 n) sa sc) from by rw [← hWx]; exact (((L1.out.set 16 (.int .i64 0)).set 17 (.int .i64 0)).alloc (.cells #[.int .i64 n.refH, .int .i64 n.refN] 208)))
  clear hWx L1
  refine (rightName_any n.refH n.refN _).mono ?_
  rintro e w3 ⟨rfl, b3⟩
  have L3 := Lib.hid (L2.out.below b3)
  have i43' : (Tryz.prog.info? 47).map (·.size) = some (noteA (saidN 5 n) sa sc).size := by kernel_rfl
  have o43' := noteA_one (saidN 5 n) sa sc
  have I43' := Lib.hid i43'; clear i43'
  have DN := Lib.hid (L3.out.done (noteA (saidN 5 n) sa sc))
  go_wp2_with (first
    | (refine wpList_load_row rfl 47 _ rfl p3 rfl 47 (noteA (saidN 5 n) sa sc) (0, 0) _ L3.out.e3 Tryz.underlying47 rfl I43'.out ?_)
    | (refine wpList_store_rowN rfl 47 _ _ rfl p2 (noteA zeroN none 0) (noteA (saidN 5 n) sa sc) 47 rfl rfl L3.out.e2 I43'.out rfl o43' ?_))
  (try simp only [Exit.inBlock, Exit.then])
  refine bodyPost_ret (results_cell_row_tmp rfl _ _ p2 47 (noteA (saidN 5 n) sa sc) (0, 0) _ rfl DN.out.1 Tryz.underlying47 rfl I43'.out) rfl ?_
  exact ⟨rfl, by rw [HP0.out]; exact DN.out.2⟩
set_option maxHeartbeats 1000000 in
set_option maxRecDepth 100000 in
theorem said6 : Calls Tryz.prog 101 #[f.val, .int .i64 6, .agg (noteA n sa sc)] w fun e w' => e = .returned (.tuple #[.agg (noteA (saidN 6 n) sa sc), .bool (saidB f 6 n)]) ∧ Below w.heap.size w w' := by
  have i43 : (Tryz.prog.info? 47).map (·.size) = some (noteA n sa sc).size := by kernel_rfl
  have h43 := noteA_one n sa sc
  have I43 := Lib.hid i43; clear i43
  have s1 : (w.alloc (.cells #[.int .i64 f.rings, .int .i64 f.sectors, .int .i64 f.wide] 131)).heap.size = w.heap.size + 1 := by simp
  have g5 := fun Z => heap_before ((w.alloc (.cells #[.int .i64 f.rings, .int .i64 f.sectors, .int .i64 f.wide] 131)).alloc (.cells (noteA n sa sc) 47)) Z _ _ (heap_at (w.alloc (.cells #[.int .i64 f.rings, .int .i64 f.sectors, .int .i64 f.wide] 131)) (.cells (noteA n sa sc) 47) _ s1)
  have g5' := fun Z Y => heap_before _ Y _ _ (g5 Z)
  have G5 := Lib.hid g5; clear g5 s1
  have G5' := Lib.hid g5'; clear g5'
  have FB := Lib.hid (four_blocks w (.cells #[.int .i64 f.rings, .int .i64 f.sectors, .int .i64 f.wide] 131) (.cells (noteA n sa sc) 47) (.cells (noteA zeroN none 0) 47) (.cells (noteA n sa sc) 47))
  unfold FrV.val
  go_enter Tryz.func101, Tryz.ntmps101
  go_wp2_with (first
    | (refine wpList_load_row rfl 47 _ rfl (w.heap.size + 1) rfl 47 (noteA n sa sc) (0, 0) _ ?hg Tryz.underlying47 rfl I43.out ?_; case hg => (first | exact G5.out _ | exact G5'.out _ _))
    | (refine wpList_store_newp _ rfl 47 _ _ rfl (w.heap.size + 3) ?hp _ (noteA n sa sc) rfl rfl I43.out rfl h43 ?_; case hp => simp))
  simp only [← noteA_zero]
  clear G5 G5'
  generalize hW : (((w.alloc (.cells #[.int .i64 f.rings, .int .i64 f.sectors, .int .i64 f.wide] 131)).alloc (.cells (noteA n sa sc) 47)).alloc (.cells (noteA zeroN none 0) 47)).alloc (.cells (noteA n sa sc) 47) = W0 at *
  obtain ⟨⟨e0, e1, e2, e3⟩, hb0, hp3⟩ := FB.out
  clear hW FB
  generalize hp0 : w.heap.size = p0 at *
  generalize hp1 : p0 + 1 = p1 at *
  generalize hp2 : p1 + 1 = p2 at *
  generalize hp3e : p2 + 1 = p3 at *
  have OR := Lib.hid (show p0 < p1 ∧ p1 < p2 ∧ p2 < p3 ∧ p3 < W0.heap.size by omega)
  have HP0 := Lib.hid hp0
  clear hp0 hp1 hp2 hp3e hp3
  refine (content6 n sa sc _).mono ?_
  rintro e w1 ⟨rfl, b1⟩
  have L1 := Lib.hid ((Loc.mk e0 e1 e2 e3 hb0 (by have := OR.out; omega) : Loc w W0 p0 p1 p2 p3 f n sa sc (noteA n sa sc)).below b1)
  clear OR b1 hb0 e0 e1 e2 e3
  have hlt3 : p3 < w1.heap.size := (Array.getElem?_eq_some_iff.1 L1.out.e3).1
  have hlt1 : p1 < w1.heap.size := (Array.getElem?_eq_some_iff.1 L1.out.e1).1
  have hlt0 : p0 < w1.heap.size := (Array.getElem?_eq_some_iff.1 L1.out.e0).1
  have k16 := note_cells L1.out.e3 16 _ rfl
  simp only [Nat.zero_add] at k16
  have f16 := note_frozen L1.out.e3 16
  have k17 := note_cells L1.out.e3 17 _ rfl
  simp only [Nat.zero_add] at k17
  have f17 := note_frozen L1.out.e3 17
  go_wp2_with fail
  generalize hWx : (((w1.setCell ⟨p3, 16, none⟩ (.int .i64 0)).setCell ⟨p3, 17, none⟩ (.int .i64 0)).alloc (.cells #[.int .i64 n.refH, .int .i64 n.refN] 208)) = Wx at *
  have L2 := Lib.hid (show Loc w Wx p0 p1 p2 p3 f n sa sc (noteA (saidN 6 n) sa sc) from by rw [← hWx]; exact (((L1.out.set 16 (.int .i64 0)).set 17 (.int .i64 0)).alloc (.cells #[.int .i64 n.refH, .int .i64 n.refN] 208)))
  clear hWx L1
  refine (rightName_any n.refH n.refN _).mono ?_
  rintro e w3 ⟨rfl, b3⟩
  have L3 := Lib.hid (L2.out.below b3)
  have i43' : (Tryz.prog.info? 47).map (·.size) = some (noteA (saidN 6 n) sa sc).size := by kernel_rfl
  have o43' := noteA_one (saidN 6 n) sa sc
  have I43' := Lib.hid i43'; clear i43'
  have DN := Lib.hid (L3.out.done (noteA (saidN 6 n) sa sc))
  go_wp2_with (first
    | (refine wpList_load_row rfl 47 _ rfl p3 rfl 47 (noteA (saidN 6 n) sa sc) (0, 0) _ L3.out.e3 Tryz.underlying47 rfl I43'.out ?_)
    | (refine wpList_store_rowN rfl 47 _ _ rfl p2 (noteA zeroN none 0) (noteA (saidN 6 n) sa sc) 47 rfl rfl L3.out.e2 I43'.out rfl o43' ?_))
  (try simp only [Exit.inBlock, Exit.then])
  refine bodyPost_ret (results_cell_row_tmp rfl _ _ p2 47 (noteA (saidN 6 n) sa sc) (0, 0) _ rfl DN.out.1 Tryz.underlying47 rfl I43'.out) rfl ?_
  exact ⟨rfl, by rw [HP0.out]; exact DN.out.2⟩
theorem saidN_other {k : Int} (hk : ¬ (1 ≤ k ∧ k ≤ 6)) (n : NoteV) : saidN k n = n := by
  unfold saidN
  rw [if_neg (by omega), if_neg (by omega), if_neg (by omega), if_neg (by omega), if_neg (by omega)]
theorem saidB_other {k : Int} (hk : ¬ (1 ≤ k ∧ k ≤ 6)) (f : FrV) (n : NoteV) : saidB f k n = false := by
  unfold saidB
  rw [if_neg (by omega), if_neg (by omega), if_neg (by omega), if_neg (by omega), if_neg (by omega)]
set_option maxHeartbeats 1000000 in
set_option maxRecDepth 100000 in
theorem said0 (k : Int) (hk : ¬ (1 ≤ k ∧ k ≤ 6)) : Calls Tryz.prog 101 #[f.val, .int .i64 k, .agg (noteA n sa sc)] w fun e w' => e = .returned (.tuple #[.agg (noteA (saidN k n) sa sc), .bool (saidB f k n)]) ∧ Below w.heap.size w w' := by
  rw [saidN_other hk, saidB_other hk]
  have i43 : (Tryz.prog.info? 47).map (·.size) = some (noteA n sa sc).size := by kernel_rfl
  have h43 := noteA_one n sa sc
  have I43 := Lib.hid i43; clear i43
  have s1 : (w.alloc (.cells #[.int .i64 f.rings, .int .i64 f.sectors, .int .i64 f.wide] 131)).heap.size = w.heap.size + 1 := by simp
  have g5 := fun Z => heap_before ((w.alloc (.cells #[.int .i64 f.rings, .int .i64 f.sectors, .int .i64 f.wide] 131)).alloc (.cells (noteA n sa sc) 47)) Z _ _ (heap_at (w.alloc (.cells #[.int .i64 f.rings, .int .i64 f.sectors, .int .i64 f.wide] 131)) (.cells (noteA n sa sc) 47) _ s1)
  have g5' := fun Z Y => heap_before _ Y _ _ (g5 Z)
  have G5 := Lib.hid g5; clear g5 s1
  have G5' := Lib.hid g5'; clear g5'
  have FB := Lib.hid (four_blocks w (.cells #[.int .i64 f.rings, .int .i64 f.sectors, .int .i64 f.wide] 131) (.cells (noteA n sa sc) 47) (.cells (noteA zeroN none 0) 47) (.cells (noteA n sa sc) 47))
  unfold FrV.val
  go_enter Tryz.func101, Tryz.ntmps101
  go_wp2_with (first
    | (refine wpList_load_row rfl 47 _ rfl (w.heap.size + 1) rfl 47 (noteA n sa sc) (0, 0) _ ?hg Tryz.underlying47 rfl I43.out ?_; case hg => (first | exact G5.out _ | exact G5'.out _ _))
    | (refine wpList_store_newp _ rfl 47 _ _ rfl (w.heap.size + 3) ?hp _ (noteA n sa sc) rfl rfl I43.out rfl h43 ?_; case hp => simp))
  simp only [← noteA_zero]
  clear G5 G5'
  generalize hW : (((w.alloc (.cells #[.int .i64 f.rings, .int .i64 f.sectors, .int .i64 f.wide] 131)).alloc (.cells (noteA n sa sc) 47)).alloc (.cells (noteA zeroN none 0) 47)).alloc (.cells (noteA n sa sc) 47) = W0 at *
  obtain ⟨⟨e0, e1, e2, e3⟩, hb0, hp3⟩ := FB.out
  clear hW FB
  generalize hp0 : w.heap.size = p0 at *
  generalize hp1 : p0 + 1 = p1 at *
  generalize hp2 : p1 + 1 = p2 at *
  generalize hp3e : p2 + 1 = p3 at *
  have OR := Lib.hid (show p0 < p1 ∧ p1 < p2 ∧ p2 < p3 ∧ p3 < W0.heap.size by omega)
  have HP0 := Lib.hid hp0
  clear hp0 hp1 hp2 hp3e hp3
  refine (content0 n sa sc _ k hk).mono ?_
  rintro e w1 ⟨rfl, b1⟩
  have L1 := Lib.hid ((Loc.mk e0 e1 e2 e3 hb0 (by have := OR.out; omega) : Loc w W0 p0 p1 p2 p3 f n sa sc (noteA n sa sc)).below b1)
  clear OR b1 hb0 e0 e1 e2 e3
  have hlt3 : p3 < w1.heap.size := (Array.getElem?_eq_some_iff.1 L1.out.e3).1
  have hlt1 : p1 < w1.heap.size := (Array.getElem?_eq_some_iff.1 L1.out.e1).1
  have hlt0 : p0 < w1.heap.size := (Array.getElem?_eq_some_iff.1 L1.out.e0).1
  have i43' : (Tryz.prog.info? 47).map (·.size) = some (noteA n sa sc).size := by kernel_rfl
  have o43' := noteA_one n sa sc
  have I43' := Lib.hid i43'; clear i43'
  have DN := Lib.hid (L1.out.done (noteA n sa sc))
  go_wp2_with (first
    | (refine wpList_load_row rfl 47 _ rfl p3 rfl 47 (noteA n sa sc) (0, 0) _ L1.out.e3 Tryz.underlying47 rfl I43'.out ?_)
    | (refine wpList_store_rowN rfl 47 _ _ rfl p2 (noteA zeroN none 0) (noteA n sa sc) 47 rfl rfl L1.out.e2 I43'.out rfl o43' ?_))
  (try simp only [Exit.inBlock, Exit.then])
  refine bodyPost_ret (results_cell_row_tmp rfl _ _ p2 47 (noteA n sa sc) (0, 0) _ rfl DN.out.1 Tryz.underlying47 rfl I43'.out) rfl ?_
  exact ⟨rfl, by rw [HP0.out]; exact DN.out.2⟩
set_option maxHeartbeats 1000000 in
set_option maxRecDepth 100000 in
theorem said4 (hv : f.valid = true) (hs : RdI w sa n.strokes.length sc n.strokes) : Calls Tryz.prog 101 #[f.val, .int .i64 4, .agg (noteA n sa sc)] w fun e w' => e = .returned (.tuple #[.agg (noteA (saidN 4 n) none 0), .bool (saidB f 4 n)]) ∧ Below w.heap.size w w' := by
  have hvf : 1 ≤ f.rings ∧ f.rings ≤ 24 ∧ 2 ≤ f.sectors ∧ f.sectors ≤ 96 ∧ 1 ≤ f.wide ∧ f.wide ≤ f.sectors := by
    simp only [FrV.valid, Bool.and_eq_true, inB_true] at hv
    omega
  have VF := Lib.hid hvf; clear hvf hv
  have i43 : (Tryz.prog.info? 47).map (·.size) = some (noteA n sa sc).size := by kernel_rfl
  have h43 := noteA_one n sa sc
  have I43 := Lib.hid i43; clear i43
  have s1 : (w.alloc (.cells #[.int .i64 f.rings, .int .i64 f.sectors, .int .i64 f.wide] 131)).heap.size = w.heap.size + 1 := by simp
  have g5 := fun Z => heap_before ((w.alloc (.cells #[.int .i64 f.rings, .int .i64 f.sectors, .int .i64 f.wide] 131)).alloc (.cells (noteA n sa sc) 47)) Z _ _ (heap_at (w.alloc (.cells #[.int .i64 f.rings, .int .i64 f.sectors, .int .i64 f.wide] 131)) (.cells (noteA n sa sc) 47) _ s1)
  have g5' := fun Z Y => heap_before _ Y _ _ (g5 Z)
  have G5 := Lib.hid g5; clear g5 s1
  have G5' := Lib.hid g5'; clear g5'
  have FB := Lib.hid (four_blocks w (.cells #[.int .i64 f.rings, .int .i64 f.sectors, .int .i64 f.wide] 131) (.cells (noteA n sa sc) 47) (.cells (noteA zeroN none 0) 47) (.cells (noteA n sa sc) 47))
  unfold FrV.val
  go_enter Tryz.func101, Tryz.ntmps101
  go_wp2_with (first
    | (refine wpList_load_row rfl 47 _ rfl (w.heap.size + 1) rfl 47 (noteA n sa sc) (0, 0) _ ?hg Tryz.underlying47 rfl I43.out ?_; case hg => (first | exact G5.out _ | exact G5'.out _ _))
    | (refine wpList_store_newp _ rfl 47 _ _ rfl (w.heap.size + 3) ?hp _ (noteA n sa sc) rfl rfl I43.out rfl h43 ?_; case hp => simp))
  simp only [← noteA_zero]
  clear G5 G5'
  generalize hW : (((w.alloc (.cells #[.int .i64 f.rings, .int .i64 f.sectors, .int .i64 f.wide] 131)).alloc (.cells (noteA n sa sc) 47)).alloc (.cells (noteA zeroN none 0) 47)).alloc (.cells (noteA n sa sc) 47) = W0 at *
  obtain ⟨⟨e0, e1, e2, e3⟩, hb0, hp3⟩ := FB.out
  clear hW FB
  generalize hp0 : w.heap.size = p0 at *
  generalize hp1 : p0 + 1 = p1 at *
  generalize hp2 : p1 + 1 = p2 at *
  generalize hp3e : p2 + 1 = p3 at *
  have OR := Lib.hid (show p0 < p1 ∧ p1 < p2 ∧ p2 < p3 ∧ p3 < W0.heap.size by omega)
  have HP0 := Lib.hid hp0
  clear hp0 hp1 hp2 hp3e hp3
  refine (content4 n sa sc _).mono ?_
  rintro e w1 ⟨rfl, b1⟩
  have L1 := Lib.hid ((Loc.mk e0 e1 e2 e3 hb0 (by have := OR.out; omega) : Loc w W0 p0 p1 p2 p3 f n sa sc (noteA n sa sc)).below b1)
  clear OR b1 hb0 e0 e1 e2 e3
  have hlt3 : p3 < w1.heap.size := (Array.getElem?_eq_some_iff.1 L1.out.e3).1
  have hlt1 : p1 < w1.heap.size := (Array.getElem?_eq_some_iff.1 L1.out.e1).1
  have hlt0 : p0 < w1.heap.size := (Array.getElem?_eq_some_iff.1 L1.out.e0).1
  have k5 := note_cells L1.out.e3 5 _ rfl
  simp only [Nat.zero_add] at k5
  have f5 := note_frozen L1.out.e3 5
  have k14 := note_cells L1.out.e3 14 _ rfl
  simp only [Nat.zero_add] at k14
  have f14 := note_frozen L1.out.e3 14
  have k15 := note_cells L1.out.e3 15 _ rfl
  simp only [Nat.zero_add] at k15
  have f15 := note_frozen L1.out.e3 15
  go_wp2_with fail
  have e4 : ((((w1.setCell ⟨p3, 5, none⟩ (.int .i64 0)).setCell ⟨p3, 14, none⟩ (.int .i64 0)).setCell ⟨p3, 15, none⟩ (.slice none 0 0)).alloc (.cells #[.int .i64 n.stone, .int .i64 n.ring] 206)).heap[w1.heap.size]? = some (.cells #[.int .i64 n.stone, .int .i64 n.ring] 206 (0, 0)) := heap_at _ _ _ (by simp [World.setCell])
  generalize hWx : ((((w1.setCell ⟨p3, 5, none⟩ (.int .i64 0)).setCell ⟨p3, 14, none⟩ (.int .i64 0)).setCell ⟨p3, 15, none⟩ (.slice none 0 0)).alloc (.cells #[.int .i64 n.stone, .int .i64 n.ring] 206)) = Wx at *
  have L2 := Lib.hid (show Loc w Wx p0 p1 p2 p3 f n sa sc (noteA (saidN 4 n) none 0) from by rw [← hWx]; exact ((((L1.out.set 5 (.int .i64 0)).set 14 (.int .i64 0)).set 15 (.slice none 0 0)).alloc (.cells #[.int .i64 n.stone, .int .i64 n.ring] 206)))
  clear hWx L1
  generalize w1.heap.size = p4 at *
  have h4 := (Array.getElem?_eq_some_iff.1 e4).1
  have E4 := Lib.hid e4; clear e4
  clear k5 f5
  clear k14 f14
  clear k15 f15
  clear hlt3 hlt1 hlt0
  have c00 : Wx.cell? ⟨p0, 0, none⟩ = some (.int .i64 f.rings) := by simp [World.cell?, L2.out.e0]
  have c01 : Wx.cell? ⟨p0, 1, none⟩ = some (.int .i64 f.sectors) := by simp [World.cell?, L2.out.e0]
  have c02 : Wx.cell? ⟨p0, 2, none⟩ = some (.int .i64 f.wide) := by simp [World.cell?, L2.out.e0]
  have c40 : Wx.cell? ⟨p4, 0, none⟩ = some (.int .i64 n.stone) := by simp [World.cell?, E4.out]
  have c41 : Wx.cell? ⟨p4, 1, none⟩ = some (.int .i64 n.ring) := by simp [World.cell?, E4.out]
  have c110 := note_cells L2.out.e1 10 _ rfl
  simp only [Nat.zero_add] at c110
  have c111 := note_cells L2.out.e1 11 _ rfl
  simp only [Nat.zero_add] at c111
  have c115 := note_cells L2.out.e1 15 _ rfl
  simp only [Nat.zero_add] at c115
  have hr1 : f.rings ≤ 24 := VF.out.2.1
  have hr0 : 1 ≤ f.rings := VF.out.1
  refine (hin_any n.stone 0 1 _).mono ?_
  rintro e w3 ⟨rfl, rfl⟩
  cases h1 : inB n.stone 0 1
  · go_upto_region 25 with fail
    have hR : saidB f 4 n = false := by simp only [saidB]; simp [h1]
    have HRR := Lib.hid hR; clear hR
    have i43' : (Tryz.prog.info? 47).map (·.size) = some (noteA (saidN 4 n) none 0).size := by kernel_rfl
    have o43' := noteA_one (saidN 4 n) none 0
    have I43' := Lib.hid i43'; clear i43'
    have DN := Lib.hid (L2.out.done (noteA (saidN 4 n) none 0))
    go_wp2_with (first
      | (refine wpList_load_row rfl 47 _ rfl p3 rfl 47 (noteA (saidN 4 n) none 0) (0, 0) _ L2.out.e3 Tryz.underlying47 rfl I43'.out ?_)
      | (refine wpList_store_rowN rfl 47 _ _ rfl p2 (noteA zeroN none 0) (noteA (saidN 4 n) none 0) 47 rfl rfl L2.out.e2 I43'.out rfl o43' ?_))
    (try simp only [Exit.inBlock, Exit.then])
    refine bodyPost_ret (results_cell_row_tmp rfl _ _ p2 47 (noteA (saidN 4 n) none 0) (0, 0) _ rfl DN.out.1 Tryz.underlying47 rfl I43'.out) rfl ?_
    rw [HRR.out]
    exact ⟨rfl, by rw [HP0.out]; exact DN.out.2⟩
  · have H1 := Lib.hid h1
    go_wp2_with fail
    refine (hin_any n.ring 0 (f.rings - 1) _).mono ?_
    rintro e w3 ⟨rfl, rfl⟩
    cases h2 : inB n.ring 0 (f.rings - 1)
    · go_upto_region 25 with fail
      have hR : saidB f 4 n = false := by simp only [saidB]; simp [h2]
      have HRR := Lib.hid hR; clear hR
      have i43' : (Tryz.prog.info? 47).map (·.size) = some (noteA (saidN 4 n) none 0).size := by kernel_rfl
      have o43' := noteA_one (saidN 4 n) none 0
      have I43' := Lib.hid i43'; clear i43'
      have DN := Lib.hid (L2.out.done (noteA (saidN 4 n) none 0))
      go_wp2_with (first
        | (refine wpList_load_row rfl 47 _ rfl p3 rfl 47 (noteA (saidN 4 n) none 0) (0, 0) _ L2.out.e3 Tryz.underlying47 rfl I43'.out ?_)
        | (refine wpList_store_rowN rfl 47 _ _ rfl p2 (noteA zeroN none 0) (noteA (saidN 4 n) none 0) 47 rfl rfl L2.out.e2 I43'.out rfl o43' ?_))
      (try simp only [Exit.inBlock, Exit.then])
      refine bodyPost_ret (results_cell_row_tmp rfl _ _ p2 47 (noteA (saidN 4 n) none 0) (0, 0) _ rfl DN.out.1 Tryz.underlying47 rfl I43'.out) rfl ?_
      rw [HRR.out]
      exact ⟨rfl, by rw [HP0.out]; exact DN.out.2⟩
    · have H2 := Lib.hid h2
      go_wp2_with fail
      refine (hstrokes_any f.rings f.sectors f.wide sa _ sc n.strokes _ (hs.below (by rw [HP0.out]; exact L2.out.b)) ⟨VF.out.2.2.1, VF.out.2.2.2.1⟩ ⟨VF.out.2.2.2.2.1, VF.out.2.2.2.2.2⟩).mono ?_
      rintro e w3 ⟨rfl, b3⟩
      have L3 := Lib.hid (L2.out.below b3)
      have hR : saidB f 4 n = strokesB (f.sectors - f.wide) n.strokes := by simp only [saidB]; simp [h1, h2]
      have HRR := Lib.hid hR; clear hR
      have i43' : (Tryz.prog.info? 47).map (·.size) = some (noteA (saidN 4 n) none 0).size := by kernel_rfl
      have o43' := noteA_one (saidN 4 n) none 0
      have I43' := Lib.hid i43'; clear i43'
      have DN := Lib.hid (L3.out.done (noteA (saidN 4 n) none 0))
      go_wp2_with (first
        | (refine wpList_load_row rfl 47 _ rfl p3 rfl 47 (noteA (saidN 4 n) none 0) (0, 0) _ L3.out.e3 Tryz.underlying47 rfl I43'.out ?_)
        | (refine wpList_store_rowN rfl 47 _ _ rfl p2 (noteA zeroN none 0) (noteA (saidN 4 n) none 0) 47 rfl rfl L3.out.e2 I43'.out rfl o43' ?_))
      (try simp only [Exit.inBlock, Exit.then])
      refine bodyPost_ret (results_cell_row_tmp rfl _ _ p2 47 (noteA (saidN 4 n) none 0) (0, 0) _ rfl DN.out.1 Tryz.underlying47 rfl I43'.out) rfl ?_
      rw [HRR.out]
      exact ⟨rfl, by rw [HP0.out]; exact DN.out.2⟩
set_option maxHeartbeats 1000000 in
set_option maxRecDepth 100000 in
theorem said3 (hv : f.valid = true) : Calls Tryz.prog 101 #[f.val, .int .i64 3, .agg (noteA n sa sc)] w fun e w' => e = .returned (.tuple #[.agg (noteA (saidN 3 n) sa sc), .bool (saidB f 3 n)]) ∧ Below w.heap.size w w' := by
  have hvf : 1 ≤ f.rings ∧ f.rings ≤ 24 ∧ 2 ≤ f.sectors ∧ f.sectors ≤ 96 ∧ 1 ≤ f.wide ∧ f.wide ≤ f.sectors := by
    simp only [FrV.valid, Bool.and_eq_true, inB_true] at hv
    omega
  have VF := Lib.hid hvf; clear hvf hv
  have i43 : (Tryz.prog.info? 47).map (·.size) = some (noteA n sa sc).size := by kernel_rfl
  have h43 := noteA_one n sa sc
  have I43 := Lib.hid i43; clear i43
  have s1 : (w.alloc (.cells #[.int .i64 f.rings, .int .i64 f.sectors, .int .i64 f.wide] 131)).heap.size = w.heap.size + 1 := by simp
  have g5 := fun Z => heap_before ((w.alloc (.cells #[.int .i64 f.rings, .int .i64 f.sectors, .int .i64 f.wide] 131)).alloc (.cells (noteA n sa sc) 47)) Z _ _ (heap_at (w.alloc (.cells #[.int .i64 f.rings, .int .i64 f.sectors, .int .i64 f.wide] 131)) (.cells (noteA n sa sc) 47) _ s1)
  have g5' := fun Z Y => heap_before _ Y _ _ (g5 Z)
  have G5 := Lib.hid g5; clear g5 s1
  have G5' := Lib.hid g5'; clear g5'
  have FB := Lib.hid (four_blocks w (.cells #[.int .i64 f.rings, .int .i64 f.sectors, .int .i64 f.wide] 131) (.cells (noteA n sa sc) 47) (.cells (noteA zeroN none 0) 47) (.cells (noteA n sa sc) 47))
  unfold FrV.val
  go_enter Tryz.func101, Tryz.ntmps101
  go_wp2_with (first
    | (refine wpList_load_row rfl 47 _ rfl (w.heap.size + 1) rfl 47 (noteA n sa sc) (0, 0) _ ?hg Tryz.underlying47 rfl I43.out ?_; case hg => (first | exact G5.out _ | exact G5'.out _ _))
    | (refine wpList_store_newp _ rfl 47 _ _ rfl (w.heap.size + 3) ?hp _ (noteA n sa sc) rfl rfl I43.out rfl h43 ?_; case hp => simp))
  simp only [← noteA_zero]
  clear G5 G5'
  generalize hW : (((w.alloc (.cells #[.int .i64 f.rings, .int .i64 f.sectors, .int .i64 f.wide] 131)).alloc (.cells (noteA n sa sc) 47)).alloc (.cells (noteA zeroN none 0) 47)).alloc (.cells (noteA n sa sc) 47) = W0 at *
  obtain ⟨⟨e0, e1, e2, e3⟩, hb0, hp3⟩ := FB.out
  clear hW FB
  generalize hp0 : w.heap.size = p0 at *
  generalize hp1 : p0 + 1 = p1 at *
  generalize hp2 : p1 + 1 = p2 at *
  generalize hp3e : p2 + 1 = p3 at *
  have OR := Lib.hid (show p0 < p1 ∧ p1 < p2 ∧ p2 < p3 ∧ p3 < W0.heap.size by omega)
  have HP0 := Lib.hid hp0
  clear hp0 hp1 hp2 hp3e hp3
  refine (content3 n sa sc _).mono ?_
  rintro e w1 ⟨rfl, b1⟩
  have L1 := Lib.hid ((Loc.mk e0 e1 e2 e3 hb0 (by have := OR.out; omega) : Loc w W0 p0 p1 p2 p3 f n sa sc (noteA n sa sc)).below b1)
  clear OR b1 hb0 e0 e1 e2 e3
  have hlt3 : p3 < w1.heap.size := (Array.getElem?_eq_some_iff.1 L1.out.e3).1
  have hlt1 : p1 < w1.heap.size := (Array.getElem?_eq_some_iff.1 L1.out.e1).1
  have hlt0 : p0 < w1.heap.size := (Array.getElem?_eq_some_iff.1 L1.out.e0).1
  have k5 := note_cells L1.out.e3 5 _ rfl
  simp only [Nat.zero_add] at k5
  have f5 := note_frozen L1.out.e3 5
  have k12 := note_cells L1.out.e3 12 _ rfl
  simp only [Nat.zero_add] at k12
  have f12 := note_frozen L1.out.e3 12
  have k13 := note_cells L1.out.e3 13 _ rfl
  simp only [Nat.zero_add] at k13
  have f13 := note_frozen L1.out.e3 13
  have k10 := note_cells L1.out.e3 10 _ rfl
  simp only [Nat.zero_add] at k10
  have f10 := note_frozen L1.out.e3 10
  have k11 := note_cells L1.out.e3 11 _ rfl
  simp only [Nat.zero_add] at k11
  have f11 := note_frozen L1.out.e3 11
  go_wp2_with fail
  have e4 : ((((((w1.setCell ⟨p3, 5, none⟩ (.int .i64 0)).setCell ⟨p3, 12, none⟩ (.int .i64 0)).setCell ⟨p3, 13, none⟩ (.int .i64 0)).setCell ⟨p3, 10, none⟩ (.int .i64 0)).setCell ⟨p3, 11, none⟩ (.int .i64 0)).alloc (.cells #[.int .i64 n.stone, .int .i64 n.a, .int .i64 n.b] 203)).heap[w1.heap.size]? = some (.cells #[.int .i64 n.stone, .int .i64 n.a, .int .i64 n.b] 203 (0, 0)) := heap_at _ _ _ (by simp [World.setCell])
  generalize hWx : ((((((w1.setCell ⟨p3, 5, none⟩ (.int .i64 0)).setCell ⟨p3, 12, none⟩ (.int .i64 0)).setCell ⟨p3, 13, none⟩ (.int .i64 0)).setCell ⟨p3, 10, none⟩ (.int .i64 0)).setCell ⟨p3, 11, none⟩ (.int .i64 0)).alloc (.cells #[.int .i64 n.stone, .int .i64 n.a, .int .i64 n.b] 203)) = Wx at *
  have L2 := Lib.hid (show Loc w Wx p0 p1 p2 p3 f n sa sc (noteA (saidN 3 n) sa sc) from by rw [← hWx]; exact ((((((L1.out.set 5 (.int .i64 0)).set 12 (.int .i64 0)).set 13 (.int .i64 0)).set 10 (.int .i64 0)).set 11 (.int .i64 0)).alloc (.cells #[.int .i64 n.stone, .int .i64 n.a, .int .i64 n.b] 203)))
  clear hWx L1
  generalize w1.heap.size = p4 at *
  have h4 := (Array.getElem?_eq_some_iff.1 e4).1
  have E4 := Lib.hid e4; clear e4
  clear k5 f5
  clear k12 f12
  clear k13 f13
  clear k10 f10
  clear k11 f11
  clear hlt3 hlt1 hlt0
  have c00 : Wx.cell? ⟨p0, 0, none⟩ = some (.int .i64 f.rings) := by simp [World.cell?, L2.out.e0]
  have c01 : Wx.cell? ⟨p0, 1, none⟩ = some (.int .i64 f.sectors) := by simp [World.cell?, L2.out.e0]
  have c02 : Wx.cell? ⟨p0, 2, none⟩ = some (.int .i64 f.wide) := by simp [World.cell?, L2.out.e0]
  have c40 : Wx.cell? ⟨p4, 0, none⟩ = some (.int .i64 n.stone) := by simp [World.cell?, E4.out]
  have c41 : Wx.cell? ⟨p4, 1, none⟩ = some (.int .i64 n.a) := by simp [World.cell?, E4.out]
  have c42 : Wx.cell? ⟨p4, 2, none⟩ = some (.int .i64 n.b) := by simp [World.cell?, E4.out]
  have c110 := note_cells L2.out.e1 10 _ rfl
  simp only [Nat.zero_add] at c110
  have c111 := note_cells L2.out.e1 11 _ rfl
  simp only [Nat.zero_add] at c111
  have c115 := note_cells L2.out.e1 15 _ rfl
  simp only [Nat.zero_add] at c115
  refine (hin_any n.stone 0 1 _).mono ?_
  rintro e w3 ⟨rfl, rfl⟩
  cases h1 : inB n.stone 0 1
  · go_upto_region 25 with fail
    have hR : saidB f 3 n = false := by simp only [saidB]; simp [cellB, h1]
    have HRR := Lib.hid hR; clear hR
    have i43' : (Tryz.prog.info? 47).map (·.size) = some (noteA (saidN 3 n) sa sc).size := by kernel_rfl
    have o43' := noteA_one (saidN 3 n) sa sc
    have I43' := Lib.hid i43'; clear i43'
    have DN := Lib.hid (L2.out.done (noteA (saidN 3 n) sa sc))
    go_wp2_with (first
      | (refine wpList_load_row rfl 47 _ rfl p3 rfl 47 (noteA (saidN 3 n) sa sc) (0, 0) _ L2.out.e3 Tryz.underlying47 rfl I43'.out ?_)
      | (refine wpList_store_rowN rfl 47 _ _ rfl p2 (noteA zeroN none 0) (noteA (saidN 3 n) sa sc) 47 rfl rfl L2.out.e2 I43'.out rfl o43' ?_))
    (try simp only [Exit.inBlock, Exit.then])
    refine bodyPost_ret (results_cell_row_tmp rfl _ _ p2 47 (noteA (saidN 3 n) sa sc) (0, 0) _ rfl DN.out.1 Tryz.underlying47 rfl I43'.out) rfl ?_
    rw [HRR.out]
    exact ⟨rfl, by rw [HP0.out]; exact DN.out.2⟩
  · have H1 := Lib.hid h1
    go_wp2_with fail
    refine (cell_any f.rings f.sectors f.wide n.a _ ⟨VF.out.1, VF.out.2.1⟩ ⟨VF.out.2.2.1, VF.out.2.2.2.1⟩).mono ?_
    rintro e wa ⟨rfl, ba⟩
    have LA := Lib.hid (L2.out.below ba)
    have E4A := Lib.hid ((ba.block p4 (Array.getElem?_eq_some_iff.1 E4.out).1).trans E4.out)
    have c00_wa : wa.cell? ⟨p0, 0, none⟩ = some (.int .i64 f.rings) := by simp [World.cell?, LA.out.e0]
    have c01_wa : wa.cell? ⟨p0, 1, none⟩ = some (.int .i64 f.sectors) := by simp [World.cell?, LA.out.e0]
    have c02_wa : wa.cell? ⟨p0, 2, none⟩ = some (.int .i64 f.wide) := by simp [World.cell?, LA.out.e0]
    have c40_wa : wa.cell? ⟨p4, 0, none⟩ = some (.int .i64 n.stone) := by simp [World.cell?, E4A.out]
    have c41_wa : wa.cell? ⟨p4, 1, none⟩ = some (.int .i64 n.a) := by simp [World.cell?, E4A.out]
    have c42_wa : wa.cell? ⟨p4, 2, none⟩ = some (.int .i64 n.b) := by simp [World.cell?, E4A.out]
    have c110_wa := note_cells LA.out.e1 10 _ rfl
    simp only [Nat.zero_add] at c110_wa
    have c111_wa := note_cells LA.out.e1 11 _ rfl
    simp only [Nat.zero_add] at c111_wa
    have c115_wa := note_cells LA.out.e1 15 _ rfl
    simp only [Nat.zero_add] at c115_wa
    cases h2 : inB n.a 0 (f.rings * f.sectors - 1)
    · go_upto_region 25 with fail
      have hR : saidB f 3 n = false := by simp only [saidB]; simp [cellB, h2]
      have HRR := Lib.hid hR; clear hR
      have i43' : (Tryz.prog.info? 47).map (·.size) = some (noteA (saidN 3 n) sa sc).size := by kernel_rfl
      have o43' := noteA_one (saidN 3 n) sa sc
      have I43' := Lib.hid i43'; clear i43'
      have DN := Lib.hid (LA.out.done (noteA (saidN 3 n) sa sc))
      go_wp2_with (first
        | (refine wpList_load_row rfl 47 _ rfl p3 rfl 47 (noteA (saidN 3 n) sa sc) (0, 0) _ LA.out.e3 Tryz.underlying47 rfl I43'.out ?_)
        | (refine wpList_store_rowN rfl 47 _ _ rfl p2 (noteA zeroN none 0) (noteA (saidN 3 n) sa sc) 47 rfl rfl LA.out.e2 I43'.out rfl o43' ?_))
      (try simp only [Exit.inBlock, Exit.then])
      refine bodyPost_ret (results_cell_row_tmp rfl _ _ p2 47 (noteA (saidN 3 n) sa sc) (0, 0) _ rfl DN.out.1 Tryz.underlying47 rfl I43'.out) rfl ?_
      rw [HRR.out]
      exact ⟨rfl, by rw [HP0.out]; exact DN.out.2⟩
    · have H2 := Lib.hid h2
      by_cases hb1 : n.b = -1
      · have q1 : (n.b == -1) = true := by simp [hb1]
        have q1' : decide (n.b = -1) = true := by simp [hb1]
        have HB1 := Lib.hid hb1; clear hb1
        by_cases hne : n.a = n.b
        · have q2 : (n.a != n.b) = false := by simp [hne]
          have q2' : decide (n.a = n.b) = true := by simp [hne]
          have HNE := Lib.hid hne; clear hne
          go_upto_region 25 with fail
          have hR : saidB f 3 n = false := by simp only [saidB]; simp [cellB, h1, h2, q1', HNE.out]
          have HRR := Lib.hid hR; clear hR
          have i43' : (Tryz.prog.info? 47).map (·.size) = some (noteA (saidN 3 n) sa sc).size := by kernel_rfl
          have o43' := noteA_one (saidN 3 n) sa sc
          have I43' := Lib.hid i43'; clear i43'
          have DN := Lib.hid (LA.out.done (noteA (saidN 3 n) sa sc))
          go_wp2_with (first
            | (refine wpList_load_row rfl 47 _ rfl p3 rfl 47 (noteA (saidN 3 n) sa sc) (0, 0) _ LA.out.e3 Tryz.underlying47 rfl I43'.out ?_)
            | (refine wpList_store_rowN rfl 47 _ _ rfl p2 (noteA zeroN none 0) (noteA (saidN 3 n) sa sc) 47 rfl rfl LA.out.e2 I43'.out rfl o43' ?_))
          (try simp only [Exit.inBlock, Exit.then])
          refine bodyPost_ret (results_cell_row_tmp rfl _ _ p2 47 (noteA (saidN 3 n) sa sc) (0, 0) _ rfl DN.out.1 Tryz.underlying47 rfl I43'.out) rfl ?_
          rw [HRR.out]
          exact ⟨rfl, by rw [HP0.out]; exact DN.out.2⟩
        · have q2 : (n.a != n.b) = true := by simp [hne]
          have q2' : decide (n.a = n.b) = false := by simp [hne]
          have HNE := Lib.hid hne; clear hne
          go_wp2_with fail
          refine (spans_any n.diffLo n.diffHi (-1000000000) 1000000000 _).mono ?_
          rintro e w9 ⟨rfl, b9⟩
          have L9 := Lib.hid (LA.out.below b9)
          have hR : saidB f 3 n = spansB n.diffLo n.diffHi (-1000000000) 1000000000 := by simp only [saidB]; simp [cellB, h1, h2, q1', HNE.out]
          have HRR := Lib.hid hR; clear hR
          have i43' : (Tryz.prog.info? 47).map (·.size) = some (noteA (saidN 3 n) sa sc).size := by kernel_rfl
          have o43' := noteA_one (saidN 3 n) sa sc
          have I43' := Lib.hid i43'; clear i43'
          have DN := Lib.hid (L9.out.done (noteA (saidN 3 n) sa sc))
          go_wp2_with (first
            | (refine wpList_load_row rfl 47 _ rfl p3 rfl 47 (noteA (saidN 3 n) sa sc) (0, 0) _ L9.out.e3 Tryz.underlying47 rfl I43'.out ?_)
            | (refine wpList_store_rowN rfl 47 _ _ rfl p2 (noteA zeroN none 0) (noteA (saidN 3 n) sa sc) 47 rfl rfl L9.out.e2 I43'.out rfl o43' ?_))
          (try simp only [Exit.inBlock, Exit.then])
          refine bodyPost_ret (results_cell_row_tmp rfl _ _ p2 47 (noteA (saidN 3 n) sa sc) (0, 0) _ rfl DN.out.1 Tryz.underlying47 rfl I43'.out) rfl ?_
          rw [HRR.out]
          exact ⟨rfl, by rw [HP0.out]; exact DN.out.2⟩
      · have q1 : (n.b == -1) = false := by simp [hb1]
        have q1' : decide (n.b = -1) = false := by simp [hb1]
        have HB1 := Lib.hid hb1; clear hb1
        go_wp2_with fail
        refine (cell_any f.rings f.sectors f.wide n.b _ ⟨VF.out.1, VF.out.2.1⟩ ⟨VF.out.2.2.1, VF.out.2.2.2.1⟩).mono ?_
        rintro e wb ⟨rfl, bb⟩
        have LB := Lib.hid (LA.out.below bb)
        have E4B := Lib.hid ((bb.block p4 (Array.getElem?_eq_some_iff.1 E4A.out).1).trans E4A.out)
        have c00_wb : wb.cell? ⟨p0, 0, none⟩ = some (.int .i64 f.rings) := by simp [World.cell?, LB.out.e0]
        have c01_wb : wb.cell? ⟨p0, 1, none⟩ = some (.int .i64 f.sectors) := by simp [World.cell?, LB.out.e0]
        have c02_wb : wb.cell? ⟨p0, 2, none⟩ = some (.int .i64 f.wide) := by simp [World.cell?, LB.out.e0]
        have c40_wb : wb.cell? ⟨p4, 0, none⟩ = some (.int .i64 n.stone) := by simp [World.cell?, E4B.out]
        have c41_wb : wb.cell? ⟨p4, 1, none⟩ = some (.int .i64 n.a) := by simp [World.cell?, E4B.out]
        have c42_wb : wb.cell? ⟨p4, 2, none⟩ = some (.int .i64 n.b) := by simp [World.cell?, E4B.out]
        have c110_wb := note_cells LB.out.e1 10 _ rfl
        simp only [Nat.zero_add] at c110_wb
        have c111_wb := note_cells LB.out.e1 11 _ rfl
        simp only [Nat.zero_add] at c111_wb
        have c115_wb := note_cells LB.out.e1 15 _ rfl
        simp only [Nat.zero_add] at c115_wb
        cases h3 : inB n.b 0 (f.rings * f.sectors - 1)
        · go_upto_region 25 with fail
          have hR : saidB f 3 n = false := by simp only [saidB]; simp [cellB, h1, h2, h3, q1']
          have HRR := Lib.hid hR; clear hR
          have i43' : (Tryz.prog.info? 47).map (·.size) = some (noteA (saidN 3 n) sa sc).size := by kernel_rfl
          have o43' := noteA_one (saidN 3 n) sa sc
          have I43' := Lib.hid i43'; clear i43'
          have DN := Lib.hid (LB.out.done (noteA (saidN 3 n) sa sc))
          go_wp2_with (first
            | (refine wpList_load_row rfl 47 _ rfl p3 rfl 47 (noteA (saidN 3 n) sa sc) (0, 0) _ LB.out.e3 Tryz.underlying47 rfl I43'.out ?_)
            | (refine wpList_store_rowN rfl 47 _ _ rfl p2 (noteA zeroN none 0) (noteA (saidN 3 n) sa sc) 47 rfl rfl LB.out.e2 I43'.out rfl o43' ?_))
          (try simp only [Exit.inBlock, Exit.then])
          refine bodyPost_ret (results_cell_row_tmp rfl _ _ p2 47 (noteA (saidN 3 n) sa sc) (0, 0) _ rfl DN.out.1 Tryz.underlying47 rfl I43'.out) rfl ?_
          rw [HRR.out]
          exact ⟨rfl, by rw [HP0.out]; exact DN.out.2⟩
        · have H3 := Lib.hid h3
          by_cases hne : n.a = n.b
          · have q2 : (n.a != n.b) = false := by simp [hne]
            have q2' : decide (n.a = n.b) = true := by simp [hne]
            have HNE := Lib.hid hne; clear hne
            go_upto_region 25 with fail
            have hR : saidB f 3 n = false := by simp only [saidB]; simp [cellB, h1, h2, h3, q1', HNE.out]
            have HRR := Lib.hid hR; clear hR
            have i43' : (Tryz.prog.info? 47).map (·.size) = some (noteA (saidN 3 n) sa sc).size := by kernel_rfl
            have o43' := noteA_one (saidN 3 n) sa sc
            have I43' := Lib.hid i43'; clear i43'
            have DN := Lib.hid (LB.out.done (noteA (saidN 3 n) sa sc))
            go_wp2_with (first
              | (refine wpList_load_row rfl 47 _ rfl p3 rfl 47 (noteA (saidN 3 n) sa sc) (0, 0) _ LB.out.e3 Tryz.underlying47 rfl I43'.out ?_)
              | (refine wpList_store_rowN rfl 47 _ _ rfl p2 (noteA zeroN none 0) (noteA (saidN 3 n) sa sc) 47 rfl rfl LB.out.e2 I43'.out rfl o43' ?_))
            (try simp only [Exit.inBlock, Exit.then])
            refine bodyPost_ret (results_cell_row_tmp rfl _ _ p2 47 (noteA (saidN 3 n) sa sc) (0, 0) _ rfl DN.out.1 Tryz.underlying47 rfl I43'.out) rfl ?_
            rw [HRR.out]
            exact ⟨rfl, by rw [HP0.out]; exact DN.out.2⟩
          · have q2 : (n.a != n.b) = true := by simp [hne]
            have q2' : decide (n.a = n.b) = false := by simp [hne]
            have HNE := Lib.hid hne; clear hne
            go_wp2_with fail
            refine (spans_any n.diffLo n.diffHi (-1000000000) 1000000000 _).mono ?_
            rintro e w9 ⟨rfl, b9⟩
            have L9 := Lib.hid (LB.out.below b9)
            have hR : saidB f 3 n = spansB n.diffLo n.diffHi (-1000000000) 1000000000 := by simp only [saidB]; simp [cellB, h1, h2, h3, q1', HNE.out]
            have HRR := Lib.hid hR; clear hR
            have i43' : (Tryz.prog.info? 47).map (·.size) = some (noteA (saidN 3 n) sa sc).size := by kernel_rfl
            have o43' := noteA_one (saidN 3 n) sa sc
            have I43' := Lib.hid i43'; clear i43'
            have DN := Lib.hid (L9.out.done (noteA (saidN 3 n) sa sc))
            go_wp2_with (first
              | (refine wpList_load_row rfl 47 _ rfl p3 rfl 47 (noteA (saidN 3 n) sa sc) (0, 0) _ L9.out.e3 Tryz.underlying47 rfl I43'.out ?_)
              | (refine wpList_store_rowN rfl 47 _ _ rfl p2 (noteA zeroN none 0) (noteA (saidN 3 n) sa sc) 47 rfl rfl L9.out.e2 I43'.out rfl o43' ?_))
            (try simp only [Exit.inBlock, Exit.then])
            refine bodyPost_ret (results_cell_row_tmp rfl _ _ p2 47 (noteA (saidN 3 n) sa sc) (0, 0) _ rfl DN.out.1 Tryz.underlying47 rfl I43'.out) rfl ?_
            rw [HRR.out]
            exact ⟨rfl, by rw [HP0.out]; exact DN.out.2⟩
end
end Go.Proofs.YtpdmlklnbjegpaaGreat
