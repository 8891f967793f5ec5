/- Parts of the proof, in this order: The program's said; The program's said, for every kind; The reference's bare: a note without its name, times, references, and the content of a kind; The reference's right, kind by kind; The plain law of notes and their bytes: both tests of a note agree; what is encoded is read back by both readers, and nothing else; Bytes that grow: only blocks of bytes from a base on turn; put, and the reference's Number: the bytes of numbers behind bytes of the call's own; The program's fields, encoded, Encode. -/
import Derived.Laws.ResultCell
import Derived.Deep.Cut
import Derived.StillTailTactics
import Derived.BigRegion
import Derived.RegionTactic
import Derived.Test.YtlnhppgfhkkidaaGreatKPpw2
set_option linter.unusedSimpArgs false
set_option linter.unusedVariables false
open List renaming getElem_toArray → lq0, getElem_cons_succ → lq1, getElem_cons_zero → lq2, setIfInBounds_toArray → lq3, set_cons_zero → lq4, set_cons_succ → lq5
namespace Go.Proofs.YtlnhppgfhkkidaaGreat
open Go.RowKit

def saidN (k : Int) (n : NoteV) : NoteV :=
  if k = 1 then { n with hardLo := 0, hardHi := 0 } else if k = 2 then { n with turns := 0 } else if k = 3 then { n with stone := 0, a := 0, b := 0, diffLo := 0, diffHi := 0 }
  else if k = 4 then { n with stone := 0, ring := 0, strokes := [] } else if k = 5 ∨ k = 6 then { n with refH := 0, refN := 0 } else n
def cellB (f : FrV) (x : Int) : Bool := inB x 0 (f.rings * f.sectors - 1)
def saidB (f : FrV) (k : Int) (n : NoteV) : Bool :=
  if k = 1 then spansB n.hardLo n.hardHi 1 255 else if k = 2 then inB n.turns 1 10000
  else if k = 3 then inB n.stone 0 1 && (cellB f n.a && ((decide (n.b = -1) || cellB f n.b) && (decide (n.a ≠ n.b) && spansB n.diffLo n.diffHi (-1000000000) 1000000000)))
  else if k = 4 then inB n.stone 0 1 && (inB n.ring 0 (f.rings - 1) && strokesB (f.sectors - f.wide) n.strokes)
  else if k = 5 ∨ k = 6 then rightNameB n.refH n.refN else false

theorem wpList_store_rowN {P : Program} {ops : Array Oper} {rest : List Oper} {op : Oper} {a : Act} {w : World} {Q : Exit → Act → World → Prop} (hgd : op.guard = none) (ty : TypeId) (x y : Operand) (ho : op.op = .store ty x y) (p : Nat)
    (c c' : Array Value) (t : TypeId) (hx : a.eval x = .pointer (some ⟨p, 0, none⟩)) (hy : a.eval y = .agg c') (hg : w.heap[p]? = some (.cells c t (0, 0))) (hi : (P.info? ty).map (·.size) = some c'.size) (hc : c.size = c'.size) (h1 : c'.all (·.oneCell') = true)
    (h : wpList P ops Q rest (a.put op.dst undef) (w.setRow p c')) : wpList P ops Q (op :: rest) a w := by
  refine wpList_plain hgd fun K hK => ?_
  unfold Oper.wp execOp
  simp only [ho, hx, hy, Instr.storeAt, Instr.sureAddr, Sem.run_bind, Sem.run_pure, Result.andThen_ok, run_storeVar_row w p t ty c c' hg hi hc h1]
  exact hK _ _ h
theorem four_blocks (w : World) (A B C D : Obj) : (((((w.alloc A).alloc B).alloc C).alloc D).heap[w.heap.size]? = some A ∧ ((((w.alloc A).alloc B).alloc C).alloc D).heap[w.heap.size + 1]? = some B ∧
    ((((w.alloc A).alloc B).alloc C).alloc D).heap[w.heap.size + 1 + 1]? = some C ∧ ((((w.alloc A).alloc B).alloc C).alloc D).heap[w.heap.size + 1 + 1 + 1]? = some D) ∧
    Below w.heap.size w ((((w.alloc A).alloc B).alloc C).alloc D) ∧ w.heap.size + 1 + 1 + 1 < ((((w.alloc A).alloc B).alloc C).alloc D).heap.size := by
  refine ⟨⟨?_, ?_, ?_, ?_⟩, ?_, ?_⟩
  · exact heap_before _ _ _ _ (heap_before _ _ _ _ (heap_before _ _ _ _ (heap_at _ _ _ rfl)))
  · exact heap_before _ _ _ _ (heap_before _ _ _ _ (heap_at _ _ _ (by simp)))
  · exact heap_before _ _ _ _ (heap_at _ _ _ (by simp))
  · exact heap_at _ _ _ (by simp)
  · exact ((((Below.refl _ _).alloc (Nat.le_refl _) _).alloc (by simp) _).alloc (by simp; omega) _).alloc (by simp; omega) _
  · simp
theorem as0_0 (v : Value) (w : World) : (Instr.typeAssert (.iface 258 v) 255 258 true).run Tryz.prog w = .ok (.tuple #[v, .bool true]) w := by kernel_rfl
theorem as0_1 (v : Value) (w : World) : (Instr.typeAssert (.iface 258 v) 255 261 true).run Tryz.prog w = .ok (.tuple #[.agg #[.int .i64 0], .bool false]) w := by kernel_rfl
theorem as0_2 (v : Value) (w : World) : (Instr.typeAssert (.iface 258 v) 255 263 true).run Tryz.prog w = .ok (.tuple #[.agg #[.int .i64 0, .int .i64 0, .int .i64 0], .bool false]) w := by kernel_rfl
theorem as0_3 (v : Value) (w : World) : (Instr.typeAssert (.iface 258 v) 255 266 true).run Tryz.prog w = .ok (.tuple #[.agg #[.int .i64 0, .int .i64 0], .bool false]) w := by kernel_rfl
theorem as0_4 (v : Value) (w : World) : (Instr.typeAssert (.iface 258 v) 255 269 true).run Tryz.prog w = .ok (.tuple #[.agg #[.int .i64 0, .int .i64 0], .bool false]) w := by kernel_rfl
theorem as1_0 (v : Value) (w : World) : (Instr.typeAssert (.iface 261 v) 255 258 true).run Tryz.prog w = .ok (.tuple #[.agg #[.int .i64 0, .int .i64 0], .bool false]) w := by kernel_rfl
theorem as1_1 (v : Value) (w : World) : (Instr.typeAssert (.iface 261 v) 255 261 true).run Tryz.prog w = .ok (.tuple #[v, .bool true]) w := by kernel_rfl
theorem as1_2 (v : Value) (w : World) : (Instr.typeAssert (.iface 261 v) 255 263 true).run Tryz.prog w = .ok (.tuple #[.agg #[.int .i64 0, .int .i64 0, .int .i64 0], .bool false]) w := by kernel_rfl
theorem as1_3 (v : Value) (w : World) : (Instr.typeAssert (.iface 261 v) 255 266 true).run Tryz.prog w = .ok (.tuple #[.agg #[.int .i64 0, .int .i64 0], .bool false]) w := by kernel_rfl
theorem as1_4 (v : Value) (w : World) : (Instr.typeAssert (.iface 261 v) 255 269 true).run Tryz.prog w = .ok (.tuple #[.agg #[.int .i64 0, .int .i64 0], .bool false]) w := by kernel_rfl
theorem as2_0 (v : Value) (w : World) : (Instr.typeAssert (.iface 263 v) 255 258 true).run Tryz.prog w = .ok (.tuple #[.agg #[.int .i64 0, .int .i64 0], .bool false]) w := by kernel_rfl
theorem as2_1 (v : Value) (w : World) : (Instr.typeAssert (.iface 263 v) 255 261 true).run Tryz.prog w = .ok (.tuple #[.agg #[.int .i64 0], .bool false]) w := by kernel_rfl
theorem as2_2 (v : Value) (w : World) : (Instr.typeAssert (.iface 263 v) 255 263 true).run Tryz.prog w = .ok (.tuple #[v, .bool true]) w := by kernel_rfl
theorem as2_3 (v : Value) (w : World) : (Instr.typeAssert (.iface 263 v) 255 266 true).run Tryz.prog w = .ok (.tuple #[.agg #[.int .i64 0, .int .i64 0], .bool false]) w := by kernel_rfl
theorem as2_4 (v : Value) (w : World) : (Instr.typeAssert (.iface 263 v) 255 269 true).run Tryz.prog w = .ok (.tuple #[.agg #[.int .i64 0, .int .i64 0], .bool false]) w := by kernel_rfl
theorem as3_0 (v : Value) (w : World) : (Instr.typeAssert (.iface 266 v) 255 258 true).run Tryz.prog w = .ok (.tuple #[.agg #[.int .i64 0, .int .i64 0], .bool false]) w := by kernel_rfl
theorem as3_1 (v : Value) (w : World) : (Instr.typeAssert (.iface 266 v) 255 261 true).run Tryz.prog w = .ok (.tuple #[.agg #[.int .i64 0], .bool false]) w := by kernel_rfl
theorem as3_2 (v : Value) (w : World) : (Instr.typeAssert (.iface 266 v) 255 263 true).run Tryz.prog w = .ok (.tuple #[.agg #[.int .i64 0, .int .i64 0, .int .i64 0], .bool false]) w := by kernel_rfl
theorem as3_3 (v : Value) (w : World) : (Instr.typeAssert (.iface 266 v) 255 266 true).run Tryz.prog w = .ok (.tuple #[v, .bool true]) w := by kernel_rfl
theorem as3_4 (v : Value) (w : World) : (Instr.typeAssert (.iface 266 v) 255 269 true).run Tryz.prog w = .ok (.tuple #[.agg #[.int .i64 0, .int .i64 0], .bool false]) w := by kernel_rfl
theorem as4_0 (v : Value) (w : World) : (Instr.typeAssert (.iface 269 v) 255 258 true).run Tryz.prog w = .ok (.tuple #[.agg #[.int .i64 0, .int .i64 0], .bool false]) w := by kernel_rfl
theorem as4_1 (v : Value) (w : World) : (Instr.typeAssert (.iface 269 v) 255 261 true).run Tryz.prog w = .ok (.tuple #[.agg #[.int .i64 0], .bool false]) w := by kernel_rfl
theorem as4_2 (v : Value) (w : World) : (Instr.typeAssert (.iface 269 v) 255 263 true).run Tryz.prog w = .ok (.tuple #[.agg #[.int .i64 0, .int .i64 0, .int .i64 0], .bool false]) w := by kernel_rfl
theorem as4_3 (v : Value) (w : World) : (Instr.typeAssert (.iface 269 v) 255 266 true).run Tryz.prog w = .ok (.tuple #[.agg #[.int .i64 0, .int .i64 0], .bool false]) w := by kernel_rfl
theorem as4_4 (v : Value) (w : World) : (Instr.typeAssert (.iface 269 v) 255 269 true).run Tryz.prog w = .ok (.tuple #[v, .bool true]) w := by kernel_rfl
theorem asn_0 (w : World) : (Instr.typeAssert .nilIface 255 258 true).run Tryz.prog w = .ok (.tuple #[.agg #[.int .i64 0, .int .i64 0], .bool false]) w := by kernel_rfl
theorem asn_1 (w : World) : (Instr.typeAssert .nilIface 255 261 true).run Tryz.prog w = .ok (.tuple #[.agg #[.int .i64 0], .bool false]) w := by kernel_rfl
theorem asn_2 (w : World) : (Instr.typeAssert .nilIface 255 263 true).run Tryz.prog w = .ok (.tuple #[.agg #[.int .i64 0, .int .i64 0, .int .i64 0], .bool false]) w := by kernel_rfl
theorem asn_3 (w : World) : (Instr.typeAssert .nilIface 255 266 true).run Tryz.prog w = .ok (.tuple #[.agg #[.int .i64 0, .int .i64 0], .bool false]) w := by kernel_rfl
theorem asn_4 (w : World) : (Instr.typeAssert .nilIface 255 269 true).run Tryz.prog w = .ok (.tuple #[.agg #[.int .i64 0, .int .i64 0], .bool false]) w := by kernel_rfl
theorem note_frozen {W : World} {p : Nat} {A : Array Value} {t : TypeId} (h1 : W.heap[p]? = some (.cells A t (0, 0))) (j : Nat) : W.frozen? ⟨p, j, none⟩ = false := by simp [World.frozen?, h1]

theorem results_cell_row_tmp {P : Program} {fn : Func} {p u : Tmp} {ty : TypeId} (h : fn.results = #[.cell p ty, .tmp u]) (tmps : Array Value) (w : World) (g : Nat) (t : TypeId) (cs : Array Value) (fr : Nat × Nat) (d : TypeDesc)
    (hp : tmps.getD p undef = .pointer (some ⟨g, 0, none⟩)) (hg : w.heap[g]? = some (.cells cs t fr)) (hu : P.underlying ty = some d) (hd : (match d with | .struct _ | .array _ _ => true | _ => false) = true) (hi : (P.info? ty).map (·.size) = some cs.size) :
    (results fn tmps).run P w = .ok (.tuple #[.agg cs, tmps.getD u undef]) w := by
  rw [results_cell_tmp h, hp]
  simp [asAddr, run_loadVar_row w g t ty cs fr d hg hu hd hi]
structure Loc (w W : World) (p0 p1 p2 p3 : Nat) (f : FrV) (n : NoteV) (sa : Option Addr) (sc : Nat) (C : Array Value) : Prop where
  e0 : W.heap[p0]? = some (.cells #[.int .i64 f.rings, .int .i64 f.sectors, .int .i64 f.wide] 174 (0, 0))
  e1 : W.heap[p1]? = some (.cells (noteA n sa sc) 47 (0, 0))
  e2 : W.heap[p2]? = some (.cells (noteA zeroN none 0) 47 (0, 0))
  e3 : W.heap[p3]? = some (.cells C 47 (0, 0))
  b : Below p0 w W
  lt : p0 < p1 ∧ p1 < p2 ∧ p2 < p3
theorem Loc.below {w W W' : World} {p0 p1 p2 p3 : Nat} {f : FrV} {n : NoteV} {sa : Option Addr} {sc : Nat} {C : Array Value} (h : Loc w W p0 p1 p2 p3 f n sa sc C) (hb : Below W.heap.size W W') : Loc w W' p0 p1 p2 p3 f n sa sc C := by
  have g : ∀ {k : Nat} {o : Obj}, W.heap[k]? = some o → W'.heap[k]? = some o := fun {k o} hk => (hb.block k (Array.getElem?_eq_some_iff.1 hk).1).trans hk
  have h0 := (Array.getElem?_eq_some_iff.1 h.e0).1
  exact ⟨g h.e0, g h.e1, g h.e2, g h.e3, h.b.trans (hb.mono (by omega)), h.lt⟩
theorem Loc.alloc {w W : World} {p0 p1 p2 p3 : Nat} {f : FrV} {n : NoteV} {sa : Option Addr} {sc : Nat} {C : Array Value} (h : Loc w W p0 p1 p2 p3 f n sa sc C) (o : Obj) : Loc w (W.alloc o) p0 p1 p2 p3 f n sa sc C := h.below ((Below.refl _ _).alloc (Nat.le_refl _) _)
theorem Loc.set {w W : World} {p0 p1 p2 p3 : Nat} {f : FrV} {n : NoteV} {sa : Option Addr} {sc : Nat} {C : Array Value} (h : Loc w W p0 p1 p2 p3 f n sa sc C) (j : Nat) (v : Value) : Loc w (W.setCell ⟨p3, j, none⟩ v) p0 p1 p2 p3 f n sa sc (C.setIfInBounds j v) := by
  have g : ∀ {k : Nat}, k ≠ p3 → (W.setCell ⟨p3, j, none⟩ v).heap[k]? = W.heap[k]? := fun {k} hk => Below.heap_setCell W ⟨p3, j, none⟩ v k hk
  have hl := h.lt
  refine ⟨(g (by omega)).trans h.e0, (g (by omega)).trans h.e1, (g (by omega)).trans h.e2, heap_setCell_same W p3 j C 47 v h.e3, h.b.trans ⟨rfl, rfl, rfl, by simp [World.setCell], fun k hk => g (by omega)⟩, h.lt⟩
theorem Loc.done {w W : World} {p0 p1 p2 p3 : Nat} {f : FrV} {n : NoteV} {sa : Option Addr} {sc : Nat} {C : Array Value} (h : Loc w W p0 p1 p2 p3 f n sa sc C) (C' : Array Value) : (W.setRow p2 C').heap[p2]? = some (.cells C' 47 (0, 0)) ∧ Below p0 w (W.setRow p2 C') := by
  have hl := h.lt
  exact ⟨setRow_heap W p2 _ C' _ _ h.e2, h.b.trans ⟨rfl, rfl, rfl, by simp, fun k hk => setRow_other W p2 k C' (by omega)⟩⟩

section
attribute [local go_sem] as0_0 as0_1 as0_2 as0_3 as0_4 as1_0 as1_1 as1_2 as1_3 as1_4 as2_0 as2_1 as2_2 as2_3 as2_4 as3_0 as3_1 as3_2 as3_3 as3_4 as4_0 as4_1 as4_2 as4_3 as4_4 asn_0 asn_1 asn_2 asn_3 asn_4 noteA_0 noteA_1 noteA_2 noteA_3 noteA_4 noteA_5 noteA_6 noteA_7 noteA_8 noteA_9 noteA_10 noteA_11 noteA_12 noteA_13 noteA_14 noteA_15 noteA_16 noteA_17 noteA_18 noteA_s0 noteA_s1 noteA_s2 noteA_s3 noteA_s4 noteA_s5 noteA_s6 noteA_s7 noteA_s8 noteA_s9 noteA_s10 noteA_s11 noteA_s12 noteA_s13 noteA_s14 noteA_s15 noteA_s16 noteA_s17 noteA_s18
variable (f : FrV) (n : NoteV) (sa : Option Addr) (sc : Nat) (w : World)
set_option maxHeartbeats 1000000 in
set_option maxRecDepth 100000 in
theorem said1 : Calls Tryz.prog 165 #[f.val, .int .i64 1, .agg (noteA n sa sc)] w fun e w' => e = .returned (.tuple #[.agg (noteA (saidN 1 n) sa sc), .bool (saidB f 1 n)]) ∧ Below w.heap.size w w' := by
  have i43 : (Tryz.prog.info? 47).map (·.size) = some (noteA n sa sc).size := by kernel_rfl
  have h43 := noteA_one n sa sc
  have I43 := Lib.hid i43; clear i43
  have s1 : (w.alloc (.cells #[.int .i64 f.rings, .int .i64 f.sectors, .int .i64 f.wide] 174)).heap.size = w.heap.size + 1 := by simp
  have g5 := fun Z => heap_before ((w.alloc (.cells #[.int .i64 f.rings, .int .i64 f.sectors, .int .i64 f.wide] 174)).alloc (.cells (noteA n sa sc) 47)) Z _ _ (heap_at (w.alloc (.cells #[.int .i64 f.rings, .int .i64 f.sectors, .int .i64 f.wide] 174)) (.cells (noteA n sa sc) 47) _ s1)
  have g5' := fun Z Y => heap_before _ Y _ _ (g5 Z)
  have G5 := Lib.hid g5; clear g5 s1
  have G5' := Lib.hid g5'; clear g5'
  have FB := Lib.hid (four_blocks w (.cells #[.int .i64 f.rings, .int .i64 f.sectors, .int .i64 f.wide] 174) (.cells (noteA n sa sc) 47) (.cells (noteA zeroN none 0) 47) (.cells (noteA n sa sc) 47))
  unfold FrV.val
  go_enter Tryz.func165, Tryz.ntmps165
  go_wp2_with (first
    | (refine wpList_load_row rfl 47 _ rfl (w.heap.size + 1) rfl 47 (noteA n sa sc) (0, 0) _ ?hg Tryz.underlying47 rfl I43.out ?_; case hg => (first | exact G5.out _ | exact G5'.out _ _))
    | (refine wpList_store_newp _ rfl 47 _ _ rfl (w.heap.size + 3) ?hp _ (noteA n sa sc) rfl rfl I43.out rfl h43 ?_; case hp => simp))
  simp only [← noteA_zero]
  clear G5 G5'
  generalize hW : (((w.alloc (.cells #[.int .i64 f.rings, .int .i64 f.sectors, .int .i64 f.wide] 174)).alloc (.cells (noteA n sa sc) 47)).alloc (.cells (noteA zeroN none 0) 47)).alloc (.cells (noteA n sa sc) 47) = W0 at *
  obtain ⟨⟨e0, e1, e2, e3⟩, hb0, hp3⟩ := FB.out
  clear hW FB
  generalize hp0 : w.heap.size = p0 at *
  generalize hp1 : p0 + 1 = p1 at *
  generalize hp2 : p1 + 1 = p2 at *
  generalize hp3e : p2 + 1 = p3 at *
  have OR := Lib.hid (show p0 < p1 ∧ p1 < p2 ∧ p2 < p3 ∧ p3 < W0.heap.size by omega)
  have HP0 := Lib.hid hp0
  clear hp0 hp1 hp2 hp3e hp3
  refine (content1 n sa sc _).mono ?_
  rintro e w1 ⟨rfl, b1⟩
  have L1 := Lib.hid ((Loc.mk e0 e1 e2 e3 hb0 (by have := OR.out; omega) : Loc w W0 p0 p1 p2 p3 f n sa sc (noteA n sa sc)).below b1)
  clear OR b1 hb0 e0 e1 e2 e3
  have hlt3 : p3 < w1.heap.size := (Array.getElem?_eq_some_iff.1 L1.out.e3).1
  have hlt1 : p1 < w1.heap.size := (Array.getElem?_eq_some_iff.1 L1.out.e1).1
  have hlt0 : p0 < w1.heap.size := (Array.getElem?_eq_some_iff.1 L1.out.e0).1
  have k8 := note_cells L1.out.e3 8 _ rfl
  simp only [Nat.zero_add] at k8
  have f8 := note_frozen L1.out.e3 8
  have k9 := note_cells L1.out.e3 9 _ rfl
  simp only [Nat.zero_add] at k9
  have f9 := note_frozen L1.out.e3 9
  go_wp2_with fail
  generalize hWx : (((w1.setCell ⟨p3, 8, none⟩ (.int .i64 0)).setCell ⟨p3, 9, none⟩ (.int .i64 0)).alloc (.cells #[.int .i64 n.hardLo, .int .i64 n.hardHi] 258)) = Wx at *
  have L2 := Lib.hid (show Loc w Wx p0 p1 p2 p3 f n sa sc (noteA (saidN 1 n) sa sc) from by rw [← hWx]; exact (((L1.out.set 8 (.int .i64 0)).set 9 (.int .i64 0)).alloc (.cells #[.int .i64 n.hardLo, .int .i64 n.hardHi] 258)))
  clear hWx L1
  refine (spans_any n.hardLo n.hardHi 1 255 _).mono ?_
  rintro e w3 ⟨rfl, b3⟩
  have L3 := Lib.hid (L2.out.below b3)
  have i43' : (Tryz.prog.info? 47).map (·.size) = some (noteA (saidN 1 n) sa sc).size := by kernel_rfl
  have o43' := noteA_one (saidN 1 n) sa sc
  have I43' := Lib.hid i43'; clear i43'
  have DN := Lib.hid (L3.out.done (noteA (saidN 1 n) sa sc))
  go_wp2_with (first
    | (refine wpList_load_row rfl 47 _ rfl p3 rfl 47 (noteA (saidN 1 n) sa sc) (0, 0) _ L3.out.e3 Tryz.underlying47 rfl I43'.out ?_)
    | (refine wpList_store_rowN rfl 47 _ _ rfl p2 (noteA zeroN none 0) (noteA (saidN 1 n) sa sc) 47 rfl rfl L3.out.e2 I43'.out rfl o43' ?_))
  (try simp only [Exit.inBlock, Exit.then])
  refine bodyPost_ret (results_cell_row_tmp rfl _ _ p2 47 (noteA (saidN 1 n) sa sc) (0, 0) _ rfl DN.out.1 Tryz.underlying47 rfl I43'.out) rfl ?_
  exact ⟨rfl, by rw [HP0.out]; exact DN.out.2⟩
set_option maxHeartbeats 1000000 in
set_option maxRecDepth 100000 in
theorem said2 : Calls Tryz.prog 165 #[f.val, .int .i64 2, .agg (noteA n sa sc)] w fun e w' => e = .returned (.tuple #[.agg (noteA (saidN 2 n) sa sc), .bool (saidB f 2 n)]) ∧ Below w.heap.size w w' := by
  have i43 : (Tryz.prog.info? 47).map (·.size) = some (noteA n sa sc).size := by kernel_rfl
  have h43 := noteA_one n sa sc
  have I43 := Lib.hid i43; clear i43
  have s1 : (w.alloc (.cells #[.int .i64 f.rings, .int .i64 f.sectors, .int .i64 f.wide] 174)).heap.size = w.heap.size + 1 := by simp
  have g5 := fun Z => heap_before ((w.alloc (.cells #[.int .i64 f.rings, .int .i64 f.sectors, .int .i64 f.wide] 174)).alloc (.cells (noteA n sa sc) 47)) Z _ _ (heap_at (w.alloc (.cells #[.int .i64 f.rings, .int .i64 f.sectors, .int .i64 f.wide] 174)) (.cells (noteA n sa sc) 47) _ s1)
  have g5' := fun Z Y => heap_before _ Y _ _ (g5 Z)
  have G5 := Lib.hid g5; clear g5 s1
  have G5' := Lib.hid g5'; clear g5'
  have FB := Lib.hid (four_blocks w (.cells #[.int .i64 f.rings, .int .i64 f.sectors, .int .i64 f.wide] 174) (.cells (noteA n sa sc) 47) (.cells (noteA zeroN none 0) 47) (.cells (noteA n sa sc) 47))
  unfold FrV.val
  go_enter Tryz.func165, Tryz.ntmps165
  go_wp2_with (first
    | (refine wpList_load_row rfl 47 _ rfl (w.heap.size + 1) rfl 47 (noteA n sa sc) (0, 0) _ ?hg Tryz.underlying47 rfl I43.out ?_; case hg => (first | exact G5.out _ | exact G5'.out _ _))
    | (refine wpList_store_newp _ rfl 47 _ _ rfl (w.heap.size + 3) ?hp _ (noteA n sa sc) rfl rfl I43.out rfl h43 ?_; case hp => simp))
  simp only [← noteA_zero]
  clear G5 G5'
  generalize hW : (((w.alloc (.cells #[.int .i64 f.rings, .int .i64 f.sectors, .int .i64 f.wide] 174)).alloc (.cells (noteA n sa sc) 47)).alloc (.cells (noteA zeroN none 0) 47)).alloc (.cells (noteA n sa sc) 47) = W0 at *
  obtain ⟨⟨e0, e1, e2, e3⟩, hb0, hp3⟩ := FB.out
  clear hW FB
  generalize hp0 : w.heap.size = p0 at *
  generalize hp1 : p0 + 1 = p1 at *
  generalize hp2 : p1 + 1 = p2 at *
  generalize hp3e : p2 + 1 = p3 at *
  have OR := Lib.hid (show p0 < p1 ∧ p1 < p2 ∧ p2 < p3 ∧ p3 < W0.heap.size by omega)
  have HP0 := Lib.hid hp0
  clear hp0 hp1 hp2 hp3e hp3
  refine (content2 n sa sc _).mono ?_
  rintro e w1 ⟨rfl, b1⟩
  have L1 := Lib.hid ((Loc.mk e0 e1 e2 e3 hb0 (by have := OR.out; omega) : Loc w W0 p0 p1 p2 p3 f n sa sc (noteA n sa sc)).below b1)
  clear OR b1 hb0 e0 e1 e2 e3
  have hlt3 : p3 < w1.heap.size := (Array.getElem?_eq_some_iff.1 L1.out.e3).1
  have hlt1 : p1 < w1.heap.size := (Array.getElem?_eq_some_iff.1 L1.out.e1).1
  have hlt0 : p0 < w1.heap.size := (Array.getElem?_eq_some_iff.1 L1.out.e0).1
  have k7 := note_cells L1.out.e3 7 _ rfl
  simp only [Nat.zero_add] at k7
  have f7 := note_frozen L1.out.e3 7
  go_wp2_with fail
  generalize hWx : ((w1.setCell ⟨p3, 7, none⟩ (.int .i64 0)).alloc (.cells #[.int .i64 n.turns] 261)) = Wx at *
  have L2 := Lib.hid (show Loc w Wx p0 p1 p2 p3 f n sa sc (noteA (saidN 2 n) sa sc) from by rw [← hWx]; exact ((L1.out.set 7 (.int .i64 0)).alloc (.cells #[.int .i64 n.turns] 261)))
  clear hWx L1
  refine (hin_any n.turns 1 10000 _).mono ?_
  rintro e w3 ⟨rfl, rfl⟩
  have i43' : (Tryz.prog.info? 47).map (·.size) = some (noteA (saidN 2 n) sa sc).size := by kernel_rfl
  have o43' := noteA_one (saidN 2 n) sa sc
  have I43' := Lib.hid i43'; clear i43'
  have DN := Lib.hid (L2.out.done (noteA (saidN 2 n) sa sc))
  go_wp2_with (first
    | (refine wpList_load_row rfl 47 _ rfl p3 rfl 47 (noteA (saidN 2 n) sa sc) (0, 0) _ L2.out.e3 Tryz.underlying47 rfl I43'.out ?_)
    | (refine wpList_store_rowN rfl 47 _ _ rfl p2 (noteA zeroN none 0) (noteA (saidN 2 n) sa sc) 47 rfl rfl L2.out.e2 I43'.out rfl o43' ?_))
  (try simp only [Exit.inBlock, Exit.then])
  refine bodyPost_ret (results_cell_row_tmp rfl _ _ p2 47 (noteA (saidN 2 n) sa sc) (0, 0) _ rfl DN.out.1 Tryz.underlying47 rfl I43'.out) rfl ?_
  exact ⟨rfl, by rw [HP0.out]; exact DN.out.2⟩
set_option maxHeartbeats 1000000 in
set_option maxRecDepth 100000 in
theorem said5 : Calls Tryz.prog 165 #[f.val, .int .i64 5, .agg (noteA n sa sc)] w fun e w' => e = .returned (.tuple #[.agg (noteA (saidN 5 n) sa sc), .bool (saidB f 5 n)]) ∧ Below w.heap.size w w' := by
  have i43 : (Tryz.prog.info? 47).map (·.size) = some (noteA n sa sc).size := by kernel_rfl
  have h43 := noteA_one n sa sc
  have I43 := Lib.hid i43; clear i43
  have s1 : (w.alloc (.cells #[.int .i64 f.rings, .int .i64 f.sectors, .int .i64 f.wide] 174)).heap.size = w.heap.size + 1 := by simp
  have g5 := fun Z => heap_before ((w.alloc (.cells #[.int .i64 f.rings, .int .i64 f.sectors, .int .i64 f.wide] 174)).alloc (.cells (noteA n sa sc) 47)) Z _ _ (heap_at (w.alloc (.cells #[.int .i64 f.rings, .int .i64 f.sectors, .int .i64 f.wide] 174)) (.cells (noteA n sa sc) 47) _ s1)
  have g5' := fun Z Y => heap_before _ Y _ _ (g5 Z)
  have G5 := Lib.hid g5; clear g5 s1
  have G5' := Lib.hid g5'; clear g5'
  have FB := Lib.hid (four_blocks w (.cells #[.int .i64 f.rings, .int .i64 f.sectors, .int .i64 f.wide] 174) (.cells (noteA n sa sc) 47) (.cells (noteA zeroN none 0) 47) (.cells (noteA n sa sc) 47))
  unfold FrV.val
  go_enter Tryz.func165, Tryz.ntmps165
  go_wp2_with (first
    | (refine wpList_load_row rfl 47 _ rfl (w.heap.size + 1) rfl 47 (noteA n sa sc) (0, 0) _ ?hg Tryz.underlying47 rfl I43.out ?_; case hg => (first | exact G5.out _ | exact G5'.out _ _))
    | (refine wpList_store_newp _ rfl 47 _ _ rfl (w.heap.size + 3) ?hp _ (noteA n sa sc) rfl rfl I43.out rfl h43 ?_; case hp => simp))
  simp only [← noteA_zero]
  clear G5 G5'
  generalize hW : (((w.alloc (.cells #[.int .i64 f.rings, .int .i64 f.sectors, .int .i64 f.wide] 174)).alloc (.cells (noteA n sa sc) 47)).alloc (.cells (noteA zeroN none 0) 47)).alloc (.cells (noteA n sa sc) 47) = W0 at *
  obtain ⟨⟨e0, e1, e2, e3⟩, hb0, hp3⟩ := FB.out
  clear hW FB
  generalize hp0 : w.heap.size = p0 at *
  generalize hp1 : p0 + 1 = p1 at *
  generalize hp2 : p1 + 1 = p2 at *
  generalize hp3e : p2 + 1 = p3 at *
  have OR := Lib.hid (show p0 < p1 ∧ p1 < p2 ∧ p2 < p3 ∧ p3 < W0.heap.size by omega)
  have HP0 := Lib.hid hp0
  clear hp0 hp1 hp2 hp3e hp3
  refine (content5 n sa sc _).mono ?_
  rintro e w1 ⟨rfl, b1⟩
  have L1 := Lib.hid ((Loc.mk e0 e1 e2 e3 hb0 (by have := OR.out; omega) : Loc w W0 p0 p1 p2 p3 f n sa sc (noteA n sa sc)).below b1)
  clear OR b1 hb0 e0 e1 e2 e3
  have hlt3 : p3 < w1.heap.size := (Array.getElem?_eq_some_iff.1 L1.out.e3).1
  have hlt1 : p1 < w1.heap.size := (Array.getElem?_eq_some_iff.1 L1.out.e1).1
  have hlt0 : p0 < w1.heap.size := (Array.getElem?_eq_some_iff.1 L1.out.e0).1
  have k16 := note_cells L1.out.e3 16 _ rfl
  simp only [Nat.zero_add] at k16
  have f16 := note_frozen L1.out.e3 16
  have k17 := note_cells L1.out.e3 17 _ rfl
  simp only [Nat.zero_add] at k17
  have f17 := note_frozen L1.out.e3 17
  go_wp2_with fail
  generalize hWx : (((w1.setCell ⟨p3, 16, none⟩ (.int .i64 0)).setCell ⟨p3, 17, none⟩ (.int .i64 0)).alloc (.cells #[.int .i64 n.refH, .int .i64 n.refN] 269)) = Wx at *
  have L2 := Lib.hid (show Loc w Wx p0 p1 p2 p3 f n sa sc (noteA (saidN 5 n) sa sc) from by rw [← hWx]; exact (((L1.out.set 16 (.int .i64 0)).set 17 (.int .i64 0)).alloc (.cells #[.int .i64 n.refH, .int .i64 n.refN] 269)))
  clear hWx L1
  refine (rightName_any n.refH n.refN _).mono ?_
  rintro e w3 ⟨rfl, b3⟩
  have L3 := Lib.hid (L2.out.below b3)
  have i43' : (Tryz.prog.info? 47).map (·.size) = some (noteA (saidN 5 n) sa sc).size := by kernel_rfl
  have o43' := noteA_one (saidN 5 n) sa sc
  have I43' := Lib.hid i43'; clear i43'
  have DN := Lib.hid (L3.out.done (noteA (saidN 5 n) sa sc))
  go_wp2_with (first
    | (refine wpList_load_row rfl 47 _ rfl p3 rfl 47 (noteA (saidN 5 n) sa sc) (0, 0) _ L3.out.e3 Tryz.underlying47 rfl I43'.out ?_)
    | (refine wpList_store_rowN rfl 47 _ _ rfl p2 (noteA zeroN none 0) (noteA (saidN 5 n) sa sc) 47 rfl rfl L3.out.e2 I43'.out rfl o43' ?_))
  (try simp only [Exit.inBlock, Exit.then])
  refine bodyPost_ret (results_cell_row_tmp rfl _ _ p2 47 (noteA (saidN 5 n) sa sc) (0, 0) _ rfl DN.out.1 Tryz.underlying47 rfl I43'.out) rfl ?_
  exact ⟨rfl, by rw [HP0.out]; exact DN.out.2⟩
set_option maxHeartbeats 1000000 in
set_option maxRecDepth 100000 in
theorem said6 : Calls Tryz.prog 165 #[f.val, .int .i64 6, .agg (noteA n sa sc)] w fun e w' => e = .returned (.tuple #[.agg (noteA (saidN 6 n) sa sc), .bool (saidB f 6 n)]) ∧ Below w.heap.size w w' := by
  have i43 : (Tryz.prog.info? 47).map (·.size) = some (noteA n sa sc).size := by kernel_rfl
  have h43 := noteA_one n sa sc
  have I43 := Lib.hid i43; clear i43
  have s1 : (w.alloc (.cells #[.int .i64 f.rings, .int .i64 f.sectors, .int .i64 f.wide] 174)).heap.size = w.heap.size + 1 := by simp
  have g5 := fun Z => heap_before ((w.alloc (.cells #[.int .i64 f.rings, .int .i64 f.sectors, .int .i64 f.wide] 174)).alloc (.cells (noteA n sa sc) 47)) Z _ _ (heap_at (w.alloc (.cells #[.int .i64 f.rings, .int .i64 f.sectors, .int .i64 f.wide] 174)) (.cells (noteA n sa sc) 47) _ s1)
  have g5' := fun Z Y => heap_before _ Y _ _ (g5 Z)
  have G5 := Lib.hid g5; clear g5 s1
  have G5' := Lib.hid g5'; clear g5'
  have FB := Lib.hid (four_blocks w (.cells #[.int .i64 f.rings, .int .i64 f.sectors, .int .i64 f.wide] 174) (.cells (noteA n sa sc) 47) (.cells (noteA zeroN none 0) 47) (.cells (noteA n sa sc) 47))
  unfold FrV.val
  go_enter Tryz.func165, Tryz.ntmps165
  go_wp2_with (first
    | (refine wpList_load_row rfl 47 _ rfl (w.heap.size + 1) rfl 47 (noteA n sa sc) (0, 0) _ ?hg Tryz.underlying47 rfl I43.out ?_; case hg => (first | exact G5.out _ | exact G5'.out _ _))
    | (refine wpList_store_newp _ rfl 47 _ _ rfl (w.heap.size + 3) ?hp _ (noteA n sa sc) rfl rfl I43.out rfl h43 ?_; case hp => simp))
  simp only [← noteA_zero]
  clear G5 G5'
  generalize hW : (((w.alloc (.cells #[.int .i64 f.rings, .int .i64 f.sectors, .int .i64 f.wide] 174)).alloc (.cells (noteA n sa sc) 47)).alloc (.cells (noteA zeroN none 0) 47)).alloc (.cells (noteA n sa sc) 47) = W0 at *
  obtain ⟨⟨e0, e1, e2, e3⟩, hb0, hp3⟩ := FB.out
  clear hW FB
  generalize hp0 : w.heap.size = p0 at *
  generalize hp1 : p0 + 1 = p1 at *
  generalize hp2 : p1 + 1 = p2 at *
  generalize hp3e : p2 + 1 = p3 at *
  have OR := Lib.hid (show p0 < p1 ∧ p1 < p2 ∧ p2 < p3 ∧ p3 < W0.heap.size by omega)
  have HP0 := Lib.hid hp0
  clear hp0 hp1 hp2 hp3e hp3
  refine (content6 n sa sc _).mono ?_
  rintro e w1 ⟨rfl, b1⟩
  have L1 := Lib.hid ((Loc.mk e0 e1 e2 e3 hb0 (by have := OR.out; omega) : Loc w W0 p0 p1 p2 p3 f n sa sc (noteA n sa sc)).below b1)
  clear OR b1 hb0 e0 e1 e2 e3
  have hlt3 : p3 < w1.heap.size := (Array.getElem?_eq_some_iff.1 L1.out.e3).1
  have hlt1 : p1 < w1.heap.size := (Array.getElem?_eq_some_iff.1 L1.out.e1).1
  have hlt0 : p0 < w1.heap.size := (Array.getElem?_eq_some_iff.1 L1.out.e0).1
  have k16 := note_cells L1.out.e3 16 _ rfl
  simp only [Nat.zero_add] at k16
  have f16 := note_frozen L1.out.e3 16
  have k17 := note_cells L1.out.e3 17 _ rfl
  simp only [Nat.zero_add] at k17
  have f17 := note_frozen L1.out.e3 17
  go_wp2_with fail
  generalize hWx : (((w1.setCell ⟨p3, 16, none⟩ (.int .i64 0)).setCell ⟨p3, 17, none⟩ (.int .i64 0)).alloc (.cells #[.int .i64 n.refH, .int .i64 n.refN] 269)) = Wx at *
  have L2 := Lib.hid (show Loc w Wx p0 p1 p2 p3 f n sa sc (noteA (saidN 6 n) sa sc) from by rw [← hWx]; exact (((L1.out.set 16 (.int .i64 0)).set 17 (.int .i64 0)).alloc (.cells #[.int .i64 n.refH, .int .i64 n.refN] 269)))
  clear hWx L1
  refine (rightName_any n.refH n.refN _).mono ?_
  rintro e w3 ⟨rfl, b3⟩
  have L3 := Lib.hid (L2.out.below b3)
  have i43' : (Tryz.prog.info? 47).map (·.size) = some (noteA (saidN 6 n) sa sc).size := by kernel_rfl
  have o43' := noteA_one (saidN 6 n) sa sc
  have I43' := Lib.hid i43'; clear i43'
  have DN := Lib.hid (L3.out.done (noteA (saidN 6 n) sa sc))
  go_wp2_with (first
    | (refine wpList_load_row rfl 47 _ rfl p3 rfl 47 (noteA (saidN 6 n) sa sc) (0, 0) _ L3.out.e3 Tryz.underlying47 rfl I43'.out ?_)
    | (refine wpList_store_rowN rfl 47 _ _ rfl p2 (noteA zeroN none 0) (noteA (saidN 6 n) sa sc) 47 rfl rfl L3.out.e2 I43'.out rfl o43' ?_))
  (try simp only [Exit.inBlock, Exit.then])
  refine bodyPost_ret (results_cell_row_tmp rfl _ _ p2 47 (noteA (saidN 6 n) sa sc) (0, 0) _ rfl DN.out.1 Tryz.underlying47 rfl I43'.out) rfl ?_
  exact ⟨rfl, by rw [HP0.out]; exact DN.out.2⟩
theorem saidN_other {k : Int} (hk : ¬ (1 ≤ k ∧ k ≤ 6)) (n : NoteV) : saidN k n = n := by
  unfold saidN
  rw [if_neg (by omega), if_neg (by omega), if_neg (by omega), if_neg (by omega), if_neg (by omega)]
theorem saidB_other {k : Int} (hk : ¬ (1 ≤ k ∧ k ≤ 6)) (f : FrV) (n : NoteV) : saidB f k n = false := by
  unfold saidB
  rw [if_neg (by omega), if_neg (by omega), if_neg (by omega), if_neg (by omega), if_neg (by omega)]
set_option maxHeartbeats 1000000 in
set_option maxRecDepth 100000 in
theorem said0 (k : Int) (hk : ¬ (1 ≤ k ∧ k ≤ 6)) : Calls Tryz.prog 165 #[f.val, .int .i64 k, .agg (noteA n sa sc)] w fun e w' => e = .returned (.tuple #[.agg (noteA (saidN k n) sa sc), .bool (saidB f k n)]) ∧ Below w.heap.size w w' := by
  rw [saidN_other hk, saidB_other hk]
  have i43 : (Tryz.prog.info? 47).map (·.size) = some (noteA n sa sc).size := by kernel_rfl
  have h43 := noteA_one n sa sc
  have I43 := Lib.hid i43; clear i43
  have s1 : (w.alloc (.cells #[.int .i64 f.rings, .int .i64 f.sectors, .int .i64 f.wide] 174)).heap.size = w.heap.size + 1 := by simp
  have g5 := fun Z => heap_before ((w.alloc (.cells #[.int .i64 f.rings, .int .i64 f.sectors, .int .i64 f.wide] 174)).alloc (.cells (noteA n sa sc) 47)) Z _ _ (heap_at (w.alloc (.cells #[.int .i64 f.rings, .int .i64 f.sectors, .int .i64 f.wide] 174)) (.cells (noteA n sa sc) 47) _ s1)
  have g5' := fun Z Y => heap_before _ Y _ _ (g5 Z)
  have G5 := Lib.hid g5; clear g5 s1
  have G5' := Lib.hid g5'; clear g5'
  have FB := Lib.hid (four_blocks w (.cells #[.int .i64 f.rings, .int .i64 f.sectors, .int .i64 f.wide] 174) (.cells (noteA n sa sc) 47) (.cells (noteA zeroN none 0) 47) (.cells (noteA n sa sc) 47))
  unfold FrV.val
  go_enter Tryz.func165, Tryz.ntmps165
  go_wp2_with (first
    | (refine wpList_load_row rfl 47 _ rfl (w.heap.size + 1) rfl 47 (noteA n sa sc) (0, 0) _ ?hg Tryz.underlying47 rfl I43.out ?_; case hg => (first | exact G5.out _ | exact G5'.out _ _))
    | (refine wpList_store_newp _ rfl 47 _ _ rfl (w.heap.size + 3) ?hp _ (noteA n sa sc) rfl rfl I43.out rfl h43 ?_; case hp => simp))
  simp only [← noteA_zero]
  clear G5 G5'
  generalize hW : (((w.alloc (.cells #[.int .i64 f.rings, .int .i64 f.sectors, .int .i64 f.wide] 174)).alloc (.cells (noteA n sa sc) 47)).alloc (.cells (noteA zeroN none 0) 47)).alloc (.cells (noteA n sa sc) 47) = W0 at *
  obtain ⟨⟨e0, e1, e2, e3⟩, hb0, hp3⟩ := FB.out
  clear hW FB
  generalize hp0 : w.heap.size = p0 at *
  generalize hp1 : p0 + 1 = p1 at *
  generalize hp2 : p1 + 1 = p2 at *
  generalize hp3e : p2 + 1 = p3 at *
  have OR := Lib.hid (show p0 < p1 ∧ p1 < p2 ∧ p2 < p3 ∧ p3 < W0.heap.size by omega)
  have HP0 := Lib.hid hp0
  clear hp0 hp1 hp2 hp3e hp3
  refine (content0 n sa sc _ k hk).mono ?_
  rintro e w1 ⟨rfl, b1⟩
  have L1 := Lib.hid ((Loc.mk e0 e1 e2 e3 hb0 (by have := OR.out; omega) : Loc w W0 p0 p1 p2 p3 f n sa sc (noteA n sa sc)).below b1)
  clear OR b1 hb0 e0 e1 e2 e3
  have hlt3 : p3 < w1.heap.size := (Array.getElem?_eq_some_iff.1 L1.out.e3).1
  have hlt1 : p1 < w1.heap.size := (Array.getElem?_eq_some_iff.1 L1.out.e1).1
  have hlt0 : p0 < w1.heap.size := (Array.getElem?_eq_some_iff.1 L1.out.e0).1
  have i43' : (Tryz.prog.info? 47).map (·.size) = some (noteA n sa sc).size := by kernel_rfl
  have o43' := noteA_one n sa sc
  have I43' := Lib.hid i43'; clear i43'
  have DN := Lib.hid (L1.out.done (noteA n sa sc))
  go_wp2_with (first
    | (refine wpList_load_row rfl 47 _ rfl p3 rfl 47 (noteA n sa sc) (0, 0) _ L1.out.e3 Tryz.underlying47 rfl I43'.out ?_)
    | (refine wpList_store_rowN rfl 47 _ _ rfl p2 (noteA zeroN none 0) (noteA n sa sc) 47 rfl rfl L1.out.e2 I43'.out rfl o43' ?_))
  (try simp only [Exit.inBlock, Exit.then])
  refine bodyPost_ret (results_cell_row_tmp rfl _ _ p2 47 (noteA n sa sc) (0, 0) _ rfl DN.out.1 Tryz.underlying47 rfl I43'.out) rfl ?_
  exact ⟨rfl, by rw [HP0.out]; exact DN.out.2⟩
set_option maxHeartbeats 1000000 in
set_option maxRecDepth 100000 in
theorem said4 (hv : f.valid = true) (hs : RdI w sa n.strokes.length sc n.strokes) : Calls Tryz.prog 165 #[f.val, .int .i64 4, .agg (noteA n sa sc)] w fun e w' => e = .returned (.tuple #[.agg (noteA (saidN 4 n) none 0), .bool (saidB f 4 n)]) ∧ Below w.heap.size w w' := by
  have hvf : 1 ≤ f.rings ∧ f.rings ≤ 24 ∧ 2 ≤ f.sectors ∧ f.sectors ≤ 96 ∧ 1 ≤ f.wide ∧ f.wide ≤ f.sectors := by
    simp only [FrV.valid, Bool.and_eq_true, inB_true] at hv
    omega
  have VF := Lib.hid hvf; clear hvf hv
  have i43 : (Tryz.prog.info? 47).map (·.size) = some (noteA n sa sc).size := by kernel_rfl
  have h43 := noteA_one n sa sc
  have I43 := Lib.hid i43; clear i43
  have s1 : (w.alloc (.cells #[.int .i64 f.rings, .int .i64 f.sectors, .int .i64 f.wide] 174)).heap.size = w.heap.size + 1 := by simp
  have g5 := fun Z => heap_before ((w.alloc (.cells #[.int .i64 f.rings, .int .i64 f.sectors, .int .i64 f.wide] 174)).alloc (.cells (noteA n sa sc) 47)) Z _ _ (heap_at (w.alloc (.cells #[.int .i64 f.rings, .int .i64 f.sectors, .int .i64 f.wide] 174)) (.cells (noteA n sa sc) 47) _ s1)
  have g5' := fun Z Y => heap_before _ Y _ _ (g5 Z)
  have G5 := Lib.hid g5; clear g5 s1
  have G5' := Lib.hid g5'; clear g5'
  have FB := Lib.hid (four_blocks w (.cells #[.int .i64 f.rings, .int .i64 f.sectors, .int .i64 f.wide] 174) (.cells (noteA n sa sc) 47) (.cells (noteA zeroN none 0) 47) (.cells (noteA n sa sc) 47))
  unfold FrV.val
  go_enter Tryz.func165, Tryz.ntmps165
  go_wp2_with (first
    | (refine wpList_load_row rfl 47 _ rfl (w.heap.size + 1) rfl 47 (noteA n sa sc) (0, 0) _ ?hg Tryz.underlying47 rfl I43.out ?_; case hg => (first | exact G5.out _ | exact G5'.out _ _))
    | (refine wpList_store_newp _ rfl 47 _ _ rfl (w.heap.size + 3) ?hp _ (noteA n sa sc) rfl rfl I43.out rfl h43 ?_; case hp => simp))
  simp only [← noteA_zero]
  clear G5 G5'
  generalize hW : (((w.alloc (.cells #[.int .i64 f.rings, .int .i64 f.sectors, .int .i64 f.wide] 174)).alloc (.cells (noteA n sa sc) 47)).alloc (.cells (noteA zeroN none 0) 47)).alloc (.cells (noteA n sa sc) 47) = W0 at *
  obtain ⟨⟨e0, e1, e2, e3⟩, hb0, hp3⟩ := FB.out
  clear hW FB
  generalize hp0 : w.heap.size = p0 at *
  generalize hp1 : p0 + 1 = p1 at *
  generalize hp2 : p1 + 1 = p2 at *
  generalize hp3e : p2 + 1 = p3 at *
  have OR := Lib.hid (show p0 < p1 ∧ p1 < p2 ∧ p2 < p3 ∧ p3 < W0.heap.size by omega)
  have HP0 := Lib.hid hp0
  clear hp0 hp1 hp2 hp3e hp3
  refine (content4 n sa sc _).mono ?_
  rintro e w1 ⟨rfl, b1⟩
  have L1 := Lib.hid ((Loc.mk e0 e1 e2 e3 hb0 (by have := OR.out; omega) : Loc w W0 p0 p1 p2 p3 f n sa sc (noteA n sa sc)).below b1)
  clear OR b1 hb0 e0 e1 e2 e3
  have hlt3 : p3 < w1.heap.size := (Array.getElem?_eq_some_iff.1 L1.out.e3).1
  have hlt1 : p1 < w1.heap.size := (Array.getElem?_eq_some_iff.1 L1.out.e1).1
  have hlt0 : p0 < w1.heap.size := (Array.getElem?_eq_some_iff.1 L1.out.e0).1
  have k5 := note_cells L1.out.e3 5 _ rfl
  simp only [Nat.zero_add] at k5
  have f5 := note_frozen L1.out.e3 5
  have k14 := note_cells L1.out.e3 14 _ rfl
  simp only [Nat.zero_add] at k14
  have f14 := note_frozen L1.out.e3 14
  have k15 := note_cells L1.out.e3 15 _ rfl
  simp only [Nat.zero_add] at k15
  have f15 := note_frozen L1.out.e3 15
  go_wp2_with fail
  have e4 : ((((w1.setCell ⟨p3, 5, none⟩ (.int .i64 0)).setCell ⟨p3, 14, none⟩ (.int .i64 0)).setCell ⟨p3, 15, none⟩ (.slice none 0 0)).alloc (.cells #[.int .i64 n.stone, .int .i64 n.ring] 266)).heap[w1.heap.size]? = some (.cells #[.int .i64 n.stone, .int .i64 n.ring] 266 (0, 0)) := heap_at _ _ _ (by simp [World.setCell])
  generalize hWx : ((((w1.setCell ⟨p3, 5, none⟩ (.int .i64 0)).setCell ⟨p3, 14, none⟩ (.int .i64 0)).setCell ⟨p3, 15, none⟩ (.slice none 0 0)).alloc (.cells #[.int .i64 n.stone, .int .i64 n.ring] 266)) = Wx at *
  have L2 := Lib.hid (show Loc w Wx p0 p1 p2 p3 f n sa sc (noteA (saidN 4 n) none 0) from by rw [← hWx]; exact ((((L1.out.set 5 (.int .i64 0)).set 14 (.int .i64 0)).set 15 (.slice none 0 0)).alloc (.cells #[.int .i64 n.stone, .int .i64 n.ring] 266)))
  clear hWx L1
  generalize w1.heap.size = p4 at *
  have h4 := (Array.getElem?_eq_some_iff.1 e4).1
  have E4 := Lib.hid e4; clear e4
  clear k5 f5
  clear k14 f14
  clear k15 f15
  clear hlt3 hlt1 hlt0
  have c00 : Wx.cell? ⟨p0, 0, none⟩ = some (.int .i64 f.rings) := by simp [World.cell?, L2.out.e0]
  have c01 : Wx.cell? ⟨p0, 1, none⟩ = some (.int .i64 f.sectors) := by simp [World.cell?, L2.out.e0]
  have c02 : Wx.cell? ⟨p0, 2, none⟩ = some (.int .i64 f.wide) := by simp [World.cell?, L2.out.e0]
  have c40 : Wx.cell? ⟨p4, 0, none⟩ = some (.int .i64 n.stone) := by simp [World.cell?, E4.out]
  have c41 : Wx.cell? ⟨p4, 1, none⟩ = some (.int .i64 n.ring) := by simp [World.cell?, E4.out]
  have c110 := note_cells L2.out.e1 10 _ rfl
  simp only [Nat.zero_add] at c110
  have c111 := note_cells L2.out.e1 11 _ rfl
  simp only [Nat.zero_add] at c111
  have c115 := note_cells L2.out.e1 15 _ rfl
  simp only [Nat.zero_add] at c115
  have hr1 : f.rings ≤ 24 := VF.out.2.1
  have hr0 : 1 ≤ f.rings := VF.out.1
  refine (hin_any n.stone 0 1 _).mono ?_
  rintro e w3 ⟨rfl, rfl⟩
  cases h1 : inB n.stone 0 1
  · go_upto_region 25 with fail
    have hR : saidB f 4 n = false := by simp only [saidB]; simp [h1]
    have HRR := Lib.hid hR; clear hR
    have i43' : (Tryz.prog.info? 47).map (·.size) = some (noteA (saidN 4 n) none 0).size := by kernel_rfl
    have o43' := noteA_one (saidN 4 n) none 0
    have I43' := Lib.hid i43'; clear i43'
    have DN := Lib.hid (L2.out.done (noteA (saidN 4 n) none 0))
    go_wp2_with (first
      | (refine wpList_load_row rfl 47 _ rfl p3 rfl 47 (noteA (saidN 4 n) none 0) (0, 0) _ L2.out.e3 Tryz.underlying47 rfl I43'.out ?_)
      | (refine wpList_store_rowN rfl 47 _ _ rfl p2 (noteA zeroN none 0) (noteA (saidN 4 n) none 0) 47 rfl rfl L2.out.e2 I43'.out rfl o43' ?_))
    (try simp only [Exit.inBlock, Exit.then])
    refine bodyPost_ret (results_cell_row_tmp rfl _ _ p2 47 (noteA (saidN 4 n) none 0) (0, 0) _ rfl DN.out.1 Tryz.underlying47 rfl I43'.out) rfl ?_
    rw [HRR.out]
    exact ⟨rfl, by rw [HP0.out]; exact DN.out.2⟩
  · have H1 := Lib.hid h1
    go_wp2_with fail
    refine (hin_any n.ring 0 (f.rings - 1) _).mono ?_
    rintro e w3 ⟨rfl, rfl⟩
    cases h2 : inB n.ring 0 (f.rings - 1)
    · go_upto_region 25 with fail
      have hR : saidB f 4 n = false := by simp only [saidB]; simp [h2]
      have HRR := Lib.hid hR; clear hR
      have i43' : (Tryz.prog.info? 47).map (·.size) = some (noteA (saidN 4 n) none 0).size := by kernel_rfl
      have o43' := noteA_one (saidN 4 n) none 0
      have I43' := Lib.hid i43'; clear i43'
      have DN := Lib.hid (L2.out.done (noteA (saidN 4 n) none 0))
      go_wp2_with (first
        | (refine wpList_load_row rfl 47 _ rfl p3 rfl 47 (noteA (saidN 4 n) none 0) (0, 0) _ L2.out.e3 Tryz.underlying47 rfl I43'.out ?_)
        | (refine wpList_store_rowN rfl 47 _ _ rfl p2 (noteA zeroN none 0) (noteA (saidN 4 n) none 0) 47 rfl rfl L2.out.e2 I43'.out rfl o43' ?_))
      (try simp only [Exit.inBlock, Exit.then])
      refine bodyPost_ret (results_cell_row_tmp rfl _ _ p2 47 (noteA (saidN 4 n) none 0) (0, 0) _ rfl DN.out.1 Tryz.underlying47 rfl I43'.out) rfl ?_
      rw [HRR.out]
      exact ⟨rfl, by rw [HP0.out]; exact DN.out.2⟩
    · have H2 := Lib.hid h2
      go_wp2_with fail
      refine (hstrokes_any f.rings f.sectors f.wide sa _ sc n.strokes _ (hs.below (by rw [HP0.out]; exact L2.out.b)) ⟨VF.out.2.2.1, VF.out.2.2.2.1⟩ ⟨VF.out.2.2.2.2.1, VF.out.2.2.2.2.2⟩).mono ?_
      rintro e w3 ⟨rfl, b3⟩
      have L3 := Lib.hid (L2.out.below b3)
      have hR : saidB f 4 n = strokesB (f.sectors - f.wide) n.strokes := by simp only [saidB]; simp [h1, h2]
      have HRR := Lib.hid hR; clear hR
      have i43' : (Tryz.prog.info? 47).map (·.size) = some (noteA (saidN 4 n) none 0).size := by kernel_rfl
      have o43' := noteA_one (saidN 4 n) none 0
      have I43' := Lib.hid i43'; clear i43'
      have DN := Lib.hid (L3.out.done (noteA (saidN 4 n) none 0))
      go_wp2_with (first
        | (refine wpList_load_row rfl 47 _ rfl p3 rfl 47 (noteA (saidN 4 n) none 0) (0, 0) _ L3.out.e3 Tryz.underlying47 rfl I43'.out ?_)
        | (refine wpList_store_rowN rfl 47 _ _ rfl p2 (noteA zeroN none 0) (noteA (saidN 4 n) none 0) 47 rfl rfl L3.out.e2 I43'.out rfl o43' ?_))
      (try simp only [Exit.inBlock, Exit.then])
      refine bodyPost_ret (results_cell_row_tmp rfl _ _ p2 47 (noteA (saidN 4 n) none 0) (0, 0) _ rfl DN.out.1 Tryz.underlying47 rfl I43'.out) rfl ?_
      rw [HRR.out]
      exact ⟨rfl, by rw [HP0.out]; exact DN.out.2⟩
set_option maxHeartbeats 1000000 in
set_option maxRecDepth 100000 in
theorem said3 (hv : f.valid = true) : Calls Tryz.prog 165 #[f.val, .int .i64 3, .agg (noteA n sa sc)] w fun e w' => e = .returned (.tuple #[.agg (noteA (saidN 3 n) sa sc), .bool (saidB f 3 n)]) ∧ Below w.heap.size w w' := by
  have hvf : 1 ≤ f.rings ∧ f.rings ≤ 24 ∧ 2 ≤ f.sectors ∧ f.sectors ≤ 96 ∧ 1 ≤ f.wide ∧ f.wide ≤ f.sectors := by
    simp only [FrV.valid, Bool.and_eq_true, inB_true] at hv
    omega
  have VF := Lib.hid hvf; clear hvf hv
  have i43 : (Tryz.prog.info? 47).map (·.size) = some (noteA n sa sc).size := by kernel_rfl
  have h43 := noteA_one n sa sc
  have I43 := Lib.hid i43; clear i43
  have s1 : (w.alloc (.cells #[.int .i64 f.rings, .int .i64 f.sectors, .int .i64 f.wide] 174)).heap.size = w.heap.size + 1 := by simp
  have g5 := fun Z => heap_before ((w.alloc (.cells #[.int .i64 f.rings, .int .i64 f.sectors, .int .i64 f.wide] 174)).alloc (.cells (noteA n sa sc) 47)) Z _ _ (heap_at (w.alloc (.cells #[.int .i64 f.rings, .int .i64 f.sectors, .int .i64 f.wide] 174)) (.cells (noteA n sa sc) 47) _ s1)
  have g5' := fun Z Y => heap_before _ Y _ _ (g5 Z)
  have G5 := Lib.hid g5; clear g5 s1
  have G5' := Lib.hid g5'; clear g5'
  have FB := Lib.hid (four_blocks w (.cells #[.int .i64 f.rings, .int .i64 f.sectors, .int .i64 f.wide] 174) (.cells (noteA n sa sc) 47) (.cells (noteA zeroN none 0) 47) (.cells (noteA n sa sc) 47))
  unfold FrV.val
  go_enter Tryz.func165, Tryz.ntmps165
  go_wp2_with (first
    | (refine wpList_load_row rfl 47 _ rfl (w.heap.size + 1) rfl 47 (noteA n sa sc) (0, 0) _ ?hg Tryz.underlying47 rfl I43.out ?_; case hg => (first | exact G5.out _ | exact G5'.out _ _))
    | (refine wpList_store_newp _ rfl 47 _ _ rfl (w.heap.size + 3) ?hp _ (noteA n sa sc) rfl rfl I43.out rfl h43 ?_; case hp => simp))
  simp only [← noteA_zero]
  clear G5 G5'
  generalize hW : (((w.alloc (.cells #[.int .i64 f.rings, .int .i64 f.sectors, .int .i64 f.wide] 174)).alloc (.cells (noteA n sa sc) 47)).alloc (.cells (noteA zeroN none 0) 47)).alloc (.cells (noteA n sa sc) 47) = W0 at *
  obtain ⟨⟨e0, e1, e2, e3⟩, hb0, hp3⟩ := FB.out
  clear hW FB
  generalize hp0 : w.heap.size = p0 at *
  generalize hp1 : p0 + 1 = p1 at *
  generalize hp2 : p1 + 1 = p2 at *
  generalize hp3e : p2 + 1 = p3 at *
  have OR := Lib.hid (show p0 < p1 ∧ p1 < p2 ∧ p2 < p3 ∧ p3 < W0.heap.size by omega)
  have HP0 := Lib.hid hp0
  clear hp0 hp1 hp2 hp3e hp3
  refine (content3 n sa sc _).mono ?_
  rintro e w1 ⟨rfl, b1⟩
  have L1 := Lib.hid ((Loc.mk e0 e1 e2 e3 hb0 (by have := OR.out; omega) : Loc w W0 p0 p1 p2 p3 f n sa sc (noteA n sa sc)).below b1)
  clear OR b1 hb0 e0 e1 e2 e3
  have hlt3 : p3 < w1.heap.size := (Array.getElem?_eq_some_iff.1 L1.out.e3).1
  have hlt1 : p1 < w1.heap.size := (Array.getElem?_eq_some_iff.1 L1.out.e1).1
  have hlt0 : p0 < w1.heap.size := (Array.getElem?_eq_some_iff.1 L1.out.e0).1
  have k5 := note_cells L1.out.e3 5 _ rfl
  simp only [Nat.zero_add] at k5
  have f5 := note_frozen L1.out.e3 5
  have k12 := note_cells L1.out.e3 12 _ rfl
  simp only [Nat.zero_add] at k12
  have f12 := note_frozen L1.out.e3 12
  have k13 := note_cells L1.out.e3 13 _ rfl
  simp only [Nat.zero_add] at k13
  have f13 := note_frozen L1.out.e3 13
  have k10 := note_cells L1.out.e3 10 _ rfl
  simp only [Nat.zero_add] at k10
  have f10 := note_frozen L1.out.e3 10
  have k11 := note_cells L1.out.e3 11 _ rfl
  simp only [Nat.zero_add] at k11
  have f11 := note_frozen L1.out.e3 11
  go_wp2_with fail
  have e4 : ((((((w1.setCell ⟨p3, 5, none⟩ (.int .i64 0)).setCell ⟨p3, 12, none⟩ (.int .i64 0)).setCell ⟨p3, 13, none⟩ (.int .i64 0)).setCell ⟨p3, 10, none⟩ (.int .i64 0)).setCell ⟨p3, 11, none⟩ (.int .i64 0)).alloc (.cells #[.int .i64 n.stone, .int .i64 n.a, .int .i64 n.b] 263)).heap[w1.heap.size]? = some (.cells #[.int .i64 n.stone, .int .i64 n.a, .int .i64 n.b] 263 (0, 0)) := heap_at _ _ _ (by simp [World.setCell])
  generalize hWx : ((((((w1.setCell ⟨p3, 5, none⟩ (.int .i64 0)).setCell ⟨p3, 12, none⟩ (.int .i64 0)).setCell ⟨p3, 13, none⟩ (.int .i64 0)).setCell ⟨p3, 10, none⟩ (.int .i64 0)).setCell ⟨p3, 11, none⟩ (.int .i64 0)).alloc (.cells #[.int .i64 n.stone, .int .i64 n.a, .int .i64 n.b] 263)) = Wx at *
  have L2 := Lib.hid (show Loc w Wx p0 p1 p2 p3 f n sa sc (noteA (saidN 3 n) sa sc) from by rw [← hWx]; exact ((((((L1.out.set 5 (.int .i64 0)).set 12 (.int .i64 0)).set 13 (.int .i64 0)).set 10 (.int .i64 0)).set 11 (.int .i64 0)).alloc (.cells #[.int .i64 n.stone, .int .i64 n.a, .int .i64 n.b] 263)))
  clear hWx L1
  generalize w1.heap.size = p4 at *
  have h4 := (Array.getElem?_eq_some_iff.1 e4).1
  have E4 := Lib.hid e4; clear e4
  clear k5 f5
  clear k12 f12
  clear k13 f13
  clear k10 f10
  clear k11 f11
  clear hlt3 hlt1 hlt0
  have c00 : Wx.cell? ⟨p0, 0, none⟩ = some (.int .i64 f.rings) := by simp [World.cell?, L2.out.e0]
  have c01 : Wx.cell? ⟨p0, 1, none⟩ = some (.int .i64 f.sectors) := by simp [World.cell?, L2.out.e0]
  have c02 : Wx.cell? ⟨p0, 2, none⟩ = some (.int .i64 f.wide) := by simp [World.cell?, L2.out.e0]
  have c40 : Wx.cell? ⟨p4, 0, none⟩ = some (.int .i64 n.stone) := by simp [World.cell?, E4.out]
  have c41 : Wx.cell? ⟨p4, 1, none⟩ = some (.int .i64 n.a) := by simp [World.cell?, E4.out]
  have c42 : Wx.cell? ⟨p4, 2, none⟩ = some (.int .i64 n.b) := by simp [World.cell?, E4.out]
  have c110 := note_cells L2.out.e1 10 _ rfl
  simp only [Nat.zero_add] at c110
  have c111 := note_cells L2.out.e1 11 _ rfl
  simp only [Nat.zero_add] at c111
  have c115 := note_cells L2.out.e1 15 _ rfl
  simp only [Nat.zero_add] at c115
  refine (hin_any n.stone 0 1 _).mono ?_
  rintro e w3 ⟨rfl, rfl⟩
  cases h1 : inB n.stone 0 1
  · go_upto_region 25 with fail
    have hR : saidB f 3 n = false := by simp only [saidB]; simp [cellB, h1]
    have HRR := Lib.hid hR; clear hR
    have i43' : (Tryz.prog.info? 47).map (·.size) = some (noteA (saidN 3 n) sa sc).size := by kernel_rfl
    have o43' := noteA_one (saidN 3 n) sa sc
    have I43' := Lib.hid i43'; clear i43'
    have DN := Lib.hid (L2.out.done (noteA (saidN 3 n) sa sc))
    go_wp2_with (first
      | (refine wpList_load_row rfl 47 _ rfl p3 rfl 47 (noteA (saidN 3 n) sa sc) (0, 0) _ L2.out.e3 Tryz.underlying47 rfl I43'.out ?_)
      | (refine wpList_store_rowN rfl 47 _ _ rfl p2 (noteA zeroN none 0) (noteA (saidN 3 n) sa sc) 47 rfl rfl L2.out.e2 I43'.out rfl o43' ?_))
    (try simp only [Exit.inBlock, Exit.then])
    refine bodyPost_ret (results_cell_row_tmp rfl _ _ p2 47 (noteA (saidN 3 n) sa sc) (0, 0) _ rfl DN.out.1 Tryz.underlying47 rfl I43'.out) rfl ?_
    rw [HRR.out]
    exact ⟨rfl, by rw [HP0.out]; exact DN.out.2⟩
  · have H1 := Lib.hid h1
    go_wp2_with fail
    refine (cell_any f.rings f.sectors f.wide n.a _ ⟨VF.out.1, VF.out.2.1⟩ ⟨VF.out.2.2.1, VF.out.2.2.2.1⟩).mono ?_
    rintro e wa ⟨rfl, ba⟩
    have LA := Lib.hid (L2.out.below ba)
    have E4A := Lib.hid ((ba.block p4 (Array.getElem?_eq_some_iff.1 E4.out).1).trans E4.out)
    have c00_wa : wa.cell? ⟨p0, 0, none⟩ = some (.int .i64 f.rings) := by simp [World.cell?, LA.out.e0]
    have c01_wa : wa.cell? ⟨p0, 1, none⟩ = some (.int .i64 f.sectors) := by simp [World.cell?, LA.out.e0]
    have c02_wa : wa.cell? ⟨p0, 2, none⟩ = some (.int .i64 f.wide) := by simp [World.cell?, LA.out.e0]
    have c40_wa : wa.cell? ⟨p4, 0, none⟩ = some (.int .i64 n.stone) := by simp [World.cell?, E4A.out]
    have c41_wa : wa.cell? ⟨p4, 1, none⟩ = some (.int .i64 n.a) := by simp [World.cell?, E4A.out]
    have c42_wa : wa.cell? ⟨p4, 2, none⟩ = some (.int .i64 n.b) := by simp [World.cell?, E4A.out]
    have c110_wa := note_cells LA.out.e1 10 _ rfl
    simp only [Nat.zero_add] at c110_wa
    have c111_wa := note_cells LA.out.e1 11 _ rfl
    simp only [Nat.zero_add] at c111_wa
    have c115_wa := note_cells LA.out.e1 15 _ rfl
    simp only [Nat.zero_add] at c115_wa
    cases h2 : inB n.a 0 (f.rings * f.sectors - 1)
    · go_upto_region 25 with fail
      have hR : saidB f 3 n = false := by simp only [saidB]; simp [cellB, h2]
      have HRR := Lib.hid hR; clear hR
      have i43' : (Tryz.prog.info? 47).map (·.size) = some (noteA (saidN 3 n) sa sc).size := by kernel_rfl
      have o43' := noteA_one (saidN 3 n) sa sc
      have I43' := Lib.hid i43'; clear i43'
      have DN := Lib.hid (LA.out.done (noteA (saidN 3 n) sa sc))
      go_wp2_with (first
        | (refine wpList_load_row rfl 47 _ rfl p3 rfl 47 (noteA (saidN 3 n) sa sc) (0, 0) _ LA.out.e3 Tryz.underlying47 rfl I43'.out ?_)
        | (refine wpList_store_rowN rfl 47 _ _ rfl p2 (noteA zeroN none 0) (noteA (saidN 3 n) sa sc) 47 rfl rfl LA.out.e2 I43'.out rfl o43' ?_))
      (try simp only [Exit.inBlock, Exit.then])
      refine bodyPost_ret (results_cell_row_tmp rfl _ _ p2 47 (noteA (saidN 3 n) sa sc) (0, 0) _ rfl DN.out.1 Tryz.underlying47 rfl I43'.out) rfl ?_
      rw [HRR.out]
      exact ⟨rfl, by rw [HP0.out]; exact DN.out.2⟩
    · have H2 := Lib.hid h2
      by_cases hb1 : n.b = -1
      · have q1 : (n.b == -1) = true := by simp [hb1]
        have q1' : decide (n.b = -1) = true := by simp [hb1]
        have HB1 := Lib.hid hb1; clear hb1
        by_cases hne : n.a = n.b
        · have q2 : (n.a != n.b) = false := by simp [hne]
          have q2' : decide (n.a = n.b) = true := by simp [hne]
          have HNE := Lib.hid hne; clear hne
          go_upto_region 25 with fail
          have hR : saidB f 3 n = false := by simp only [saidB]; simp [cellB, h1, h2, q1', HNE.out]
          have HRR := Lib.hid hR; clear hR
          have i43' : (Tryz.prog.info? 47).map (·.size) = some (noteA (saidN 3 n) sa sc).size := by kernel_rfl
          have o43' := noteA_one (saidN 3 n) sa sc
          have I43' := Lib.hid i43'; clear i43'
          have DN := Lib.hid (LA.out.done (noteA (saidN 3 n) sa sc))
          go_wp2_with (first
            | (refine wpList_load_row rfl 47 _ rfl p3 rfl 47 (noteA (saidN 3 n) sa sc) (0, 0) _ LA.out.e3 Tryz.underlying47 rfl I43'.out ?_)
            | (refine wpList_store_rowN rfl 47 _ _ rfl p2 (noteA zeroN none 0) (noteA (saidN 3 n) sa sc) 47 rfl rfl LA.out.e2 I43'.out rfl o43' ?_))
          (try simp only [Exit.inBlock, Exit.then])
          refine bodyPost_ret (results_cell_row_tmp rfl _ _ p2 47 (noteA (saidN 3 n) sa sc) (0, 0) _ rfl DN.out.1 Tryz.underlying47 rfl I43'.out) rfl ?_
          rw [HRR.out]
          exact ⟨rfl, by rw [HP0.out]; exact DN.out.2⟩
        · have q2 : (n.a != n.b) = true := by simp [hne]
          have q2' : decide (n.a = n.b) = false := by simp [hne]
          have HNE := Lib.hid hne; clear hne
          go_wp2_with fail
          refine (spans_any n.diffLo n.diffHi (-1000000000) 1000000000 _).mono ?_
          rintro e w9 ⟨rfl, b9⟩
          have L9 := Lib.hid (LA.out.below b9)
          have hR : saidB f 3 n = spansB n.diffLo n.diffHi (-1000000000) 1000000000 := by simp only [saidB]; simp [cellB, h1, h2, q1', HNE.out]
          have HRR := Lib.hid hR; clear hR
          have i43' : (Tryz.prog.info? 47).map (·.size) = some (noteA (saidN 3 n) sa sc).size := by kernel_rfl
          have o43' := noteA_one (saidN 3 n) sa sc
          have I43' := Lib.hid i43'; clear i43'
          have DN := Lib.hid (L9.out.done (noteA (saidN 3 n) sa sc))
          go_wp2_with (first
            | (refine wpList_load_row rfl 47 _ rfl p3 rfl 47 (noteA (saidN 3 n) sa sc) (0, 0) _ L9.out.e3 Tryz.underlying47 rfl I43'.out ?_)
            | (refine wpList_store_rowN rfl 47 _ _ rfl p2 (noteA zeroN none 0) (noteA (saidN 3 n) sa sc) 47 rfl rfl L9.out.e2 I43'.out rfl o43' ?_))
          (try simp only [Exit.inBlock, Exit.then])
          refine bodyPost_ret (results_cell_row_tmp rfl _ _ p2 47 (noteA (saidN 3 n) sa sc) (0, 0) _ rfl DN.out.1 Tryz.underlying47 rfl I43'.out) rfl ?_
          rw [HRR.out]
          exact ⟨rfl, by rw [HP0.out]; exact DN.out.2⟩
      · have q1 : (n.b == -1) = false := by simp [hb1]
        have q1' : decide (n.b = -1) = false := by simp [hb1]
        have HB1 := Lib.hid hb1; clear hb1
        go_wp2_with fail
        refine (cell_any f.rings f.sectors f.wide n.b _ ⟨VF.out.1, VF.out.2.1⟩ ⟨VF.out.2.2.1, VF.out.2.2.2.1⟩).mono ?_
        rintro e wb ⟨rfl, bb⟩
        have LB := Lib.hid (LA.out.below bb)
        have E4B := Lib.hid ((bb.block p4 (Array.getElem?_eq_some_iff.1 E4A.out).1).trans E4A.out)
        have c00_wb : wb.cell? ⟨p0, 0, none⟩ = some (.int .i64 f.rings) := by simp [World.cell?, LB.out.e0]
        have c01_wb : wb.cell? ⟨p0, 1, none⟩ = some (.int .i64 f.sectors) := by simp [World.cell?, LB.out.e0]
        have c02_wb : wb.cell? ⟨p0, 2, none⟩ = some (.int .i64 f.wide) := by simp [World.cell?, LB.out.e0]
        have c40_wb : wb.cell? ⟨p4, 0, none⟩ = some (.int .i64 n.stone) := by simp [World.cell?, E4B.out]
        have c41_wb : wb.cell? ⟨p4, 1, none⟩ = some (.int .i64 n.a) := by simp [World.cell?, E4B.out]
        have c42_wb : wb.cell? ⟨p4, 2, none⟩ = some (.int .i64 n.b) := by simp [World.cell?, E4B.out]
        have c110_wb := note_cells LB.out.e1 10 _ rfl
        simp only [Nat.zero_add] at c110_wb
        have c111_wb := note_cells LB.out.e1 11 _ rfl
        simp only [Nat.zero_add] at c111_wb
        have c115_wb := note_cells LB.out.e1 15 _ rfl
        simp only [Nat.zero_add] at c115_wb
        cases h3 : inB n.b 0 (f.rings * f.sectors - 1)
        · go_upto_region 25 with fail
          have hR : saidB f 3 n = false := by simp only [saidB]; simp [cellB, h1, h2, h3, q1']
          have HRR := Lib.hid hR; clear hR
          have i43' : (Tryz.prog.info? 47).map (·.size) = some (noteA (saidN 3 n) sa sc).size := by kernel_rfl
          have o43' := noteA_one (saidN 3 n) sa sc
          have I43' := Lib.hid i43'; clear i43'
          have DN := Lib.hid (LB.out.done (noteA (saidN 3 n) sa sc))
          go_wp2_with (first
            | (refine wpList_load_row rfl 47 _ rfl p3 rfl 47 (noteA (saidN 3 n) sa sc) (0, 0) _ LB.out.e3 Tryz.underlying47 rfl I43'.out ?_)
            | (refine wpList_store_rowN rfl 47 _ _ rfl p2 (noteA zeroN none 0) (noteA (saidN 3 n) sa sc) 47 rfl rfl LB.out.e2 I43'.out rfl o43' ?_))
          (try simp only [Exit.inBlock, Exit.then])
          refine bodyPost_ret (results_cell_row_tmp rfl _ _ p2 47 (noteA (saidN 3 n) sa sc) (0, 0) _ rfl DN.out.1 Tryz.underlying47 rfl I43'.out) rfl ?_
          rw [HRR.out]
          exact ⟨rfl, by rw [HP0.out]; exact DN.out.2⟩
        · have H3 := Lib.hid h3
          by_cases hne : n.a = n.b
          · have q2 : (n.a != n.b) = false := by simp [hne]
            have q2' : decide (n.a = n.b) = true := by simp [hne]
            have HNE := Lib.hid hne; clear hne
            go_upto_region 25 with fail
            have hR : saidB f 3 n = false := by simp only [saidB]; simp [cellB, h1, h2, h3, q1', HNE.out]
            have HRR := Lib.hid hR; clear hR
            have i43' : (Tryz.prog.info? 47).map (·.size) = some (noteA (saidN 3 n) sa sc).size := by kernel_rfl
            have o43' := noteA_one (saidN 3 n) sa sc
            have I43' := Lib.hid i43'; clear i43'
            have DN := Lib.hid (LB.out.done (noteA (saidN 3 n) sa sc))
            go_wp2_with (first
              | (refine wpList_load_row rfl 47 _ rfl p3 rfl 47 (noteA (saidN 3 n) sa sc) (0, 0) _ LB.out.e3 Tryz.underlying47 rfl I43'.out ?_)
              | (refine wpList_store_rowN rfl 47 _ _ rfl p2 (noteA zeroN none 0) (noteA (saidN 3 n) sa sc) 47 rfl rfl LB.out.e2 I43'.out rfl o43' ?_))
            (try simp only [Exit.inBlock, Exit.then])
            refine bodyPost_ret (results_cell_row_tmp rfl _ _ p2 47 (noteA (saidN 3 n) sa sc) (0, 0) _ rfl DN.out.1 Tryz.underlying47 rfl I43'.out) rfl ?_
            rw [HRR.out]
            exact ⟨rfl, by rw [HP0.out]; exact DN.out.2⟩
          · have q2 : (n.a != n.b) = true := by simp [hne]
            have q2' : decide (n.a = n.b) = false := by simp [hne]
            have HNE := Lib.hid hne; clear hne
            go_wp2_with fail
            refine (spans_any n.diffLo n.diffHi (-1000000000) 1000000000 _).mono ?_
            rintro e w9 ⟨rfl, b9⟩
            have L9 := Lib.hid (LB.out.below b9)
            have hR : saidB f 3 n = spansB n.diffLo n.diffHi (-1000000000) 1000000000 := by simp only [saidB]; simp [cellB, h1, h2, h3, q1', HNE.out]
            have HRR := Lib.hid hR; clear hR
            have i43' : (Tryz.prog.info? 47).map (·.size) = some (noteA (saidN 3 n) sa sc).size := by kernel_rfl
            have o43' := noteA_one (saidN 3 n) sa sc
            have I43' := Lib.hid i43'; clear i43'
            have DN := Lib.hid (L9.out.done (noteA (saidN 3 n) sa sc))
            go_wp2_with (first
              | (refine wpList_load_row rfl 47 _ rfl p3 rfl 47 (noteA (saidN 3 n) sa sc) (0, 0) _ L9.out.e3 Tryz.underlying47 rfl I43'.out ?_)
              | (refine wpList_store_rowN rfl 47 _ _ rfl p2 (noteA zeroN none 0) (noteA (saidN 3 n) sa sc) 47 rfl rfl L9.out.e2 I43'.out rfl o43' ?_))
            (try simp only [Exit.inBlock, Exit.then])
            refine bodyPost_ret (results_cell_row_tmp rfl _ _ p2 47 (noteA (saidN 3 n) sa sc) (0, 0) _ rfl DN.out.1 Tryz.underlying47 rfl I43'.out) rfl ?_
            rw [HRR.out]
            exact ⟨rfl, by rw [HP0.out]; exact DN.out.2⟩
end
end Go.Proofs.YtlnhppgfhkkidaaGreat
namespace Go.Proofs.YtlnhppgfhkkidaaGreat
open Go.RowKit

theorem wpList_load_rowG {P : Program} {ops : Array Oper} {rest : List Oper} {o : Oper} {a : Act} {w : World} {Q : Exit → Act → World → Prop} (hw : Region.wanted o (yielded ops a.tmps) = true) (ty : TypeId) (x : Operand) (ho : o.op = .load ty x)
    (g : Nat) (hx : a.eval x = .pointer (some ⟨g, 0, none⟩)) (t : TypeId) (cs : Array Value) (fr : Nat × Nat) (d : TypeDesc) (hg : w.heap[g]? = some (.cells cs t fr))
    (hu : P.underlying ty = some d) (hd : (match d with | .struct _ | .array _ _ => true | _ => false) = true) (hi : (P.info? ty).map (·.size) = some cs.size)
    (h : wpList P ops Q rest (a.put o.dst (.agg cs)) w) : wpList P ops Q (o :: rest) a w :=
  wpList_step fun _ hK => by rw [if_pos hw]; exact wp_load_row ty x ho g hx t cs fr d hg hu hd hi (hK _ _ h)

theorem said_any (f : FrV) (n : NoteV) (sa : Option Addr) (sc : Nat) (w : World) (hv : f.valid = true) (hs : RdI w sa n.strokes.length sc n.strokes) (k : Int) :
    Calls Tryz.prog 165 #[f.val, .int .i64 k, .agg (noteA n sa sc)] w fun e w' => ∃ ta tc, e = .returned (.tuple #[.agg (noteA (saidN k n) ta tc), .bool (saidB f k n)]) ∧
      (ta = sa ∧ tc = sc ∧ (saidN k n).strokes = n.strokes ∨ ta = none ∧ tc = 0 ∧ (saidN k n).strokes = []) ∧ Below w.heap.size w w' := by
  by_cases hk : 1 ≤ k ∧ k ≤ 6
  · have hk' : k = 1 ∨ k = 2 ∨ k = 3 ∨ k = 4 ∨ k = 5 ∨ k = 6 := by omega
    rcases hk' with rfl | rfl | rfl | rfl | rfl | rfl
    · refine (said1 f n sa sc w).mono ?_
      rintro e w' ⟨rfl, hb⟩
      exact ⟨sa, sc, rfl, .inl ⟨rfl, rfl, rfl⟩, hb⟩
    · refine (said2 f n sa sc w).mono ?_
      rintro e w' ⟨rfl, hb⟩
      exact ⟨sa, sc, rfl, .inl ⟨rfl, rfl, rfl⟩, hb⟩
    · refine (said3 f n sa sc w hv).mono ?_
      rintro e w' ⟨rfl, hb⟩
      exact ⟨sa, sc, rfl, .inl ⟨rfl, rfl, rfl⟩, hb⟩
    · refine (said4 f n sa sc w hv hs).mono ?_
      rintro e w' ⟨rfl, hb⟩
      exact ⟨none, 0, rfl, .inr ⟨rfl, rfl, rfl⟩, hb⟩
    · refine (said5 f n sa sc w).mono ?_
      rintro e w' ⟨rfl, hb⟩
      exact ⟨sa, sc, rfl, .inl ⟨rfl, rfl, rfl⟩, hb⟩
    · refine (said6 f n sa sc w).mono ?_
      rintro e w' ⟨rfl, hb⟩
      exact ⟨sa, sc, rfl, .inl ⟨rfl, rfl, rfl⟩, hb⟩
  · refine (said0 f n sa sc w k hk).mono ?_
    rintro e w' ⟨rfl, hb⟩
    refine ⟨sa, sc, rfl, .inl ⟨rfl, rfl, ?_⟩, hb⟩
    rw [saidN_other hk]

theorem said_rd {k : Int} {n : NoteV} {sa ta : Option Addr} {sc tc : Nat} (h : ta = sa ∧ tc = sc ∧ (saidN k n).strokes = n.strokes ∨ ta = none ∧ tc = 0 ∧ (saidN k n).strokes = []) {W : World} (hs : RdI W sa n.strokes.length sc n.strokes) :
    RdI W ta (saidN k n).strokes.length tc (saidN k n).strokes := by
  rcases h with ⟨rfl, rfl, h⟩ | ⟨rfl, rfl, h⟩
  · rw [h]; exact hs
  · rw [h]; exact RdA.nil W 1
def leftN (n : NoteV) : NoteV :=
  if n.kind = 2 then { saidN n.kind n with refH := 0, refN := 0 } else if n.kind = 5 then { saidN n.fix (saidN n.kind n) with fix := 0 } else saidN n.kind n
def bareN (n : NoteV) : NoteV := { leftN n with house := 0, num := 0, clock := 0, day := 0, kind := 0 }
def okB (f : FrV) (n : NoteV) : Bool :=
  if n.kind = 2 then saidB f n.kind n && rightNameB n.refH n.refN else if n.kind = 5 then saidB f n.kind n && (saidB f n.fix (saidN n.kind n) && inB n.fix 1 4) else saidB f n.kind n
def formedB (f : FrV) (n : NoteV) : Bool := okB f n && (rightNameB n.house n.num && (inB n.clock 1 1099511627776 && (inB n.day 0 99999 && sameB (bareN n) zeroN)))

structure Loc3 (w W : World) (p0 p1 p2 : Nat) (f : FrV) (n : NoteV) (sa : Option Addr) (sc : Nat) (C : Array Value) : Prop where
  e0 : W.heap[p0]? = some (.cells #[.int .i64 f.rings, .int .i64 f.sectors, .int .i64 f.wide] 174 (0, 0))
  e1 : W.heap[p1]? = some (.cells (noteA n sa sc) 47 (0, 0))
  e2 : W.heap[p2]? = some (.cells C 47 (0, 0))
  b : Below p0 w W
  lt : p0 < p1 ∧ p1 < p2
section
variable {w W W' : World} {p0 p1 p2 : Nat} {f : FrV} {n : NoteV} {sa : Option Addr} {sc : Nat} {C : Array Value}
theorem Loc3.below (h : Loc3 w W p0 p1 p2 f n sa sc C) (hb : Below W.heap.size W W') : Loc3 w W' p0 p1 p2 f n sa sc C := by
  have g : ∀ {k : Nat} {o : Obj}, W.heap[k]? = some o → W'.heap[k]? = some o := fun {k o} hk => (hb.block k (Array.getElem?_eq_some_iff.1 hk).1).trans hk
  have h0 := (Array.getElem?_eq_some_iff.1 h.e0).1
  exact ⟨g h.e0, g h.e1, g h.e2, h.b.trans (hb.mono (by omega)), h.lt⟩
theorem Loc3.alloc (h : Loc3 w W p0 p1 p2 f n sa sc C) (o : Obj) : Loc3 w (W.alloc o) p0 p1 p2 f n sa sc C := h.below ((Below.refl _ _).alloc (Nat.le_refl _) _)
theorem Loc3.set (h : Loc3 w W p0 p1 p2 f n sa sc C) (j : Nat) (v : Value) : Loc3 w (W.setCell ⟨p2, j, none⟩ v) p0 p1 p2 f n sa sc (C.setIfInBounds j v) := by
  have g : ∀ {k : Nat}, k ≠ p2 → (W.setCell ⟨p2, j, none⟩ v).heap[k]? = W.heap[k]? := fun {k} hk => Below.heap_setCell W ⟨p2, j, none⟩ v k hk
  have hl := h.lt
  exact ⟨(g (by omega)).trans h.e0, (g (by omega)).trans h.e1, heap_setCell_same W p2 j C 47 v h.e2, h.b.trans ⟨rfl, rfl, rfl, by simp [World.setCell], fun k hk => g (by omega)⟩, h.lt⟩
theorem Loc3.setRow (h : Loc3 w W p0 p1 p2 f n sa sc C) (C' : Array Value) : Loc3 w (W.setRow p2 C') p0 p1 p2 f n sa sc C' := by
  have hl := h.lt
  exact ⟨(setRow_other W p2 p0 C' (by omega)).trans h.e0, (setRow_other W p2 p1 C' (by omega)).trans h.e1, setRow_heap W p2 _ C' _ _ h.e2, h.b.trans ⟨rfl, rfl, rfl, by simp, fun k hk => setRow_other W p2 k C' (by omega)⟩, h.lt⟩
end
end Go.Proofs.YtlnhppgfhkkidaaGreat
namespace Go.Proofs.YtlnhppgfhkkidaaGreat
open Go.RowKit

def bare0 (n : NoteV) : NoteV := { n with house := 0, num := 0, clock := 0, day := 0, kind := 0, refH := 0, refN := 0, fix := 0 }
def bareR (k : Int) (n : NoteV) : NoteV :=
  if k = 1 then { bare0 n with hardLo := 0, hardHi := 0 } else if k = 2 then { bare0 n with turns := 0 } else if k = 3 then { bare0 n with stone := 0, a := 0, b := 0, diffLo := 0, diffHi := 0 }
  else if k = 4 then { bare0 n with stone := 0, ring := 0, strokes := [] } else bare0 n
structure Loc2 (w W : World) (p0 p1 p2 : Nat) (C : Array Value) : Prop where
  e1 : W.heap[p1]? = some (.cells (noteA zeroN none 0) 47 (0, 0))
  e2 : W.heap[p2]? = some (.cells C 47 (0, 0))
  b : Below p0 w W
  lt : p0 < p1 ∧ p1 < p2
theorem Loc2.set {w W : World} {p0 p1 p2 : Nat} {C : Array Value} (h : Loc2 w W p0 p1 p2 C) (j : Nat) (v : Value) : Loc2 w (W.setCell ⟨p2, j, none⟩ v) p0 p1 p2 (C.setIfInBounds j v) := by
  have g : ∀ {k : Nat}, k ≠ p2 → (W.setCell ⟨p2, j, none⟩ v).heap[k]? = W.heap[k]? := fun {k} hk => Below.heap_setCell W ⟨p2, j, none⟩ v k hk
  have hl := h.lt
  exact ⟨(g (by omega)).trans h.e1, heap_setCell_same W p2 j C 47 v h.e2, h.b.trans ⟨rfl, rfl, rfl, by simp [World.setCell], fun k hk => g (by omega)⟩, h.lt⟩
theorem Loc2.done {w W : World} {p0 p1 p2 : Nat} {C : Array Value} (h : Loc2 w W p0 p1 p2 C) (C' : Array Value) : (W.setRow p1 C').heap[p1]? = some (.cells C' 47 (0, 0)) ∧ Below p0 w (W.setRow p1 C') := by
  have hl := h.lt
  exact ⟨setRow_heap W p1 _ C' _ _ h.e1, h.b.trans ⟨rfl, rfl, rfl, by simp, fun k hk => setRow_other W p1 k C' (by omega)⟩⟩

section
attribute [local go_sem] noteA_0 noteA_1 noteA_2 noteA_3 noteA_4 noteA_5 noteA_6 noteA_7 noteA_8 noteA_9 noteA_10 noteA_11 noteA_12 noteA_13 noteA_14 noteA_15 noteA_16 noteA_17 noteA_18 noteA_s0 noteA_s1 noteA_s2 noteA_s3 noteA_s4 noteA_s5 noteA_s6 noteA_s7 noteA_s8 noteA_s9 noteA_s10 noteA_s11 noteA_s12 noteA_s13 noteA_s14 noteA_s15 noteA_s16 noteA_s17 noteA_s18
variable (n : NoteV) (sa : Option Addr) (sc : Nat) (w : World)
end
end Go.Proofs.YtlnhppgfhkkidaaGreat
namespace Go.Proofs.YtlnhppgfhkkidaaGreat
open Go.RowKit

def rightB (f : FrV) (k : Int) (n : NoteV) : Bool :=
  if k = 1 then spansB n.hardLo n.hardHi 1 255 else if k = 2 then inB n.turns 1 10000
  else if k = 3 then inB n.stone 0 1 && (inB n.a 0 (f.rings * f.sectors - 1) && (inB n.b (-1) (f.rings * f.sectors - 1) && (decide (n.a ≠ n.b) && spansB n.diffLo n.diffHi (-1000000000) 1000000000)))
  else if k = 4 then inB n.stone 0 1 && (inB n.ring 0 (f.rings - 1) && strokesB (f.sectors - f.wide) n.strokes)
  else false
section
attribute [local go_sem] noteA_0 noteA_1 noteA_2 noteA_3 noteA_4 noteA_5 noteA_6 noteA_7 noteA_8 noteA_9 noteA_10 noteA_11 noteA_12 noteA_13 noteA_14 noteA_15 noteA_16 noteA_17 noteA_18
variable (f : FrV) (n : NoteV) (sa : Option Addr) (sc : Nat) (w : World)
end
end Go.Proofs.YtlnhppgfhkkidaaGreat
namespace Go.Proofs.YtlnhppgfhkkidaaGreat
set_option linter.unusedSimpArgs false

def refersB (n : NoteV) : Bool := decide (n.kind = 2) || (decide (n.kind = 5) || decide (n.kind = 6))
def namedB (n : NoteV) : Bool := !decide (n.refH = 0 ∧ n.refN = 0)
def wellB (f : FrV) (n : NoteV) : Bool :=
  rightNameB n.house n.num && (inB n.clock 1 1099511627776 && (inB n.day 0 99999 && (!(refersB n != namedB n) && (!(refersB n && !rightNameB n.refH n.refN) &&
  (if n.kind = 6 then decide (n.fix = 0) && sameB (bareR 0 n) zeroN else if n.kind = 5 then rightB f n.fix n && sameB (bareR n.fix n) zeroN
   else decide (n.fix = 0) && (rightB f n.kind n && sameB (bareR n.kind n) zeroN))))))
theorem cell_or {f : FrV} (hv : f.valid = true) (x : Int) : (decide (x = -1) || cellB f x) = inB x (-1) (f.rings * f.sectors - 1) := by
  have hvf : 1 ≤ f.rings ∧ f.rings ≤ 24 ∧ 2 ≤ f.sectors ∧ f.sectors ≤ 96 ∧ 1 ≤ f.wide ∧ f.wide ≤ f.sectors := by
    simp only [FrV.valid, Bool.and_eq_true, inB_true] at hv
    omega
  have hm1 : 0 < f.rings * f.sectors := Int.mul_pos (by omega) (by omega)
  rw [Bool.eq_iff_iff]
  simp only [Bool.or_eq_true, decide_eq_true_eq, cellB, inB_true]
  omega
theorem zero14 (x : NoteV) : sameB x zeroN = decide (x.house = 0 ∧ x.num = 0 ∧ x.clock = 0 ∧ x.day = 0 ∧ x.kind = 0 ∧ x.stone = 0 ∧ x.heap = 0 ∧ x.turns = 0 ∧ x.hardLo = 0 ∧ x.hardHi = 0 ∧ x.diffLo = 0 ∧ x.diffHi = 0 ∧ x.a = 0 ∧ x.b = 0 ∧ x.ring = 0 ∧ x.refH = 0 ∧ x.refN = 0 ∧ x.fix = 0 ∧ x.strokes = []) := by
  obtain ⟨x0, x1, x2, x3, x4, x5, x6, x7, x8, x9, x10, x11, x12, x13, x14, x15, x16, x17, l⟩ := x
  simp only [sameB, nums14, zeroN]
  grind
theorem rightName_some {h m : Int} (e : rightNameB h m = true) : ¬ (h = 0 ∧ m = 0) := by
  simp only [rightNameB, Bool.and_eq_true, inB_true] at e
  omega
theorem formed_well {f : FrV} (hv : f.valid = true) (n : NoteV) : formedB f n = wellB f n := by
  have hc := cell_or hv
  have ha : cellB f n.a = inB n.a 0 (f.rings * f.sectors - 1) := rfl
  simp only [formedB, wellB, okB, zero14]
  have hn := @rightName_some n.refH n.refN
  by_cases h1 : n.kind = 1
  · simp [h1, bareN, leftN, saidN, bareR, bare0, saidB, rightB, refersB, namedB]
    grind
  by_cases h2 : n.kind = 2
  · simp [h2, bareN, leftN, saidN, bareR, bare0, saidB, rightB, refersB, namedB]
    grind
  by_cases h3 : n.kind = 3
  · simp [h3, bareN, leftN, saidN, bareR, bare0, saidB, rightB, refersB, namedB, ← hc]
    grind
  by_cases h4 : n.kind = 4
  · simp [h4, bareN, leftN, saidN, bareR, bare0, saidB, rightB, refersB, namedB]
    grind
  by_cases h6 : n.kind = 6
  · simp [h6, bareN, leftN, saidN, bareR, bare0, saidB, rightB, refersB, namedB]
    grind
  by_cases h5 : n.kind = 5
  · by_cases g1 : n.fix = 1
    · simp [h5, g1, bareN, leftN, saidN, bareR, bare0, saidB, rightB, refersB, namedB, inB]
      grind
    by_cases g2 : n.fix = 2
    · simp [h5, g2, bareN, leftN, saidN, bareR, bare0, saidB, rightB, refersB, namedB, inB]
      grind
    by_cases g3 : n.fix = 3
    · simp [h5, g3, bareN, leftN, saidN, bareR, bare0, saidB, rightB, refersB, namedB, ← hc, show inB 3 1 4 = true from rfl]
      grind
    by_cases g4 : n.fix = 4
    · simp [h5, g4, bareN, leftN, saidN, bareR, bare0, saidB, rightB, refersB, namedB, inB]
      grind
    have hf : inB n.fix 1 4 = false := by rw [← Bool.not_eq_true, inB_true]; omega
    simp [h5, g1, g2, g3, g4, rightB, hf]
  simp [h1, h2, h3, h4, h5, h6, saidB, rightB]
def encU (u : Nat) : List UInt8 := if u < 128 then [UInt8.ofNat u] else UInt8.ofNat (u % 128 + 128) :: encU (u / 128)
termination_by u
decreasing_by omega
theorem encU_lt {u : Nat} (h : u < 128) : encU u = [UInt8.ofNat u] := by rw [encU, if_pos h]
theorem encU_ge {u : Nat} (h : 128 ≤ u) : encU u = UInt8.ofNat (u % 128 + 128) :: encU (u / 128) := by rw [encU, if_neg (by omega)]
def zig (z : Int) : Nat := if 0 ≤ z then (2 * z).toNat else (-2 * z - 1).toNat
def zag (u : Nat) : Int := if u % 2 = 0 then (u / 2 : Nat) else -((u / 2 : Nat) : Int) - 1
theorem zag_zig (z : Int) : zag (zig z) = z := by
  unfold zig zag
  split <;> split <;> omega
def decP (i u : Nat) : List UInt8 → Option (Nat × List UInt8)
  | [] => none
  | c :: t => if 9 ≤ i then none else if c.toNat < 128 then some (u + c.toNat % 128 * 128 ^ i, t) else decP (i + 1) (u + c.toNat % 128 * 128 ^ i) t
theorem toNat_of {n : Nat} (h : n < 256) : (UInt8.ofNat n).toNat = n := by
  simp only [UInt8.toNat_ofNat']
  omega
theorem decP_of_enc (m : Nat) : ∀ (i u : Nat) (t : List UInt8), i ≤ 8 → m * 128 ^ i < 2 ^ 63 → decP i u (encU m ++ t) = some (u + m * 128 ^ i, t) := by
  induction m using Nat.strongRecOn with
  | ind m ih =>
    intro i u t hi hm
    by_cases h : m < 128
    · rw [encU_lt h, List.singleton_append, decP, toNat_of (by omega), if_neg (by omega), if_pos h, Nat.mod_eq_of_lt h]
    · have h8 : i ≠ 8 := fun h => by subst h; omega
      rw [encU_ge (by omega), List.cons_append, decP, toNat_of (by omega), if_neg (by omega), if_neg (by omega), show (m % 128 + 128) % 128 = m % 128 by omega]
      have e : m / 128 * 128 ^ (i + 1) + m % 128 * 128 ^ i = m * 128 ^ i := by
        rw [Nat.pow_succ, ← Nat.mul_assoc, Nat.mul_comm _ 128, ← Nat.mul_assoc, ← Nat.add_mul]
        congr 1
        omega
      rw [ih (m / 128) (by omega) (i + 1) _ t (by omega) (by omega), ← e]
      simp only [Option.some.injEq, Prod.mk.injEq, and_true]
      omega

def far : Int := 4611686018427387904
def SmallZ (z : Int) : Prop := -far ≤ z ∧ z < far
theorem zig_small {z : Int} : zig z < 2 ^ 63 ↔ SmallZ z := by
  unfold zig SmallZ far
  split <;> omega
def encZ (z : Int) : List UInt8 := encU (zig z)
def encL (l : List Int) : List UInt8 := l.flatMap encZ
def numP (l : List UInt8) : Option (Int × List UInt8) := match decP 0 0 l with
  | some (u, t) => some (zag u, t)
  | none => none
theorem numP_of_enc {z : Int} (hz : SmallZ z) (t : List UInt8) : numP (encZ z ++ t) = some (z, t) := by
  have h := zig_small.2 hz
  unfold numP encZ
  rw [decP_of_enc (zig z) 0 0 t (by omega) (by omega)]
  simp only [Nat.pow_zero, Nat.mul_one, Nat.zero_add, zag_zig]
def many (f : List UInt8 → Option (Int × List UInt8)) : Nat → List UInt8 → Option (List Int × List UInt8)
  | 0, l => some ([], l)
  | k + 1, l => match many f k l with
    | some (xs, t) => match f t with
      | some (z, t') => some (xs ++ [z], t')
      | none => none
    | none => none
theorem many_len {f : List UInt8 → Option (Int × List UInt8)} : ∀ (k : Nat) (l : List UInt8) (xs : List Int) (t : List UInt8), many f k l = some (xs, t) → xs.length = k
  | 0, l, xs, t, h => by simp only [many, Option.some.injEq, Prod.mk.injEq] at h; rw [← h.1]; rfl
  | k + 1, l, xs, t, h => by
    rw [many] at h
    split at h
    · rename_i ys t1 e
      split at h
      · simp only [Option.some.injEq, Prod.mk.injEq] at h
        rw [← h.1, List.length_append, many_len k l ys t1 e]
        rfl
      · cases h
    · cases h
theorem encL_append (x y : List Int) : encL (x ++ y) = encL x ++ encL y := by simp [encL]
theorem encL_one (z : Int) : encL [z] = encZ z := by simp [encL]
theorem many_of_enc {f : List UInt8 → Option (Int × List UInt8)} (hf : ∀ z, SmallZ z → ∀ t, f (encZ z ++ t) = some (z, t)) (xs : List Int) : ∀ (k : Nat), k ≤ xs.length → (∀ z ∈ xs, SmallZ z) → ∀ t, many f k (encL (xs.take k) ++ t) = some (xs.take k, t)
  | 0, _, _, t => by simp [many, encL]
  | k + 1, hk, hs, t => by
    have hx : xs.take (k + 1) = xs.take k ++ [xs[k]] := by rw [List.take_append_getElem]
    rw [hx, encL_append, encL_one, List.append_assoc, many, many_of_enc hf xs k (by omega) hs]
    simp only [hf _ (hs _ (List.getElem_mem _))]
theorem many_enc_all {f : List UInt8 → Option (Int × List UInt8)} (hf : ∀ z, SmallZ z → ∀ t, f (encZ z ++ t) = some (z, t)) (xs : List Int) (hs : ∀ z ∈ xs, SmallZ z) (t : List UInt8) : many f xs.length (encL xs ++ t) = some (xs, t) := by
  have h := many_of_enc hf xs xs.length (Nat.le_refl _) hs t
  rwa [List.take_length] at h
theorem encU_pos (u : Nat) : 1 ≤ (encU u).length := by
  unfold encU
  split <;> simp
theorem encL_pos (l : List Int) : l.length ≤ (encL l).length := by
  induction l with
  | nil => simp [encL]
  | cons z l ih =>
    have h := encU_pos (zig z)
    rw [show encL (z :: l) = encZ z ++ encL l from rfl, List.length_append, List.length_cons, encZ]
    omega
def aheadN (n : NoteV) : List Int := [n.house, n.num, n.clock, n.day, n.kind, n.stone, n.heap, n.turns, n.hardLo, n.hardHi, n.diffLo, n.diffHi, n.a, n.b, n.ring]
def behindN (n : NoteV) : List Int := [n.refH, n.refN, n.fix]
def encN (n : NoteV) : List UInt8 := encL (aheadN n) ++ (encZ n.strokes.length ++ (encL n.strokes ++ encL (behindN n)))
def mkN (x y z : List Int) : NoteV := ⟨x[0]?.getD 0, x[1]?.getD 0, x[2]?.getD 0, x[3]?.getD 0, x[4]?.getD 0, x[5]?.getD 0, x[6]?.getD 0, x[7]?.getD 0, x[8]?.getD 0, x[9]?.getD 0, x[10]?.getD 0, x[11]?.getD 0, x[12]?.getD 0, x[13]?.getD 0, x[14]?.getD 0, z[0]?.getD 0, z[1]?.getD 0, z[2]?.getD 0, y⟩
theorem mkN_self (n : NoteV) : mkN (aheadN n) n.strokes (behindN n) = n := rfl
def noteF (f : List UInt8 → Option (Int × List UInt8)) (l : List UInt8) : Option (NoteV × List UInt8) := match many f 15 l with
  | some (x, t) => match f t with
    | some (c, t1) => if 0 ≤ c ∧ c ≤ t1.length then match many f c.toNat t1 with
        | some (y, t2) => match many f 3 t2 with
          | some (z, t3) => some (mkN x y z, t3)
          | none => none
        | none => none
      else none
    | none => none
  | none => none
def SmallN (n : NoteV) : Prop := (∀ z ∈ aheadN n, SmallZ z) ∧ (∀ z ∈ n.strokes, SmallZ z) ∧ (∀ z ∈ behindN n, SmallZ z) ∧ SmallZ n.strokes.length
theorem note_of_enc {f : List UInt8 → Option (Int × List UInt8)} (hf : ∀ z, SmallZ z → ∀ t, f (encZ z ++ t) = some (z, t)) {n : NoteV} (h : SmallN n) (t : List UInt8) : noteF f (encN n ++ t) = some (n, t) := by
  obtain ⟨h1, h2, h3, h4⟩ := h
  unfold noteF encN
  simp only [List.append_assoc]
  have e1 := many_enc_all hf (aheadN n) h1
  rw [show (aheadN n).length = 15 from rfl] at e1
  rw [e1]
  have hp := encL_pos n.strokes
  simp only [hf _ h4, List.length_append]
  rw [if_pos (by omega), Int.toNat_natCast, many_enc_all hf n.strokes h2]
  have e3 := many_enc_all hf (behindN n) h3
  rw [show (behindN n).length = 3 from rfl] at e3
  simp only [e3, mkN_self]
theorem formed_small {f : FrV} (hv : f.valid = true) {n : NoteV} (h : formedB f n = true) : SmallN n := by
  have hvf : 1 ≤ f.rings ∧ f.rings ≤ 24 ∧ 2 ≤ f.sectors ∧ f.sectors ≤ 96 ∧ 1 ≤ f.wide ∧ f.wide ≤ f.sectors := by
    simp only [FrV.valid, Bool.and_eq_true, inB_true] at hv
    omega
  have hm1 : 0 < f.rings * f.sectors := Int.mul_pos (by omega) (by omega)
  have hm2 : f.rings * f.sectors ≤ 24 * 96 := Int.mul_le_mul hvf.2.1 hvf.2.2.2.1 (by omega) (by omega)
  have hst : n.strokes = [] ∨ strokesB (f.sectors - f.wide) n.strokes = true := by
    rw [formed_well hv] at h
    simp only [wellB, zero14, bareR, bare0, rightB] at h
    grind
  have hs : (∀ z ∈ n.strokes, SmallZ z) ∧ SmallZ n.strokes.length := by
    rcases hst with e | e
    · rw [e]; simp [SmallZ, far]
    · simp only [strokesB, strokesP, Bool.and_eq_true, decide_eq_true_eq, inB_true] at e
      refine ⟨fun z hz => ?_, by unfold SmallZ far; omega⟩
      obtain ⟨i, hi, rfl⟩ := List.getElem_of_mem hz
      have := (e.1 i hi).1
      rw [List.getElem?_eq_getElem hi, Option.getD_some] at this
      unfold SmallZ far; omega
  have hk : 1 ≤ n.kind ∧ n.kind ≤ 6 := by
    simp only [formedB, okB, saidB] at h
    grind
  rw [formed_well hv] at h
  generalize hM : f.rings * f.sectors = M at *
  have hall : ∀ (x : Int), x ∈ aheadN n ++ behindN n → SmallZ x := by
    simp only [aheadN, behindN, List.cons_append, List.nil_append, List.forall_mem_cons, List.not_mem_nil, false_imp_iff, implies_true, and_true, SmallZ, far]
    obtain ⟨k1, k2⟩ := hk
    have hh : n.kind = 1 ∨ n.kind = 2 ∨ n.kind = 3 ∨ n.kind = 4 ∨ n.kind = 5 ∨ n.kind = 6 := by omega
    clear hs hst k1 k2
    rcases hh with e | e | e | e | e | e
    · simp [e, wellB, zero14, bareR, bare0, rightB, rightNameB, refersB, namedB, spansB, inB] at h
      omega
    · simp [e, wellB, zero14, bareR, bare0, rightB, rightNameB, refersB, namedB, spansB, inB] at h
      omega
    · simp [e, hM, wellB, zero14, bareR, bare0, rightB, rightNameB, refersB, namedB, spansB, inB] at h
      omega
    · simp [e, hM, wellB, zero14, bareR, bare0, rightB, rightNameB, refersB, namedB, spansB, inB] at h
      omega
    · have hx : n.fix = 1 ∨ n.fix = 2 ∨ n.fix = 3 ∨ n.fix = 4 := by
        simp [e, wellB, rightB] at h
        grind
      rcases hx with g | g | g | g
      · simp [e, g, hM, wellB, zero14, bareR, bare0, rightB, rightNameB, refersB, namedB, spansB, inB] at h
        omega
      · simp [e, g, hM, wellB, zero14, bareR, bare0, rightB, rightNameB, refersB, namedB, spansB, inB] at h
        omega
      · simp [e, g, hM, wellB, zero14, bareR, bare0, rightB, rightNameB, refersB, namedB, spansB, inB] at h
        omega
      · simp [e, g, hM, wellB, zero14, bareR, bare0, rightB, rightNameB, refersB, namedB, spansB, inB] at h
        omega
    · simp [e, hM, wellB, zero14, bareR, bare0, rightB, rightNameB, refersB, namedB, spansB, inB] at h
      omega
  exact ⟨fun z hz => hall z (List.mem_append_left _ hz), hs.1, fun z hz => hall z (List.mem_append_right _ hz), hs.2⟩
theorem decode_of_enc {f : FrV} (hv : f.valid = true) (n : NoteV) (hf : formedB f n = true) : noteF numP (encN n) = some (n, []) := by
  have h := note_of_enc (f := numP) (fun z hz t => numP_of_enc hz t) (formed_small hv hf) []
  rwa [List.append_nil] at h
end Go.Proofs.YtlnhppgfhkkidaaGreat
namespace Go.Proofs.YtlnhppgfhkkidaaGreat
open Go.RowKit

def U8 (base : Nat) (w : World) (k : Nat) : Prop := base ≤ k ∧ ∃ cur sp, w.heap[k]? = some (.cells cur 5 sp)
structure AppB (base : Nat) (w w' : World) : Prop where
  os : w'.os = w.os
  tape : w'.tape = w.tape
  output : w'.output = w.output
  size : w.heap.size ≤ w'.heap.size
  block : ∀ k, k < w.heap.size → ¬ U8 base w k → w'.heap[k]? = w.heap[k]?
theorem AppB.refl (base : Nat) (w : World) : AppB base w w := ⟨rfl, rfl, rfl, Nat.le_refl _, fun _ _ _ => rfl⟩
theorem AppB.not {base : Nat} {w w' : World} (h : AppB base w w') {k : Nat} (hk : k < w.heap.size) (hn : ¬ U8 base w k) : ¬ U8 base w' k := by
  rintro ⟨h1, cur, sp, h2⟩
  exact hn ⟨h1, cur, sp, by rw [← h.block k hk hn]; exact h2⟩
theorem AppB.trans {base : Nat} {a b c : World} (h : AppB base a b) (k : AppB base b c) : AppB base a c :=
  ⟨k.os.trans h.os, k.tape.trans h.tape, k.output.trans h.output, Nat.le_trans h.size k.size, fun i hi hs => (k.block i (Nat.lt_of_lt_of_le hi h.size) (h.not hi hs)).trans (h.block i hi hs)⟩
theorem AppB.of_below {base : Nat} {w w' : World} (h : Below w.heap.size w w') : AppB base w w' := ⟨h.os, h.tape, h.output, h.size, fun k hk _ => h.block k hk⟩
theorem AppB.mono {base base' : Nat} {w w' : World} (h : AppB base' w w') (hb : base ≤ base') : AppB base w w' :=
  ⟨h.os, h.tape, h.output, h.size, fun k hk hn => h.block k hk (fun ⟨h1, h2⟩ => hn ⟨Nat.le_trans hb h1, h2⟩)⟩
theorem AppB.of_own {base : Nat} {w w' : World} {v : Value} {n : Nat} {xs : List Value} (ho : w.ownsRow base 5 1 v n xs) (hg : w.grownBy w' v.ownBlock) : AppB base w w' := by
  refine ⟨hg.os, hg.tape, hg.output, hg.size, fun k hk hn => hg.block k hk (fun e => hn ?_)⟩
  rcases ho.2 with ⟨rfl, _⟩ | ⟨g, cap, cur, rfl, h1, h2, _⟩
  · cases e
  · simp only [Value.ownBlock, Option.some.injEq] at e
    subst e
    exact ⟨h1, cur, _, h2⟩
theorem AppB.below {base : Nat} {w w' : World} (h : AppB base w w') (hb : base ≤ w.heap.size) : Below base w w' :=
  ⟨h.os, h.tape, h.output, h.size, fun k hk => h.block k (by omega) (fun ⟨h1, _⟩ => by omega)⟩
def Apart (base : Nat) (w : World) (a : Option Addr) : Prop := ∀ b off, a = some ⟨b, off, none⟩ → b < w.heap.size → ¬ U8 base w b
theorem AppB.rd {base : Nat} {w w' : World} (h : AppB base w w') {k : Nat} {a : Option Addr} {n c : Nat} {xs : List Value} (hr : RdA w k a n c xs) (hn : Apart base w a) : RdA w' k a n c xs :=
  hr.of_cells fun b ⟨off, hb⟩ hlt => h.block b hlt (hn b off hb hlt)
theorem Apart.keep {base : Nat} {w w' : World} {a : Option Addr} (hn : Apart base w a) (h : AppB base w w') (hl : ∀ b off, a = some ⟨b, off, none⟩ → b < w.heap.size) : Apart base w' a :=
  fun b off e _ => h.not (hl b off e) (hn b off e (hl b off e))
theorem Apart.keep' {base : Nat} {w w' : World} {k : Nat} {a : Option Addr} {n c : Nat} {xs : List Value} (hn : Apart base w a) (h : AppB base w w') (hr : RdA w k a n c xs) (h0 : 0 < n) (hk : 0 < k) : Apart base w' a :=
  hn.keep h fun b off e => by
    obtain ⟨b', off', e', hc⟩ := hr.at h0
    rw [e] at e'
    cases e'
    have hl : 0 < xs.length := by rw [hr.len]; exact Nat.mul_pos h0 hk
    exact World.block_lt_of_cell? w _ (hc 0 _ (List.getElem?_eq_getElem hl))
theorem Apart.old {base : Nat} {w : World} {a : Option Addr} (h : ∀ b off, a = some ⟨b, off, none⟩ → b < base) : Apart base w a := fun b off e _ ⟨h1, _⟩ => by have := h b off e; omega
theorem not_U8 {base : Nat} {w : World} {k : Nat} {cur : Array Value} {t : TypeId} {sp : Nat × Nat} (h : w.heap[k]? = some (.cells cur t sp)) (ht : t ≠ 5) : ¬ U8 base w k := by
  rintro ⟨_, cur', sp', h'⟩
  rw [h] at h'
  simp only [Option.some.injEq, Obj.cells.injEq] at h'
  exact ht h'.2.1

theorem encU_len (u : Nat) : ∀ k, u < 128 ^ (k + 1) → (encU u).length ≤ k + 1 := by
  induction u using Nat.strongRecOn with
  | ind u ih =>
    intro k hk
    by_cases h : u < 128
    · rw [encU_lt h]; simp
    · cases k with
      | zero => simp at hk; omega
      | succ k =>
        rw [encU_ge (by omega), List.length_cons]
        have := ih (u / 128) (by omega) k (by rw [Nat.pow_succ] at hk; omega)
        omega
theorem zig_lt {z : Int} (h : I64 z) : zig z < 18446744073709551616 := by
  unfold I64 at h
  unfold zig
  split <;> omega
theorem encZ_len {z : Int} (h : I64 z) : (encZ z).length ≤ 10 := encU_len _ 9 (by have := zig_lt h; omega)
theorem encL_len (l : List Int) (h : ∀ z ∈ l, I64 z) : (encL l).length ≤ 10 * l.length := by
  induction l with
  | nil => simp [encL]
  | cons z l ih =>
    have h1 := encZ_len (h z (List.mem_cons_self ..))
    have h2 := ih (fun x hx => h x (List.mem_cons_of_mem _ hx))
    rw [show encL (z :: l) = encZ z ++ encL l from rfl, List.length_append, List.length_cons]
    omega
theorem encL_take {l : List Int} {k : Nat} (h : k < l.length) : encL (l.take (k + 1)) = encL (l.take k) ++ encZ (l[k]?.getD 0) := by
  rw [List.getElem?_eq_getElem h, Option.getD_some, ← encL_one, ← encL_append, List.take_append_getElem]
end Go.Proofs.YtlnhppgfhkkidaaGreat
namespace Go.Proofs.YtlnhppgfhkkidaaGreat
open Go.RowKit

theorem app_one {ops : Array Oper} {rest : List Oper} {o : Oper} {a : Act} {Q : Exit → Act → World → Prop} (w : World) (hgd : o.guard = none) (s x : Operand)
    (ho : o.op = .call { callee := .builtin .append, args := #[s, x], argTypes := #[41, 41] }) (base : Nat)
    (sa : Option Addr) (sn sc : Nat) (xs : List UInt8) (hs : a.eval s = .slice sa sn sc) (hown : w.ownsRow base 5 1 (.slice sa sn sc) sn (xs.map byteV))
    (c : UInt8) (v : Int) (hv : v = (c.toNat : Int)) (hx : a.eval x = .slice (some ⟨w.heap.size, 0, none⟩) 1 1) (hbytes : sn + 1 ≤ 140737488355328) (hbase : base ≤ w.heap.size)
    (h : ∀ a' c' w', w'.ownsRow base 5 1 (.slice a' (sn + 1) c') (sn + 1) ((xs ++ [c]).map byteV) → AppB base w w' → wpList Tryz.prog ops Q rest (a.put o.dst (.slice a' (sn + 1) c')) w') :
    wpList Tryz.prog ops Q (o :: rest) a (w.alloc (.cells #[.int .u8 v] 5)) := by
  subst hv
  have hb : Below w.heap.size w (w.alloc (.cells #[.int .u8 (c.toNat : Int)] 5)) := (Below.refl _ _).alloc (Nat.le_refl _) _
  have hr : (w.alloc (.cells #[.int .u8 (c.toNat : Int)] 5)).ownsRow w.heap.size 5 1 (.slice (some ⟨w.heap.size, 0, none⟩) 1 1) 1 ([c].map byteV) :=
    World.ownsRow_lit (base := w.heap.size) (e := 5) (size := 1) w #[.int .u8 (c.toNat : Int)] 1 (Nat.le_refl _) (by unfold maxLen; omega) rfl
  have ho2 := own_below hown hb
  exact app_bytes _ hgd s x ho base sa sn sc xs hs ho2 _ 1 1 [c] hx (RdB.of_own hr) hbytes (Nat.le_trans hbase hb.size)
    (fun a' c' w' h1 h2 => h a' c' w' h1 ((AppB.of_below hb).trans (AppB.of_own ho2 h2)))

theorem xor_max (m : Nat) (h : m < 18446744073709551616) : bits .xor .u64 IntKind.u64.max (m : Int) = ((18446744073709551615 - m : Nat) : Int) := by
  have h2 : (BitVec.ofInt 64 (m : Int)).toNat = m := by
    rw [BitVec.ofInt_natCast, BitVec.toNat_ofNat]; exact Nat.mod_eq_of_lt (by omega)
  show IntKind.u64.wrap ((BitVec.ofInt 64 18446744073709551615 ^^^ BitVec.ofInt 64 (m : Int)).toNat : Int) = _
  rw [show BitVec.ofInt 64 18446744073709551615 = BitVec.allOnes 64 from rfl, BitVec.allOnes_xor, BitVec.toNat_not, h2, IntKind.wrap_u64]
  omega
theorem zig_neg {z : Int} (h : I64 z) (hn : z < 0) : bits .xor .u64 IntKind.u64.max (IntKind.u64.wrap (2 * IntKind.u64.wrap z)) = (zig z : Int) := by
  unfold I64 at h
  rw [IntKind.wrap_u64, IntKind.wrap_u64, show 2 * (z % 18446744073709551616) % 18446744073709551616 = ((18446744073709551616 + 2 * z).toNat : Int) by omega, xor_max _ (by omega)]
  unfold zig
  rw [if_neg (by omega)]
  omega
theorem zig_pos {z : Int} (h : I64 z) (hn : 0 ≤ z) : IntKind.u64.wrap (2 * IntKind.u64.wrap z) = (zig z : Int) := by
  unfold I64 at h
  rw [IntKind.wrap_u64, IntKind.wrap_u64]
  unfold zig
  rw [if_pos hn]
  omega
theorem or128 (v : Nat) : bits .or .u8 ((v : Int) % 256) 128 = ((v % 128 + 128 : Nat) : Int) := by
  rw [show (v : Int) % 256 = ((v % 256 : Nat) : Int) by omega, show (128 : Int) = ((128 : Nat) : Int) from rfl, u8_or_nat _ _ (by omega) (by omega)]
  congr 1
  have h1 : v % 256 = v % 256 / 128 * 128 + v % 128 := by omega
  by_cases h : v % 256 < 128
  · rw [Nat.or_comm, nat_join 7 128 (v % 256) (by omega) (by omega)]
    omega
  · have h2 : v % 256 = 128 ||| v % 128 := by rw [nat_join 7 128 (v % 128) (by omega) (by omega)]; omega
    rw [h2, Nat.or_comm, ← Nat.or_assoc, Nat.or_self, nat_join 7 128 (v % 128) (by omega) (by omega)]
    omega
theorem encL_le (zs : List Int) (k : Nat) : (encL (zs.take k)).length ≤ (encL zs).length := by
  have h := encL_append (zs.take k) (zs.drop k)
  rw [List.take_append_drop] at h
  rw [h, List.length_append]
  omega

set_option maxHeartbeats 2000000 in
theorem putn_any (base : Nat) (sa : Option Addr) (sn sc : Nat) (xs : List UInt8) (la : Option Addr) (n lc : Nat) (zs : List Int) (w : World) (hbase : base ≤ w.heap.size)
    (hown : w.ownsRow base 5 1 (.slice sa sn sc) sn (xs.map byteV)) (hr : RdI w la n lc zs) (hap : 0 < n → Apart base w la) (hz : ∀ z ∈ zs, I64 z) (hlen : (xs ++ encL zs).length ≤ 140737488355328) :
    Calls Tryz.prog 143 #[.slice sa sn sc, .slice la n lc] w fun e w' => ∃ a' c', e = .returned (.slice a' (xs ++ encL zs).length c') ∧
      w'.ownsRow base 5 1 (.slice a' (xs ++ encL zs).length c') (xs ++ encL zs).length ((xs ++ encL zs).map byteV) ∧ AppB base w w' := by
  have hn := hr.maxn
  have hl := Lib.hid hr.len
  have HL := Lib.hid hlen; clear hlen
  have HZ := Lib.hid hz; clear hz
  have HO := Lib.hid hown
  have hsn : sn = xs.length := by have := hown.1; simpa using this.symm
  have hsg : IntKind.u64.signed = false := rfl
  clear hown
  have HB := Lib.hid hbase; clear hbase
  go_enter Tryz.func143, Tryz.ntmps143
  go_wp2_with fail
  go_loopw [0, 6, 7, 10] (fun b _ _ i wr => ∃ (k m : Nat) (a' : Option Addr) (c' : Nat), b = .slice a' m c' ∧ k ≤ n ∧ i = .int .i64 k ∧ Hid (wr.ownsRow base 5 1 (.slice a' m c') m ((xs ++ encL (zs.take k)).map byteV)) ∧ Hid (AppB base w wr)) (fun _ _ _ i _ => n - (intOf i).toNat)
  case atStart => exact ⟨0, sn, sa, sc, rfl, Nat.zero_le _, rfl, Lib.hid (by simpa [encL] using HO.out), Lib.hid (AppB.refl _ _)⟩
  case round =>
    obtain ⟨k, m, a', c', rfl, hk, rfl, HW, HA⟩ := hrel
    by_cases hlt : k < n
    · have hap1 := (hap (by omega)).keep' HA.out hr (by omega) (by omega)
      obtain ⟨b, off, rfl, hc⟩ := RdI.at (HA.out.rd hr (hap (by omega))) (by omega)
      have e1 := hc k hlt
      have hk64 : (k : Int) ≤ 9223372036854775807 := by omega
      have hzk := HZ.out (zs[k]?.getD 0) (by rw [List.getElem?_eq_getElem (by rw [hl.out]; exact hlt), Option.getD_some]; exact List.getElem_mem _)
      have HT := Lib.hid (encL_take (l := zs) (k := k) (by rw [hl.out]; exact hlt))
      generalize zs[k]?.getD 0 = z at *
      clear hc
      by_cases hneg : z < 0
      · have hu := zig_neg hzk hneg
        go_wp2_with fail
        go_loopw [0, 7] (fun b u wi => ∃ (v m2 : Nat) (ys : List UInt8) (a2 : Option Addr) (c2 : Nat), b = .slice a2 m2 c2 ∧ u = .int .u64 v ∧ v < 18446744073709551616 ∧ Hid (ys ++ encU v = xs ++ encL (zs.take (k + 1))) ∧ Hid (wi.ownsRow base 5 1 (.slice a2 m2 c2) m2 (ys.map byteV)) ∧ Hid (AppB base w wi)) (fun _ u _ => (intOf u).toNat)
        case atStart => exact ⟨zig z, m, xs ++ encL (zs.take k), a', c', rfl, rfl, zig_lt hzk, Lib.hid (by rw [HT.out, List.append_assoc]; rfl), HW, HA⟩
        case round =>
          obtain ⟨v, m2, ys, a2, c2, rfl, rfl, hv, HY, HW2, HA2⟩ := hrel
          have hm2 : m2 = ys.length := by have := HW2.out.1; simpa using this.symm
          have hle : m2 + (encU v).length ≤ 140737488355328 := by
            have h1 := congrArg List.length HY.out
            have h2 := HL.out
            have h3 := encL_le zs (k + 1)
            simp only [List.length_append] at h1 h2
            omega
          have hps := encU_pos v
          subst hm2
          obtain ⟨cb, hcb⟩ : ∃ cb, Hid (cb = UInt8.ofNat (v % 128 + 128)) := ⟨_, Lib.hid rfl⟩
          obtain ⟨cd, hcd⟩ : ∃ cd, Hid (cd = UInt8.ofNat v) := ⟨_, Lib.hid rfl⟩
          have hb2 : base ≤ wr.heap.size := Nat.le_trans HB.out HA2.out.size
          clear e1
          by_cases hge : (128 : Int) ≤ v
          · have hor := or128 v
            have hq : IntKind.u64.wrap ((v : Int) / 128) = ((v / 128 : Nat) : Int) := by rw [IntKind.wrap_u64]; omega
            go_wp2_with (at_builtin; refine app_one _ rfl _ _ rfl base _ _ _ ys rfl HW2.out cb _ (by rw [hcb.out, toNat_of (by omega)]; first | omega | rfl) rfl (by omega) hb2 ?_)
            intro a3 c3 w3 h1 h2
            have H1 := Lib.hid h1; clear h1
            go_wp2_with fail
            go_roundw
            case rel => exact ⟨v / 128, ys.length + 1, ys ++ [cb], a3, c3, rfl, by go_num, by omega, Lib.hid (by rw [List.append_assoc, List.singleton_append, hcb.out, ← encU_ge (by omega)]; exact HY.out), Lib.hid (by rw [List.map_append]; exact H1.out), Lib.hid (HA2.out.trans h2)⟩
            case measure => simp [intOf]; omega
          · go_wp2_with (at_builtin; refine app_one _ rfl _ _ rfl base _ _ _ ys rfl HW2.out cd (v : Int) (by rw [hcd.out, toNat_of (by omega)]) rfl (by omega) hb2 ?_)
            intro a3 c3 w3 h1 h2
            have H1 := Lib.hid h1; clear h1
            have HE := Lib.hid (show ys ++ [cd] = xs ++ encL (zs.take (k + 1)) by rw [hcd.out, ← encU_lt (by omega)]; exact HY.out)
            go_wp2_with fail
            go_roundw
            case rel => exact ⟨k + 1, ys.length + 1, a3, c3, rfl, by omega, by go_num, Lib.hid (by rw [← HE.out, List.map_append]; exact H1.out), Lib.hid (HA2.out.trans h2)⟩
            case measure => simp [intOf]; omega
      · have hu := zig_pos hzk (by omega)
        go_wp2_with fail
        go_loopw [0, 7] (fun b u wi => ∃ (v m2 : Nat) (ys : List UInt8) (a2 : Option Addr) (c2 : Nat), b = .slice a2 m2 c2 ∧ u = .int .u64 v ∧ v < 18446744073709551616 ∧ Hid (ys ++ encU v = xs ++ encL (zs.take (k + 1))) ∧ Hid (wi.ownsRow base 5 1 (.slice a2 m2 c2) m2 (ys.map byteV)) ∧ Hid (AppB base w wi)) (fun _ u _ => (intOf u).toNat)
        case atStart => exact ⟨zig z, m, xs ++ encL (zs.take k), a', c', rfl, rfl, zig_lt hzk, Lib.hid (by rw [HT.out, List.append_assoc]; rfl), HW, HA⟩
        case round =>
          obtain ⟨v, m2, ys, a2, c2, rfl, rfl, hv, HY, HW2, HA2⟩ := hrel
          have hm2 : m2 = ys.length := by have := HW2.out.1; simpa using this.symm
          have hle : m2 + (encU v).length ≤ 140737488355328 := by
            have h1 := congrArg List.length HY.out
            have h2 := HL.out
            have h3 := encL_le zs (k + 1)
            simp only [List.length_append] at h1 h2
            omega
          have hps := encU_pos v
          subst hm2
          obtain ⟨cb, hcb⟩ : ∃ cb, Hid (cb = UInt8.ofNat (v % 128 + 128)) := ⟨_, Lib.hid rfl⟩
          obtain ⟨cd, hcd⟩ : ∃ cd, Hid (cd = UInt8.ofNat v) := ⟨_, Lib.hid rfl⟩
          have hb2 : base ≤ wr.heap.size := Nat.le_trans HB.out HA2.out.size
          clear e1
          by_cases hge : (128 : Int) ≤ v
          · have hor := or128 v
            have hq : IntKind.u64.wrap ((v : Int) / 128) = ((v / 128 : Nat) : Int) := by rw [IntKind.wrap_u64]; omega
            go_wp2_with (at_builtin; refine app_one _ rfl _ _ rfl base _ _ _ ys rfl HW2.out cb _ (by rw [hcb.out, toNat_of (by omega)]; first | omega | rfl) rfl (by omega) hb2 ?_)
            intro a3 c3 w3 h1 h2
            have H1 := Lib.hid h1; clear h1
            go_wp2_with fail
            go_roundw
            case rel => exact ⟨v / 128, ys.length + 1, ys ++ [cb], a3, c3, rfl, by go_num, by omega, Lib.hid (by rw [List.append_assoc, List.singleton_append, hcb.out, ← encU_ge (by omega)]; exact HY.out), Lib.hid (by rw [List.map_append]; exact H1.out), Lib.hid (HA2.out.trans h2)⟩
            case measure => simp [intOf]; omega
          · go_wp2_with (at_builtin; refine app_one _ rfl _ _ rfl base _ _ _ ys rfl HW2.out cd (v : Int) (by rw [hcd.out, toNat_of (by omega)]) rfl (by omega) hb2 ?_)
            intro a3 c3 w3 h1 h2
            have H1 := Lib.hid h1; clear h1
            have HE := Lib.hid (show ys ++ [cd] = xs ++ encL (zs.take (k + 1)) by rw [hcd.out, ← encU_lt (by omega)]; exact HY.out)
            go_wp2_with fail
            go_roundw
            case rel => exact ⟨k + 1, ys.length + 1, a3, c3, rfl, by omega, by go_num, Lib.hid (by rw [← HE.out, List.map_append]; exact H1.out), Lib.hid (HA2.out.trans h2)⟩
            case measure => simp [intOf]; omega
    · have hkn : k = n := by omega
      subst hkn
      have hm : m = (xs ++ encL zs).length := by
        have := HW.out.1
        rw [List.take_of_length_le (by rw [hl.out]; exact Nat.le_refl _)] at this
        simpa using this.symm
      have HWW := Lib.hid (show wr.ownsRow base 5 1 (.slice a' m c') m ((xs ++ encL zs).map byteV) by
        have := HW.out
        rwa [List.take_of_length_le (by rw [hl.out]; exact Nat.le_refl _)] at this)
      subst hm
      go_wp2_with fail
      go_ret
      exact ⟨_, _, rfl, HWW.out, HA.out⟩
end Go.Proofs.YtlnhppgfhkkidaaGreat
namespace Go.Proofs.YtlnhppgfhkkidaaGreat
open Go.RowKit

def ptrL (p : Nat) (l : List Nat) : List Value := l.map fun k => .pointer (some ⟨p, k, none⟩)
def aheadK : List Nat := [0, 1, 2, 3, 4, 5, 6, 7, 8, 9, 10, 11, 12, 13, 14]
def behindK : List Nat := [16, 17, 18]
section
variable (p : Nat) (w : World)
set_option maxHeartbeats 4000000 in
set_option maxRecDepth 100000 in
theorem fields_any :
    Calls Tryz.prog 168 #[.pointer (some ⟨p, 0, none⟩)] w fun e w' => e = .returned (.tuple #[.slice (some ⟨w.heap.size, 0, none⟩) 15 15, .slice (some ⟨w.heap.size + 1, 0, none⟩) 3 3]) ∧
      w'.heap[w.heap.size]? = some (.cells (ptrL p aheadK).toArray 221 (0, 0)) ∧ w'.heap[w.heap.size + 1]? = some (.cells (ptrL p behindK).toArray 221 (0, 0)) ∧ Below w.heap.size w w' := by
  go_enter Tryz.func168, Tryz.ntmps168
  go_wp2_with fail
  go_still_tail 49, (by kernel_rfl)
  change wpList _ _ _ _ _ w.drew
  generalize hw2 : w.drew = w2
  go_wp2_with fail
  generalize hw3 : World.alloc _ _ = w3
  go_region
  go_wp2_with fail
  go_returns
  have hs2 : w2.heap.size = w.heap.size := by rw [← hw2]; rfl
  have b2 : Below w.heap.size w w2 := by rw [← hw2]; exact ⟨rfl, rfl, rfl, Nat.le_refl _, fun _ _ => rfl⟩
  have hs3 : w3.heap.size = w.heap.size + 1 := by rw [← hw3]; simp [hs2]
  have b3 : Below w.heap.size w w3 := by rw [← hw3]; exact b2.alloc (by omega) _
  have e3 : w3.heap[w.heap.size]? = some (.cells (ptrL p aheadK).toArray 221 (0, 0)) := by rw [← hw3, ← hs2]; exact heap_last _ _
  have l3 : w.heap.size < w3.heap.size := by omega
  clear hw2 hw3
  refine ⟨by rw [← hs3, ← hs2]; rfl, ?_, ?_, ?_⟩
  · exact heap_before w3 _ _ _ e3
  · rw [← hs3]; exact heap_last w3 _
  · have b4 := b3.alloc (by omega) (.cells (ptrL p behindK).toArray 221)
    exact ⟨b4.os, b4.tape, b4.output, b4.size, b4.block⟩
end
end Go.Proofs.YtlnhppgfhkkidaaGreat
