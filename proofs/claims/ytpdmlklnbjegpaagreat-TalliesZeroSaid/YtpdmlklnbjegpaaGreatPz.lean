/- TalliesZero: the law's walk. -/
import Derived.Test.YtpdmlklnbjegpaaGreatZm
import Derived.Test.YtpdmlklnbjegpaaGreatZs
namespace Go.Proofs.YtpdmlklnbjegpaaGreat
open Go.RowKit

theorem wpList_load_midG {P : Program} {ops : Array Oper} {rest : List Oper} {op : Oper} {a : Act} {w : World} {Q : Exit → Act → World → Prop} (hw : Region.wanted op (yielded ops a.tmps) = true) (ty : TypeId) (x : Operand) (ho : op.op = .load ty x)
    (b o : Nat) (hx : a.eval x = .pointer (some ⟨b, o, none⟩)) (cs : List Value) (d : TypeDesc) (hc : w.rangeAt b o cs)
    (hu : P.underlying ty = some d) (hd : d.isRow = true) (hi : (P.info? ty).map (·.size) = some cs.length)
    (h : wpList P ops Q rest (a.put op.dst (.agg cs.toArray)) w) : wpList P ops Q (op :: rest) a w :=
  wpList_step fun _ hK => by rw [if_pos hw]; exact wp_load_mid ty x ho b o hx cs d hc hu hd hi (hK _ _ h)

set_option maxRecDepth 100000 in
theorem run_build_two1 (w : World) (a0 a1 a2 a3 a4 a5 a6 a7 a8 a9 a10 a11 a12 a13 a14 a15 a16 a17 a18 c0 c1 c2 c3 c4 c5 c6 c7 c8 c9 c10 c11 c12 c13 c14 c15 c16 c17 c18 : Value) :
    (Instr.buildSlice 24 2 #[(0, .agg #[a0, a1, a2, a3, a4, a5, a6, a7, a8, a9, a10, a11, a12, a13, a14, a15, a16, a17, a18]), (1, .agg #[c0, c1, c2, c3, c4, c5, c6, c7, c8, c9, c10, c11, c12, c13, c14, c15, c16, c17, c18])]).run Tryz.prog w = .ok (.slice (some ⟨w.heap.size, 0, none⟩) 2 2) (w.alloc (.cells (#[a0, a1, a2, a3, a4, a5, a6, a7, a8, a9, a10, a11, a12, a13, a14, a15, a16, a17, a18] ++ #[c0, c1, c2, c3, c4, c5, c6, c7, c8, c9, c10, c11, c12, c13, c14, c15, c16, c17, c18]) 47)) := by
  kernel_rfl
theorem run_build_two (w : World) (A B : Array Value) (hA : A.size = 19) (hB : B.size = 19) :
    (Instr.buildSlice 24 2 #[(0, .agg A), (1, .agg B)]).run Tryz.prog w = .ok (.slice (some ⟨w.heap.size, 0, none⟩) 2 2) (w.alloc (.cells (A ++ B) 47)) := by
  obtain ⟨l⟩ := A
  obtain ⟨k⟩ := B
  match l, k, hA, hB with
  | [a0, a1, a2, a3, a4, a5, a6, a7, a8, a9, a10, a11, a12, a13, a14, a15, a16, a17, a18], [c0, c1, c2, c3, c4, c5, c6, c7, c8, c9, c10, c11, c12, c13, c14, c15, c16, c17, c18], _, _ => exact run_build_two1 w ..
theorem wpList_build_two {ops : Array Oper} {rest : List Oper} {op : Oper} {a : Act} {w : World} {Q : Exit → Act → World → Prop} (hw : Region.wanted op (yielded ops a.tmps) = true) (x y : Operand)
    (ho : op.op = .buildSlice 24 2 #[(0, x), (1, y)]) (A B : Array Value) (hx : a.eval x = .agg A) (hy : a.eval y = .agg B) (hA : A.size = 19) (hB : B.size = 19)
    (h : wpList Tryz.prog ops Q rest (a.put op.dst (.slice (some ⟨w.heap.size, 0, none⟩) 2 2)) (w.alloc (.cells (A ++ B) 47))) : wpList Tryz.prog ops Q (op :: rest) a w :=
  wpList_step fun _ hK => by
    rw [if_pos hw]
    have e := run_build_two w A B hA hB
    unfold Oper.wp execOp
    simp [ho, hx, hy, e, Result.andThen]
    exact hK _ _ h
theorem two_15 (n m : NoteV) (sa ta : Option Addr) (sc tc : Nat) : (noteA n sa sc ++ noteA m ta tc)[15]? = some (.slice sa n.strokes.length sc) := by
  rw [Array.getElem?_append_left (by rw [noteA_size]; decide)]
  rfl
theorem two_34 (n m : NoteV) (sa ta : Option Addr) (sc tc : Nat) : (noteA n sa sc ++ noteA m ta tc)[34]? = some (.slice ta m.strokes.length tc) := by
  rw [Array.getElem?_append_right (by rw [noteA_size]; decide), noteA_size]
  rfl
def SomeZ (e : Ending) : Prop := ∃ r : Bool, e = .returned (.bool r)
/-- The law's 'light' of two notes: some answer, and nothing is written. -/
theorem light2_any (s1 s2 : Option Addr) (m1 m2 k1 k2 : Nat) (b : Nat) (w : World) (e1 : w.cell? ⟨b, 15, none⟩ = some (.slice s1 m1 k1)) (e2 : w.cell? ⟨b, 34, none⟩ = some (.slice s2 m2 k2))
    (_ : m1 ≤ 9223372036854775807) (_ : m2 ≤ 9223372036854775807) :
    Calls Tryz.prog 7 #[.slice (some ⟨b, 0, none⟩) 2 2, .int .i64 400] w fun e w' => SomeZ e ∧ w = w' := by
  go_enter Tryz.func7, Tryz.ntmps7
  go_wp2_with fail
  go_loopw [5, 6] (fun s i wr => ((i = .int .i64 0 ∧ s = .int .i64 2) ∨ (i = .int .i64 1 ∧ ∃ v : Int, s = .int .i64 v) ∨ (i = .int .i64 2 ∧ ∃ v : Int, s = .int .i64 v)) ∧ Hid (w = wr)) (fun _ i _ => 2 - (intOf i).toNat)
  case atStart => exact ⟨.inl ⟨rfl, rfl⟩, Lib.hid rfl⟩
  case round =>
    obtain ⟨hr, HE⟩ := hrel
    have := HE.out
    subst this
    rcases hr with ⟨rfl, rfl⟩ | ⟨rfl, v, rfl⟩ | ⟨rfl, v, rfl⟩
    · go_wp2_with fail
      go_roundw
      case rel => exact ⟨.inr (.inl ⟨rfl, _, rfl⟩), Lib.hid (by trivial)⟩
      case measure => simp [intOf]
    · go_wp2_with fail
      go_roundw
      case rel => exact ⟨.inr (.inr ⟨rfl, _, rfl⟩), Lib.hid (by trivial)⟩
      case measure => simp [intOf]
    · go_wp2_with fail
      go_ret
      exact ⟨⟨_, rfl⟩, rfl⟩

section
attribute [local go_sem] noteA_size
set_option maxHeartbeats 8000000 in
set_option maxRecDepth 100000 in
theorem tzero_any (s : Option Addr) (k c : Nat) (l : List UInt8) (n : NoteV) (sa : Option Addr) (sc : Nat) (a : ActV) (ta : Option Addr) (tc : Nat) (id : Int) (w : World) (hr : RdB w s k c l)
    (hn : n.strokes.length ≤ 9223372036854775807) (ha : a.note.strokes.length ≤ 9223372036854775807) :
    Calls Tryz.prog 5 #[.slice s k c, .agg (noteA n sa sc), .agg (actA a ta tc), .int .i64 id] w fun e w' => e = .returned (.bool true) ∧ Below w.heap.size w w' := by
  have I43 := Lib.hid (show ∀ (m : NoteV) (a : Option Addr) (c : Nat), (Tryz.prog.info? 47).map (·.size) = some (noteA m a c).size from fun m a c => by kernel_rfl)
  have I55 := Lib.hid (show ∀ (m : ActV) (a : Option Addr) (c : Nat), (Tryz.prog.info? 55).map (·.size) = some (actA m a c).size from fun m a c => by kernel_rfl)
  have hk63 := hr.maxn
  have g0 := heap_before _ (.cells (actA a ta tc) 55) _ _ (heap_last w (.cells (noteA n sa sc) 47))
  have g1 := heap_at (w.alloc (.cells (noteA n sa sc) 47)) (.cells (actA a ta tc) 55) (w.heap.size + 1) (by simp)
  have bb : Below w.heap.size w ((w.alloc (.cells (noteA n sa sc) 47)).alloc (.cells (actA a ta tc) 55)) := ((Below.refl _ _).alloc (Nat.le_refl _) _).alloc (by simp) _
  have L0 : Hid (LocZ w ((w.alloc (.cells (noteA n sa sc) 47)).alloc (.cells (actA a ta tc) 55)) w.heap.size (w.heap.size + 1) n sa sc a ta tc) := Lib.hid ⟨g0, g1, bb, by omega⟩
  clear g0 g1 bb
  go_enter Tryz.func5, Tryz.ntmps5
  go_upto_region 1 with fail
  generalize (w.alloc (.cells (noteA n sa sc) 47)).alloc (.cells (actA a ta tc) 55) = W0 at *
  generalize hp0 : w.heap.size = p0 at *
  generalize hp1 : p0 + 1 = p1 at *
  have RB := Lib.hid (show ∀ W', Below p0 w W' → RdB W' s k c l from fun W' h => hr.below (by rw [hp0]; exact h))
  have HP0 := Lib.hid hp0; clear hp0 hp1 hr
  go_wp2_with fail
  refine (awake_any W0).mono ?_
  rintro e W1 ⟨rfl, b1⟩
  have L1 := Lib.hid (L0.out.below b1); clear b1
  by_cases hk : k ≤ 8192
  · have t1 : decide ((8192 : Int) < (k : Int)) = false := by simp; omega
    go_wp2_with (first
      | (refine wpList_load_rowG (by rfl) 47 _ rfl p0 rfl 47 (noteA n sa sc) (0, 0) _ L1.out.e0 Tryz.underlying47 rfl (I43.out _ _ _) ?_)
      | (refine wpList_load_midG (by rfl) 47 _ rfl p1 4 rfl (a.note.cells ta tc) _ (actA_note L1.out.e1) Tryz.underlying47 rfl rfl ?_; rw [show (a.note.cells ta tc).toArray = noteA a.note ta tc from rfl])
      | (refine wpList_build_two (by rfl) _ _ rfl (noteA n sa sc) (noteA a.note ta tc) rfl rfl rfl rfl ?_))
    have b2 : Below W1.heap.size W1 (W1.alloc (.cells (noteA n sa sc ++ noteA a.note ta tc) 47)) := (Below.refl _ _).alloc (Nat.le_refl _) _
    have L2 := Lib.hid (L1.out.below b2); clear b2
    have f0 := heap_last W1 (.cells (noteA n sa sc ++ noteA a.note ta tc) 47)
    have f1 := cell_of f0 15 (.slice sa n.strokes.length sc) (two_15 n a.note sa ta sc tc)
    have f2 := cell_of f0 34 (.slice ta a.note.strokes.length tc) (two_34 n a.note sa ta sc tc)
    refine (light2_any sa ta n.strokes.length a.note.strokes.length sc tc W1.heap.size (W1.alloc (.cells (noteA n sa sc ++ noteA a.note ta tc) 47)) f1 f2 hn ha).mono ?_
    clear f0 f1 f2
    rintro e W2 ⟨⟨r, rfl⟩, rfl⟩
    generalize W1.alloc (.cells (noteA n sa sc ++ noteA a.note ta tc) 47) = W2 at *
    cases r with
    | false =>
      go_wp2_with fail
      go_ret
      exact ⟨rfl, by rw [HP0.out]; exact L2.out.b⟩
    | true =>
      go_wp2_with fail
      refine (zsticks_any W2 s k c l (RB.out _ L2.out.b) hk).mono ?_
      rintro e W3 ⟨rfl, b3⟩
      have L3 := Lib.hid (L2.out.below b3); clear b3
      go_wp2_with (first
        | (refine wpList_load_rowG (by rfl) 47 _ rfl p0 rfl 47 (noteA n sa sc) (0, 0) _ L3.out.e0 Tryz.underlying47 rfl (I43.out _ _ _) ?_)
        | (refine wpList_load_rowG (by rfl) 55 _ rfl p1 rfl 55 (actA a ta tc) (0, 0) _ L3.out.e1 Tryz.underlying55 rfl (I55.out _ _ _) ?_))
      refine (zhouse_no W3 none n sa sc a ta tc (.inl rfl)).mono ?_
      rintro e W4 ⟨rfl, b4⟩
      have L4 := Lib.hid (L3.out.below b4); clear b4
      have E5 := Lib.hid (heap_last W4 (.cells #[.int .i64 0, .int .i64 0, .int .i64 0, .int .i64 0, .map none, .int .i64 0, .int .i64 0, .int .i64 0, .int .i64 0, .int .i64 0, .int .i64 0, .int .i64 0, .int .i64 0, .int .i64 0, .pointer none] 63))
      have b5 : Below W4.heap.size W4 (W4.alloc (.cells #[.int .i64 0, .int .i64 0, .int .i64 0, .int .i64 0, .map none, .int .i64 0, .int .i64 0, .int .i64 0, .int .i64 0, .int .i64 0, .int .i64 0, .int .i64 0, .int .i64 0, .int .i64 0, .pointer none] 63)) := (Below.refl _ _).alloc (Nat.le_refl _) _
      have L5 := Lib.hid (L4.out.below b5); clear b5
      obtain ⟨p2, hp2⟩ : ∃ p2, Hid (W4.heap.size = p2) := ⟨_, Lib.hid rfl⟩
      rw [hp2.out] at E5
      go_wp2_with (first
        | (refine wpList_load_rowG (by rfl) 47 _ rfl p0 rfl 47 (noteA n sa sc) (0, 0) _ L5.out.e0 Tryz.underlying47 rfl (I43.out _ _ _) ?_)
        | (refine wpList_load_rowG (by rfl) 55 _ rfl p1 rfl 55 (actA a ta tc) (0, 0) _ L5.out.e1 Tryz.underlying55 rfl (I55.out _ _ _) ?_))
      rw [hp2.out]
      generalize W4.alloc (.cells #[.int .i64 0, .int .i64 0, .int .i64 0, .int .i64 0, .map none, .int .i64 0, .int .i64 0, .int .i64 0, .int .i64 0, .int .i64 0, .int .i64 0, .int .i64 0, .int .i64 0, .int .i64 0, .pointer none] 63) = W5 at *
      refine (zhouse_no W5 (some ⟨p2, 0, none⟩) n sa sc a ta tc (.inr ⟨p2, rfl, cell_of E5.out 14 _ rfl⟩)).mono ?_
      rintro e W6 ⟨rfl, b6⟩
      have L6 := Lib.hid (L5.out.below b6); clear b6
      go_wp2_with (first
        | (refine wpList_load_rowG (by rfl) 55 _ rfl p1 rfl 55 (actA a ta tc) (0, 0) _ L6.out.e1 Tryz.underlying55 rfl (I55.out _ _ _) ?_))
      refine (zworld_no W6 none a ta tc id (.inl rfl)).mono ?_
      rintro e W7 ⟨rfl, b7⟩
      have L7 := Lib.hid (L6.out.below b7); clear b7
      have E8 := Lib.hid (heap_last W7 (.cells #[.slice none 0 0, .slice none 0 0] 68))
      have b8 : Below W7.heap.size W7 (W7.alloc (.cells #[.slice none 0 0, .slice none 0 0] 68)) := (Below.refl _ _).alloc (Nat.le_refl _) _
      have L8 := Lib.hid (L7.out.below b8); clear b8
      obtain ⟨p3, hp3⟩ : ∃ p3, Hid (W7.heap.size = p3) := ⟨_, Lib.hid rfl⟩
      rw [hp3.out] at E8
      go_wp2_with (first
        | (refine wpList_load_rowG (by rfl) 55 _ rfl p1 rfl 55 (actA a ta tc) (0, 0) _ L8.out.e1 Tryz.underlying55 rfl (I55.out _ _ _) ?_))
      rw [hp3.out]
      generalize W7.alloc (.cells #[.slice none 0 0, .slice none 0 0] 68) = W8 at *
      refine (zworld_no W8 (some ⟨p3, 0, none⟩) a ta tc id (.inr ⟨p3, rfl, cell_of E8.out 0 _ rfl, cell_of E8.out 1 _ rfl⟩)).mono ?_
      rintro e W9 ⟨rfl, b9⟩
      have L9 := Lib.hid (L8.out.below b9); clear b9
      go_wp2_with fail
      go_ret
      exact ⟨rfl, by rw [HP0.out]; exact L9.out.b⟩
  · have t1 : decide ((8192 : Int) < (k : Int)) = true := by simp; omega
    go_wp2_with fail
    go_ret
    exact ⟨rfl, by rw [HP0.out]; exact L1.out.b⟩
end
end Go.Proofs.YtpdmlklnbjegpaaGreat
