/- A note, a list of ints, out of a reading. -/
import Derived.Test.YtpdmlklnbjegpaaGreatOpen
import Derived.Test.YtpdmlklnbjegpaaGreatNote
namespace Go.Proofs.YtpdmlklnbjegpaaGreat
open Go.ChangeShapes Go.WideShapes Go.ChangeAt Go.RowKit

theorem i64_of_wf {x : Int} (h : (Lit.int .i64 x).wf = true) : I64 x := by
  simp [Lit.wf, IntKind.min, IntKind.max, IntKind.signed, IntKind.bits] at h
  unfold I64
  omega
theorem Tryz.cells3 : Tryz.prog.cellsOf 3 = 1 := by kernel_rfl
theorem Tryz.cells37 : Tryz.prog.cellsOf 37 = 1 := by kernel_rfl
theorem Tryz.cells43 : Tryz.prog.cellsOf 43 = 2 := by kernel_rfl
theorem Tryz.cells45 : Tryz.prog.cellsOf 45 = 2 := by kernel_rfl
theorem Tryz.cells47 : Tryz.prog.cellsOf 47 = 19 := by kernel_rfl

section
variable {H : Type} {enc : TypeId × Value → H} {W : World} {fuel : Nat}

/-- One slice of ints, as a reading finds it. -/
theorem open_ri1 {cs : List Value} {y : DataW H × List MemPlace} (h : DataW.trod enc Tryz.prog W 0 (fun _ => true) true fuel 37 cs = some y) : ∃ a c l, cs = [.slice a l.length c] ∧ RdI W a l.length c l ∧ ∀ z ∈ l, I64 z := by
  rcases open_ints Tryz.underlying37 Tryz.underlying3 Tryz.cells3 h with ⟨hcs, hx⟩ | ⟨a, n, c, zs, hcs, _, hl, hm, hz, hx, hcell, hwz⟩
  · exact ⟨none, 0, [], hcs, RdA.nil _ _, fun z hz => by cases hz⟩
  · simp only [if_true] at hz
    have hlen : (zs.take n).length = n := by rw [List.length_take]; omega
    refine ⟨some a, c, zs.take n, by rw [hlen]; exact hcs, ⟨by simp, by omega, hm, ?_⟩, fun z hz => i64_of_wf (hwz z (List.mem_of_mem_take hz))⟩
    by_cases hc0 : c = 0
    · exact .inl hc0
    · obtain ⟨ab, ao, spot⟩ := a
      have hspot : spot = none := by simpa [Addr.add] using World.cell?_spot (hcell 0 (by omega))
      subst hspot
      refine .inr ⟨ab, ao, rfl, fun i x hx => ?_⟩
      rw [List.getElem?_map, List.getElem?_take] at hx
      split at hx
      · rename_i hi
        have hiz : i < zs.length := by omega
        rw [List.getElem?_eq_getElem hiz, Option.map_some] at hx
        simp only [Option.some.injEq] at hx
        subst hx
        have hc := hcell i hiz
        rw [Addr.add_lit] at hc
        rw [hc, List.getD_eq_getElem?_getD, List.getElem?_eq_getElem hiz]
        rfl
      · cases hx
theorem get_some {α : Type} {xs : List α} {n i : Nat} (h : xs.length = n) (hi : i < n) : ∃ y, xs[i]? = some y := ⟨xs[i]'(by omega), List.getElem?_eq_getElem (by omega)⟩
set_option maxRecDepth 100000 in
/-- Two ints. -/
theorem open_two {t : TypeId} {cs : List Value} {y : DataW H × List MemPlace} {f0 f1 : Field} (ht : Tryz.prog.underlying t = some (.struct #[f0, f1])) (h0 : f0.type = 3) (h1 : f1.type = 3) (o0 : f0.offset = 0) (o1 : f1.offset = 1) (hc : Tryz.prog.cellsOf t = 2)
    (h : DataW.trod enc Tryz.prog W 0 (fun _ => true) true fuel t cs = some y) : ∃ x z, cs = [.int .i64 x, .int .i64 z] ∧ I64 x ∧ I64 z := by
  obtain ⟨y0, y1, n, _, hl, g0, g1⟩ := trod_struct2 ht h
  rw [hc] at hl
  match cs, hl with
  | [c0, c1], _ =>
    rw [h0, o0, Tryz.cells3] at g0
    rw [h1, o1, Tryz.cells3] at g1
    obtain ⟨x, a0, _, b0⟩ := DataW.trod_int Tryz.underlying3 g0
    obtain ⟨z, a1, _, b1⟩ := DataW.trod_int Tryz.underlying3 g1
    simp at a0 a1
    exact ⟨x, z, by rw [a0, a1], i64_of_wf b0, i64_of_wf b1⟩

set_option maxHeartbeats 1000000 in
set_option maxRecDepth 100000 in
theorem open_note1 {cs : List Value} {y : DataW H × List MemPlace} (h : DataW.trod enc Tryz.prog W 0 (fun _ => true) true fuel 47 cs = some y) : ∃ n : NoteV, RdNote W cs n := by
  obtain ⟨xs, m, _, _, hl, hlen, hf⟩ := DataW.trod_struct Tryz.underlying47 h
  rw [Tryz.cells47] at hl
  match cs, hl with
  | [c0, c1, c2, c3, c4, c5, c6, c7, c8, c9, c10, c11, c12, c13, c14, c15, c16, c17, c18], _ =>
    obtain ⟨y0, e0⟩ := get_some hlen (i := 0) (by decide)
    have g0 : DataW.trod enc Tryz.prog W 0 (fun _ => true) true m 3 (([c0, c1, c2, c3, c4, c5, c6, c7, c8, c9, c10, c11, c12, c13, c14, c15, c16, c17, c18].drop 0).take (Tryz.prog.cellsOf 3)) = some y0 := (hf 0 _ rfl).trans e0
    rw [Tryz.cells3] at g0
    obtain ⟨x0, a0, _, b0⟩ := DataW.trod_int Tryz.underlying3 g0
    simp at a0
    clear e0 g0
    obtain ⟨y1, e1⟩ := get_some hlen (i := 1) (by decide)
    have g1 : DataW.trod enc Tryz.prog W 0 (fun _ => true) true m 3 (([c0, c1, c2, c3, c4, c5, c6, c7, c8, c9, c10, c11, c12, c13, c14, c15, c16, c17, c18].drop 1).take (Tryz.prog.cellsOf 3)) = some y1 := (hf 1 _ rfl).trans e1
    rw [Tryz.cells3] at g1
    obtain ⟨x1, a1, _, b1⟩ := DataW.trod_int Tryz.underlying3 g1
    simp at a1
    clear e1 g1
    obtain ⟨y2, e2⟩ := get_some hlen (i := 2) (by decide)
    have g2 : DataW.trod enc Tryz.prog W 0 (fun _ => true) true m 3 (([c0, c1, c2, c3, c4, c5, c6, c7, c8, c9, c10, c11, c12, c13, c14, c15, c16, c17, c18].drop 2).take (Tryz.prog.cellsOf 3)) = some y2 := (hf 2 _ rfl).trans e2
    rw [Tryz.cells3] at g2
    obtain ⟨x2, a2, _, b2⟩ := DataW.trod_int Tryz.underlying3 g2
    simp at a2
    clear e2 g2
    obtain ⟨y3, e3⟩ := get_some hlen (i := 3) (by decide)
    have g3 : DataW.trod enc Tryz.prog W 0 (fun _ => true) true m 3 (([c0, c1, c2, c3, c4, c5, c6, c7, c8, c9, c10, c11, c12, c13, c14, c15, c16, c17, c18].drop 3).take (Tryz.prog.cellsOf 3)) = some y3 := (hf 3 _ rfl).trans e3
    rw [Tryz.cells3] at g3
    obtain ⟨x3, a3, _, b3⟩ := DataW.trod_int Tryz.underlying3 g3
    simp at a3
    clear e3 g3
    obtain ⟨y4, e4⟩ := get_some hlen (i := 4) (by decide)
    have g4 : DataW.trod enc Tryz.prog W 0 (fun _ => true) true m 3 (([c0, c1, c2, c3, c4, c5, c6, c7, c8, c9, c10, c11, c12, c13, c14, c15, c16, c17, c18].drop 4).take (Tryz.prog.cellsOf 3)) = some y4 := (hf 4 _ rfl).trans e4
    rw [Tryz.cells3] at g4
    obtain ⟨x4, a4, _, b4⟩ := DataW.trod_int Tryz.underlying3 g4
    simp at a4
    clear e4 g4
    obtain ⟨y5, e5⟩ := get_some hlen (i := 5) (by decide)
    have g5 : DataW.trod enc Tryz.prog W 0 (fun _ => true) true m 3 (([c0, c1, c2, c3, c4, c5, c6, c7, c8, c9, c10, c11, c12, c13, c14, c15, c16, c17, c18].drop 5).take (Tryz.prog.cellsOf 3)) = some y5 := (hf 5 _ rfl).trans e5
    rw [Tryz.cells3] at g5
    obtain ⟨x5, a5, _, b5⟩ := DataW.trod_int Tryz.underlying3 g5
    simp at a5
    clear e5 g5
    obtain ⟨y6, e6⟩ := get_some hlen (i := 6) (by decide)
    have g6 : DataW.trod enc Tryz.prog W 0 (fun _ => true) true m 3 (([c0, c1, c2, c3, c4, c5, c6, c7, c8, c9, c10, c11, c12, c13, c14, c15, c16, c17, c18].drop 6).take (Tryz.prog.cellsOf 3)) = some y6 := (hf 6 _ rfl).trans e6
    rw [Tryz.cells3] at g6
    obtain ⟨x6, a6, _, b6⟩ := DataW.trod_int Tryz.underlying3 g6
    simp at a6
    clear e6 g6
    obtain ⟨y7, e7⟩ := get_some hlen (i := 7) (by decide)
    have g7 : DataW.trod enc Tryz.prog W 0 (fun _ => true) true m 3 (([c0, c1, c2, c3, c4, c5, c6, c7, c8, c9, c10, c11, c12, c13, c14, c15, c16, c17, c18].drop 7).take (Tryz.prog.cellsOf 3)) = some y7 := (hf 7 _ rfl).trans e7
    rw [Tryz.cells3] at g7
    obtain ⟨x7, a7, _, b7⟩ := DataW.trod_int Tryz.underlying3 g7
    simp at a7
    clear e7 g7
    obtain ⟨y8, e8⟩ := get_some hlen (i := 8) (by decide)
    have g8 : DataW.trod enc Tryz.prog W 0 (fun _ => true) true m 43 (([c0, c1, c2, c3, c4, c5, c6, c7, c8, c9, c10, c11, c12, c13, c14, c15, c16, c17, c18].drop 8).take (Tryz.prog.cellsOf 43)) = some y8 := (hf 8 _ rfl).trans e8
    rw [Tryz.cells43] at g8
    obtain ⟨x8, z8, a8, b8, d8⟩ := open_two Tryz.underlying43 rfl rfl rfl rfl Tryz.cells43 g8
    simp at a8
    clear e8 g8
    obtain ⟨y9, e9⟩ := get_some hlen (i := 9) (by decide)
    have g9 : DataW.trod enc Tryz.prog W 0 (fun _ => true) true m 43 (([c0, c1, c2, c3, c4, c5, c6, c7, c8, c9, c10, c11, c12, c13, c14, c15, c16, c17, c18].drop 10).take (Tryz.prog.cellsOf 43)) = some y9 := (hf 9 _ rfl).trans e9
    rw [Tryz.cells43] at g9
    obtain ⟨x9, z9, a9, b9, d9⟩ := open_two Tryz.underlying43 rfl rfl rfl rfl Tryz.cells43 g9
    simp at a9
    clear e9 g9
    obtain ⟨y10, e10⟩ := get_some hlen (i := 10) (by decide)
    have g10 : DataW.trod enc Tryz.prog W 0 (fun _ => true) true m 3 (([c0, c1, c2, c3, c4, c5, c6, c7, c8, c9, c10, c11, c12, c13, c14, c15, c16, c17, c18].drop 12).take (Tryz.prog.cellsOf 3)) = some y10 := (hf 10 _ rfl).trans e10
    rw [Tryz.cells3] at g10
    obtain ⟨x10, a10, _, b10⟩ := DataW.trod_int Tryz.underlying3 g10
    simp at a10
    clear e10 g10
    obtain ⟨y11, e11⟩ := get_some hlen (i := 11) (by decide)
    have g11 : DataW.trod enc Tryz.prog W 0 (fun _ => true) true m 3 (([c0, c1, c2, c3, c4, c5, c6, c7, c8, c9, c10, c11, c12, c13, c14, c15, c16, c17, c18].drop 13).take (Tryz.prog.cellsOf 3)) = some y11 := (hf 11 _ rfl).trans e11
    rw [Tryz.cells3] at g11
    obtain ⟨x11, a11, _, b11⟩ := DataW.trod_int Tryz.underlying3 g11
    simp at a11
    clear e11 g11
    obtain ⟨y12, e12⟩ := get_some hlen (i := 12) (by decide)
    have g12 : DataW.trod enc Tryz.prog W 0 (fun _ => true) true m 3 (([c0, c1, c2, c3, c4, c5, c6, c7, c8, c9, c10, c11, c12, c13, c14, c15, c16, c17, c18].drop 14).take (Tryz.prog.cellsOf 3)) = some y12 := (hf 12 _ rfl).trans e12
    rw [Tryz.cells3] at g12
    obtain ⟨x12, a12, _, b12⟩ := DataW.trod_int Tryz.underlying3 g12
    simp at a12
    clear e12 g12
    obtain ⟨y13, e13⟩ := get_some hlen (i := 13) (by decide)
    have g13 : DataW.trod enc Tryz.prog W 0 (fun _ => true) true m 37 (([c0, c1, c2, c3, c4, c5, c6, c7, c8, c9, c10, c11, c12, c13, c14, c15, c16, c17, c18].drop 15).take (Tryz.prog.cellsOf 37)) = some y13 := (hf 13 _ rfl).trans e13
    rw [Tryz.cells37] at g13
    obtain ⟨sa, sc, l, a13, r13, b13⟩ := open_ri1 g13
    simp at a13
    clear e13 g13
    obtain ⟨y14, e14⟩ := get_some hlen (i := 14) (by decide)
    have g14 : DataW.trod enc Tryz.prog W 0 (fun _ => true) true m 45 (([c0, c1, c2, c3, c4, c5, c6, c7, c8, c9, c10, c11, c12, c13, c14, c15, c16, c17, c18].drop 16).take (Tryz.prog.cellsOf 45)) = some y14 := (hf 14 _ rfl).trans e14
    rw [Tryz.cells45] at g14
    obtain ⟨x14, z14, a14, b14, d14⟩ := open_two Tryz.underlying45 rfl rfl rfl rfl Tryz.cells45 g14
    simp at a14
    clear e14 g14
    obtain ⟨y15, e15⟩ := get_some hlen (i := 15) (by decide)
    have g15 : DataW.trod enc Tryz.prog W 0 (fun _ => true) true m 3 (([c0, c1, c2, c3, c4, c5, c6, c7, c8, c9, c10, c11, c12, c13, c14, c15, c16, c17, c18].drop 18).take (Tryz.prog.cellsOf 3)) = some y15 := (hf 15 _ rfl).trans e15
    rw [Tryz.cells3] at g15
    obtain ⟨x15, a15, _, b15⟩ := DataW.trod_int Tryz.underlying3 g15
    simp at a15
    clear e15 g15
    exact ⟨{ house := x0, num := x1, clock := x2, day := x3, kind := x4, stone := x5, heap := x6, turns := x7, hardLo := x8, hardHi := z8, diffLo := x9, diffHi := z9, a := x10, b := x11, ring := x12, strokes := l, refH := x14, refN := z14, fix := x15 }, sa, sc, by simp only [NoteV.cells]; rw [a0, a1, a2, a3, a4, a5, a6, a7, a8.1, a8.2, a9.1, a9.2, a10, a11, a12, a13, a14.1, a14.2, a15], r13, { house := i64_of_wf b0, num := i64_of_wf b1, clock := i64_of_wf b2, day := i64_of_wf b3, kind := i64_of_wf b4, stone := i64_of_wf b5, heap := i64_of_wf b6, turns := i64_of_wf b7, hardLo := b8, hardHi := d8, diffLo := b9, diffHi := d9, a := i64_of_wf b10, b := i64_of_wf b11, ring := i64_of_wf b12, strokes := b13, refH := b14, refN := d14, fix := i64_of_wf b15 }⟩
end
end Go.Proofs.YtpdmlklnbjegpaaGreat
