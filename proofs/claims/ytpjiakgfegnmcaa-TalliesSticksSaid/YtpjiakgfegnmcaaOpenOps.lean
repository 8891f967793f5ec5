/- A list of operations that came in. -/
import Derived.Test.YtpjiakgfegnmcaaOpenNote
import Derived.Test.YtpjiakgfegnmcaaOpenBB
import Derived.Test.YtpjiakgfegnmcaaRops
namespace Go.Proofs.Ytpjiakgfegnmcaa
open Go.ChangeShapes Go.WideShapes Go.ChangeAt Go.RowKit

theorem Try.cells44 : Try.prog.cellsOf 44 = 1 := by kernel_rfl
theorem Try.cells46 : Try.prog.cellsOf 46 = 26 := by kernel_rfl

/-- The cell of a slice, whatever its elements. -/
theorem slice_form {H : Type} {enc : TypeId × Value → H} {W : World} {fuel : Nat} {t e : TypeId} {cs : List Value} {y : DataW H × List MemPlace} (ht : Try.prog.underlying t = some (.slice e))
    (h : DataW.trod enc Try.prog W 0 (fun _ => true) true fuel t cs = some y) : ∃ a n c, cs = [.slice a n c] := by
  rcases DataW.trod_slice ht h with ⟨hcs, hx⟩ | ⟨a, len', cap', elems, rest, m, _, hcs, hx, _⟩
  · exact ⟨_, _, _, hcs⟩
  · exact ⟨_, _, _, hcs⟩

set_option maxHeartbeats 1000000 in
set_option maxRecDepth 100000 in
theorem open_op1 {H : Type} {enc : TypeId × Value → H} {W : World} {fuel b off : Nat} {cs : List Value} {y : DataW H × List MemPlace} (h : DataW.trod enc Try.prog W 0 (fun _ => true) true fuel 46 cs = some y) (hr : W.rangeAt b off cs) : ∃ o, RdOp W b off o := by
  obtain ⟨xs, m, _, _, hl, hlen, hf⟩ := DataW.trod_struct Try.underlying46 h
  rw [Try.cells46] at hl
  match cs, hl with
  | [c0, c1, c2, c3, c4, c5, c6, c7, c8, c9, c10, c11, c12, c13, c14, c15, c16, c17, c18, c19, c20, c21, c22, c23, c24, c25], _ =>
    obtain ⟨y0, e0⟩ := get_some hlen (i := 0) (by decide)
    have g0 : DataW.trod enc Try.prog W 0 (fun _ => true) true m 3 (([c0, c1, c2, c3, c4, c5, c6, c7, c8, c9, c10, c11, c12, c13, c14, c15, c16, c17, c18, c19, c20, c21, c22, c23, c24, c25].drop 0).take (Try.prog.cellsOf 3)) = some y0 := (hf 0 _ rfl).trans e0
    rw [Try.cells3] at g0
    obtain ⟨x0, a0, _, b0⟩ := DataW.trod_int Try.underlying3 g0
    simp at a0
    clear e0 g0
    obtain ⟨y1, e1⟩ := get_some hlen (i := 1) (by decide)
    have g1 : DataW.trod enc Try.prog W 0 (fun _ => true) true m 22 (([c0, c1, c2, c3, c4, c5, c6, c7, c8, c9, c10, c11, c12, c13, c14, c15, c16, c17, c18, c19, c20, c21, c22, c23, c24, c25].drop 1).take (Try.prog.cellsOf 22)) = some y1 := (hf 1 _ rfl).trans e1
    rw [Try.cells22] at g1
    obtain ⟨ba, bn, bc, bl, a1, r1⟩ := open_rd1 g1
    have hbl := r1.len
    subst hbl
    simp at a1
    clear e1 g1
    obtain ⟨y2, e2⟩ := get_some hlen (i := 2) (by decide)
    have g2 : DataW.trod enc Try.prog W 0 (fun _ => true) true m 43 (([c0, c1, c2, c3, c4, c5, c6, c7, c8, c9, c10, c11, c12, c13, c14, c15, c16, c17, c18, c19, c20, c21, c22, c23, c24, c25].drop 2).take (Try.prog.cellsOf 43)) = some y2 := (hf 2 _ rfl).trans e2
    rw [Try.cells43] at g2
    obtain ⟨nv, na, nc, a2, _, _⟩ := open_note1 g2
    simp only [NoteV.cells] at a2
    simp at a2
    clear e2 g2
    obtain ⟨y3, e3⟩ := get_some hlen (i := 3) (by decide)
    have g3 : DataW.trod enc Try.prog W 0 (fun _ => true) true m 44 (([c0, c1, c2, c3, c4, c5, c6, c7, c8, c9, c10, c11, c12, c13, c14, c15, c16, c17, c18, c19, c20, c21, c22, c23, c24, c25].drop 21).take (Try.prog.cellsOf 44)) = some y3 := (hf 3 _ rfl).trans e3
    rw [Try.cells44] at g3
    obtain ⟨p3, q3, s3, a3⟩ := slice_form Try.underlying44 g3
    simp at a3
    clear e3 g3
    obtain ⟨y4, e4⟩ := get_some hlen (i := 4) (by decide)
    have g4 : DataW.trod enc Try.prog W 0 (fun _ => true) true m 33 (([c0, c1, c2, c3, c4, c5, c6, c7, c8, c9, c10, c11, c12, c13, c14, c15, c16, c17, c18, c19, c20, c21, c22, c23, c24, c25].drop 22).take (Try.prog.cellsOf 33)) = some y4 := (hf 4 _ rfl).trans e4
    rw [Try.cells33] at g4
    obtain ⟨p4, s4, l4, a4, _, _⟩ := open_ri1 g4
    simp at a4
    clear e4 g4
    obtain ⟨y5, e5⟩ := get_some hlen (i := 5) (by decide)
    have g5 : DataW.trod enc Try.prog W 0 (fun _ => true) true m 3 (([c0, c1, c2, c3, c4, c5, c6, c7, c8, c9, c10, c11, c12, c13, c14, c15, c16, c17, c18, c19, c20, c21, c22, c23, c24, c25].drop 23).take (Try.prog.cellsOf 3)) = some y5 := (hf 5 _ rfl).trans e5
    rw [Try.cells3] at g5
    obtain ⟨x5, a5, _, b5⟩ := DataW.trod_int Try.underlying3 g5
    simp at a5
    clear e5 g5
    obtain ⟨y6, e6⟩ := get_some hlen (i := 6) (by decide)
    have g6 : DataW.trod enc Try.prog W 0 (fun _ => true) true m 3 (([c0, c1, c2, c3, c4, c5, c6, c7, c8, c9, c10, c11, c12, c13, c14, c15, c16, c17, c18, c19, c20, c21, c22, c23, c24, c25].drop 24).take (Try.prog.cellsOf 3)) = some y6 := (hf 6 _ rfl).trans e6
    rw [Try.cells3] at g6
    obtain ⟨x6, a6, _, b6⟩ := DataW.trod_int Try.underlying3 g6
    simp at a6
    clear e6 g6
    obtain ⟨y7, e7⟩ := get_some hlen (i := 7) (by decide)
    have g7 : DataW.trod enc Try.prog W 0 (fun _ => true) true m 3 (([c0, c1, c2, c3, c4, c5, c6, c7, c8, c9, c10, c11, c12, c13, c14, c15, c16, c17, c18, c19, c20, c21, c22, c23, c24, c25].drop 25).take (Try.prog.cellsOf 3)) = some y7 := (hf 7 _ rfl).trans e7
    rw [Try.cells3] at g7
    obtain ⟨x7, a7, _, b7⟩ := DataW.trod_int Try.underlying3 g7
    simp at a7
    clear e7 g7
    refine ⟨⟨x0, x5, x6, x7, bl⟩, [c0, c1, c2, c3, c4, c5, c6, c7, c8, c9, c10, c11, c12, c13, c14, c15, c16, c17, c18, c19, c20, c21, c22, c23, c24, c25], ba, bc, rfl, ?_, hr, ?_, ?_, ?_, ?_, ?_, r1⟩
    · intro v hv
      simp only [List.mem_cons, List.not_mem_nil, or_false] at hv
      rcases hv with rfl | rfl | rfl | rfl | rfl | rfl | rfl | rfl | rfl | rfl | rfl | rfl | rfl | rfl | rfl | rfl | rfl | rfl | rfl | rfl | rfl | rfl | rfl | rfl | rfl | rfl
      · rw [a0]; rfl
      · rw [a1]; rfl
      · rw [a2.1]; rfl
      · rw [a2.2.1]; rfl
      · rw [a2.2.2.1]; rfl
      · rw [a2.2.2.2.1]; rfl
      · rw [a2.2.2.2.2.1]; rfl
      · rw [a2.2.2.2.2.2.1]; rfl
      · rw [a2.2.2.2.2.2.2.1]; rfl
      · rw [a2.2.2.2.2.2.2.2.1]; rfl
      · rw [a2.2.2.2.2.2.2.2.2.1]; rfl
      · rw [a2.2.2.2.2.2.2.2.2.2.1]; rfl
      · rw [a2.2.2.2.2.2.2.2.2.2.2.1]; rfl
      · rw [a2.2.2.2.2.2.2.2.2.2.2.2.1]; rfl
      · rw [a2.2.2.2.2.2.2.2.2.2.2.2.2.1]; rfl
      · rw [a2.2.2.2.2.2.2.2.2.2.2.2.2.2.1]; rfl
      · rw [a2.2.2.2.2.2.2.2.2.2.2.2.2.2.2.1]; rfl
      · rw [a2.2.2.2.2.2.2.2.2.2.2.2.2.2.2.2.1]; rfl
      · rw [a2.2.2.2.2.2.2.2.2.2.2.2.2.2.2.2.2.1]; rfl
      · rw [a2.2.2.2.2.2.2.2.2.2.2.2.2.2.2.2.2.2.1]; rfl
      · rw [a2.2.2.2.2.2.2.2.2.2.2.2.2.2.2.2.2.2.2]; rfl
      · rw [a3]; rfl
      · rw [a4]; rfl
      · rw [a5]; rfl
      · rw [a6]; rfl
      · rw [a7]; rfl
    · simp [a0]
    · simp [a1]
    · simp [a5]
    · simp [a6]
    · simp [a7]

set_option maxRecDepth 100000 in
theorem open_ops {H : Type} {enc : TypeId × Value → H} {W : World} {base : Nat} {v : Value} {d : DataW H} {p : List MemPlace} (hval : Value.okWide Try.prog W .any base 37 v)
    (h : DataW.Trod enc Try.prog W 0 (fun _ => true) true 37 v d p) : ∃ a n c l, v = .slice a n c ∧ RdOps W a n c l := by
  obtain ⟨a1, n, c, rfl⟩ := okWide_slice Try.underlying37 hval
  obtain ⟨fuel, hf⟩ := h
  rcases DataW.trod_slice Try.underlying37 hf with ⟨hcs, hx⟩ | ⟨a, len', cap', elems, rest, m, _, hcs, hx, hb, hl, hm, hlen, hel, hsp, hns⟩
  · simp [Value.cells] at hcs
    obtain ⟨rfl, rfl, rfl⟩ := hcs
    exact ⟨none, 0, 0, [], rfl, rfl, Nat.le_refl _, Nat.zero_le _, .inl rfl⟩
  · simp [Value.cells] at hcs
    obtain ⟨rfl, rfl, rfl⟩ := hcs
    have hspot : a.spot = none := by
      simp only [Value.okWide, Try.underlying37, Cell.okWide, Cell.ok] at hval
      exact hval.2.2.2.1
    obtain ⟨ab, ao, spot⟩ := a
    simp only at hspot
    subst hspot
    rw [Try.cells46] at hel
    have each : ∀ i, i < n → ∃ o, RdOp W ab (ao + i * 26) o := by
      intro i hi
      have h1 := hel i hi
      rw [List.getElem?_eq_getElem (by omega)] at h1
      cases hcs : W.cells? 0 ((⟨ab, ao, none⟩ : Addr).add (i * 26)) 26 with
      | none => rw [hcs] at h1; cases h1
      | some cs =>
        rw [hcs] at h1
        have h2 := World.cells?_some hcs
        refine open_op1 h1 (fun j v hv => ?_)
        have hj : j < cs.length := (List.getElem?_eq_some_iff.1 hv).1
        have h3 := h2.2.2 j (by have := h2.1; omega)
        rw [hv] at h3
        simpa [Addr.add_lit] using h3
    refine ⟨_, n, c, (List.range n).map (fun i => if h : i < n then (each i h).choose else default), rfl, by simp, hl, hm, .inr ⟨ab, ao, rfl, fun i hi => ?_⟩⟩
    have h6 : ((List.range n).map (fun i => if h : i < n then (each i h).choose else default))[i]?.getD default = (each i hi).choose := by rw [List.getElem?_map, List.getElem?_range hi]; simp [hi]
    rw [h6]
    exact (each i hi).choose_spec
end Go.Proofs.Ytpjiakgfegnmcaa
