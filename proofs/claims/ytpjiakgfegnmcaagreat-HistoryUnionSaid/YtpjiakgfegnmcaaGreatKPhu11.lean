/- Parts of the proof, in this order: A note, a list of ints, out of a reading; Frames, lists of notes, registers, questions: out of a reading; What is asked, out of a reading; HistoryKnown gives true; AppendSeq and Collect of the program's events; The plain law of the union of two sets, and of where they fork; The names of a set: the iterator over its map, gathered and sorted; The program's maps.Copy of sets, and two sets of two lists; What Merge gives back, of both sides; a list of notes that are copies; The program's fork and Fork; The program's Merge; The plain law of the reference's fold: judges, what counts, and the insertion of an event. -/
import Derived.Deep.Strs
import Derived.Sort.MapsRangeIn
import Derived.Test.YtpjiakgfegnmcaaGreatKPhu10
set_option linter.unusedSimpArgs false
set_option linter.unusedVariables false
open List renaming getElem_toArray → lq0, getElem_cons_succ → lq1, getElem_cons_zero → lq2, setIfInBounds_toArray → lq3, set_cons_zero → lq4, set_cons_succ → lq5
namespace Go.Proofs.YtpjiakgfegnmcaaGreat
open Go.ChangeShapes Go.WideShapes Go.ChangeAt Go.RowKit

theorem i64_of_wf {x : Int} (h : (Lit.int .i64 x).wf = true) : I64 x := by
  simp [Lit.wf, IntKind.min, IntKind.max, IntKind.signed, IntKind.bits] at h
  unfold I64
  omega
theorem Tryz.cells3 : Tryz.prog.cellsOf 3 = 1 := by kernel_rfl
theorem Tryz.cells38 : Tryz.prog.cellsOf 38 = 1 := by kernel_rfl
theorem Tryz.cells49 : Tryz.prog.cellsOf 49 = 2 := by kernel_rfl
theorem Tryz.cells29 : Tryz.prog.cellsOf 29 = 2 := by kernel_rfl
theorem Tryz.cells51 : Tryz.prog.cellsOf 51 = 19 := by kernel_rfl

section
variable {H : Type} {enc : TypeId × Value → H} {W : World} {fuel : Nat}

theorem open_ri1 {cs : List Value} {y : DataW H × List MemPlace} (h : DataW.trod enc Tryz.prog W 0 (fun _ => true) true fuel 38 cs = some y) : ∃ a c l, cs = [.slice a l.length c] ∧ RdI W a l.length c l ∧ ∀ z ∈ l, I64 z := by
  rcases open_ints Tryz.underlying38 Tryz.underlying3 Tryz.cells3 h with ⟨hcs, hx⟩ | ⟨a, n, c, zs, hcs, _, hl, hm, hz, hx, hcell, hwz⟩
  · exact ⟨none, 0, [], hcs, RdA.nil _ _, fun z hz => by cases hz⟩
  · simp only [if_true] at hz
    have hlen : (zs.take n).length = n := by rw [List.length_take]; omega
    refine ⟨some a, c, zs.take n, by rw [hlen]; exact hcs, ⟨by simp, by omega, hm, ?_⟩, fun z hz => i64_of_wf (hwz z (List.mem_of_mem_take hz))⟩
    by_cases hc0 : c = 0
    · exact .inl hc0
    · obtain ⟨ab, ao, spot⟩ := a
      have hspot : spot = none := by simpa [Addr.add] using World.cell?_spot (hcell 0 (by omega))
      subst hspot
      refine .inr ⟨ab, ao, rfl, fun i x hx => ?_⟩
      rw [List.getElem?_map, List.getElem?_take] at hx
      split at hx
      · rename_i hi
        have hiz : i < zs.length := by omega
        rw [List.getElem?_eq_getElem hiz, Option.map_some] at hx
        simp only [Option.some.injEq] at hx
        subst hx
        have hc := hcell i hiz
        rw [Addr.add_lit] at hc
        rw [hc, List.getD_eq_getElem?_getD, List.getElem?_eq_getElem hiz]
        rfl
      · cases hx
theorem get_some {α : Type} {xs : List α} {n i : Nat} (h : xs.length = n) (hi : i < n) : ∃ y, xs[i]? = some y := ⟨xs[i]'(by omega), List.getElem?_eq_getElem (by omega)⟩
set_option maxRecDepth 100000 in
theorem open_two {t : TypeId} {cs : List Value} {y : DataW H × List MemPlace} {f0 f1 : Field} (ht : Tryz.prog.underlying t = some (.struct #[f0, f1])) (h0 : f0.type = 3) (h1 : f1.type = 3) (o0 : f0.offset = 0) (o1 : f1.offset = 1) (hc : Tryz.prog.cellsOf t = 2)
    (h : DataW.trod enc Tryz.prog W 0 (fun _ => true) true fuel t cs = some y) : ∃ x z, cs = [.int .i64 x, .int .i64 z] ∧ I64 x ∧ I64 z := by
  obtain ⟨y0, y1, n, _, hl, g0, g1⟩ := trod_struct2 ht h
  rw [hc] at hl
  match cs, hl with
  | [c0, c1], _ =>
    rw [h0, o0, Tryz.cells3] at g0
    rw [h1, o1, Tryz.cells3] at g1
    obtain ⟨x, a0, _, b0⟩ := DataW.trod_int Tryz.underlying3 g0
    obtain ⟨z, a1, _, b1⟩ := DataW.trod_int Tryz.underlying3 g1
    simp at a0 a1
    exact ⟨x, z, by rw [a0, a1], i64_of_wf b0, i64_of_wf b1⟩

set_option maxHeartbeats 1000000 in
set_option maxRecDepth 100000 in
theorem open_note1 {cs : List Value} {y : DataW H × List MemPlace} (h : DataW.trod enc Tryz.prog W 0 (fun _ => true) true fuel 51 cs = some y) : ∃ n : NoteV, RdNote W cs n := by
  obtain ⟨xs, m, _, _, hl, hlen, hf⟩ := DataW.trod_struct Tryz.underlying51 h
  rw [Tryz.cells51] at hl
  match cs, hl with
  | [c0, c1, c2, c3, c4, c5, c6, c7, c8, c9, c10, c11, c12, c13, c14, c15, c16, c17, c18], _ =>
    obtain ⟨y0, e0⟩ := get_some hlen (i := 0) (by decide)
    have g0 : DataW.trod enc Tryz.prog W 0 (fun _ => true) true m 3 (([c0, c1, c2, c3, c4, c5, c6, c7, c8, c9, c10, c11, c12, c13, c14, c15, c16, c17, c18].drop 0).take (Tryz.prog.cellsOf 3)) = some y0 := (hf 0 _ rfl).trans e0
    rw [Tryz.cells3] at g0
    obtain ⟨x0, a0, _, b0⟩ := DataW.trod_int Tryz.underlying3 g0
    simp at a0
    clear e0 g0
    obtain ⟨y1, e1⟩ := get_some hlen (i := 1) (by decide)
    have g1 : DataW.trod enc Tryz.prog W 0 (fun _ => true) true m 3 (([c0, c1, c2, c3, c4, c5, c6, c7, c8, c9, c10, c11, c12, c13, c14, c15, c16, c17, c18].drop 1).take (Tryz.prog.cellsOf 3)) = some y1 := (hf 1 _ rfl).trans e1
    rw [Tryz.cells3] at g1
    obtain ⟨x1, a1, _, b1⟩ := DataW.trod_int Tryz.underlying3 g1
    simp at a1
    clear e1 g1
    obtain ⟨y2, e2⟩ := get_some hlen (i := 2) (by decide)
    have g2 : DataW.trod enc Tryz.prog W 0 (fun _ => true) true m 3 (([c0, c1, c2, c3, c4, c5, c6, c7, c8, c9, c10, c11, c12, c13, c14, c15, c16, c17, c18].drop 2).take (Tryz.prog.cellsOf 3)) = some y2 := (hf 2 _ rfl).trans e2
    rw [Tryz.cells3] at g2
    obtain ⟨x2, a2, _, b2⟩ := DataW.trod_int Tryz.underlying3 g2
    simp at a2
    clear e2 g2
    obtain ⟨y3, e3⟩ := get_some hlen (i := 3) (by decide)
    have g3 : DataW.trod enc Tryz.prog W 0 (fun _ => true) true m 3 (([c0, c1, c2, c3, c4, c5, c6, c7, c8, c9, c10, c11, c12, c13, c14, c15, c16, c17, c18].drop 3).take (Tryz.prog.cellsOf 3)) = some y3 := (hf 3 _ rfl).trans e3
    rw [Tryz.cells3] at g3
    obtain ⟨x3, a3, _, b3⟩ := DataW.trod_int Tryz.underlying3 g3
    simp at a3
    clear e3 g3
    obtain ⟨y4, e4⟩ := get_some hlen (i := 4) (by decide)
    have g4 : DataW.trod enc Tryz.prog W 0 (fun _ => true) true m 3 (([c0, c1, c2, c3, c4, c5, c6, c7, c8, c9, c10, c11, c12, c13, c14, c15, c16, c17, c18].drop 4).take (Tryz.prog.cellsOf 3)) = some y4 := (hf 4 _ rfl).trans e4
    rw [Tryz.cells3] at g4
    obtain ⟨x4, a4, _, b4⟩ := DataW.trod_int Tryz.underlying3 g4
    simp at a4
    clear e4 g4
    obtain ⟨y5, e5⟩ := get_some hlen (i := 5) (by decide)
    have g5 : DataW.trod enc Tryz.prog W 0 (fun _ => true) true m 3 (([c0, c1, c2, c3, c4, c5, c6, c7, c8, c9, c10, c11, c12, c13, c14, c15, c16, c17, c18].drop 5).take (Tryz.prog.cellsOf 3)) = some y5 := (hf 5 _ rfl).trans e5
    rw [Tryz.cells3] at g5
    obtain ⟨x5, a5, _, b5⟩ := DataW.trod_int Tryz.underlying3 g5
    simp at a5
    clear e5 g5
    obtain ⟨y6, e6⟩ := get_some hlen (i := 6) (by decide)
    have g6 : DataW.trod enc Tryz.prog W 0 (fun _ => true) true m 3 (([c0, c1, c2, c3, c4, c5, c6, c7, c8, c9, c10, c11, c12, c13, c14, c15, c16, c17, c18].drop 6).take (Tryz.prog.cellsOf 3)) = some y6 := (hf 6 _ rfl).trans e6
    rw [Tryz.cells3] at g6
    obtain ⟨x6, a6, _, b6⟩ := DataW.trod_int Tryz.underlying3 g6
    simp at a6
    clear e6 g6
    obtain ⟨y7, e7⟩ := get_some hlen (i := 7) (by decide)
    have g7 : DataW.trod enc Tryz.prog W 0 (fun _ => true) true m 3 (([c0, c1, c2, c3, c4, c5, c6, c7, c8, c9, c10, c11, c12, c13, c14, c15, c16, c17, c18].drop 7).take (Tryz.prog.cellsOf 3)) = some y7 := (hf 7 _ rfl).trans e7
    rw [Tryz.cells3] at g7
    obtain ⟨x7, a7, _, b7⟩ := DataW.trod_int Tryz.underlying3 g7
    simp at a7
    clear e7 g7
    obtain ⟨y8, e8⟩ := get_some hlen (i := 8) (by decide)
    have g8 : DataW.trod enc Tryz.prog W 0 (fun _ => true) true m 49 (([c0, c1, c2, c3, c4, c5, c6, c7, c8, c9, c10, c11, c12, c13, c14, c15, c16, c17, c18].drop 8).take (Tryz.prog.cellsOf 49)) = some y8 := (hf 8 _ rfl).trans e8
    rw [Tryz.cells49] at g8
    obtain ⟨x8, z8, a8, b8, d8⟩ := open_two Tryz.underlying49 rfl rfl rfl rfl Tryz.cells49 g8
    simp at a8
    clear e8 g8
    obtain ⟨y9, e9⟩ := get_some hlen (i := 9) (by decide)
    have g9 : DataW.trod enc Tryz.prog W 0 (fun _ => true) true m 49 (([c0, c1, c2, c3, c4, c5, c6, c7, c8, c9, c10, c11, c12, c13, c14, c15, c16, c17, c18].drop 10).take (Tryz.prog.cellsOf 49)) = some y9 := (hf 9 _ rfl).trans e9
    rw [Tryz.cells49] at g9
    obtain ⟨x9, z9, a9, b9, d9⟩ := open_two Tryz.underlying49 rfl rfl rfl rfl Tryz.cells49 g9
    simp at a9
    clear e9 g9
    obtain ⟨y10, e10⟩ := get_some hlen (i := 10) (by decide)
    have g10 : DataW.trod enc Tryz.prog W 0 (fun _ => true) true m 3 (([c0, c1, c2, c3, c4, c5, c6, c7, c8, c9, c10, c11, c12, c13, c14, c15, c16, c17, c18].drop 12).take (Tryz.prog.cellsOf 3)) = some y10 := (hf 10 _ rfl).trans e10
    rw [Tryz.cells3] at g10
    obtain ⟨x10, a10, _, b10⟩ := DataW.trod_int Tryz.underlying3 g10
    simp at a10
    clear e10 g10
    obtain ⟨y11, e11⟩ := get_some hlen (i := 11) (by decide)
    have g11 : DataW.trod enc Tryz.prog W 0 (fun _ => true) true m 3 (([c0, c1, c2, c3, c4, c5, c6, c7, c8, c9, c10, c11, c12, c13, c14, c15, c16, c17, c18].drop 13).take (Tryz.prog.cellsOf 3)) = some y11 := (hf 11 _ rfl).trans e11
    rw [Tryz.cells3] at g11
    obtain ⟨x11, a11, _, b11⟩ := DataW.trod_int Tryz.underlying3 g11
    simp at a11
    clear e11 g11
    obtain ⟨y12, e12⟩ := get_some hlen (i := 12) (by decide)
    have g12 : DataW.trod enc Tryz.prog W 0 (fun _ => true) true m 3 (([c0, c1, c2, c3, c4, c5, c6, c7, c8, c9, c10, c11, c12, c13, c14, c15, c16, c17, c18].drop 14).take (Tryz.prog.cellsOf 3)) = some y12 := (hf 12 _ rfl).trans e12
    rw [Tryz.cells3] at g12
    obtain ⟨x12, a12, _, b12⟩ := DataW.trod_int Tryz.underlying3 g12
    simp at a12
    clear e12 g12
    obtain ⟨y13, e13⟩ := get_some hlen (i := 13) (by decide)
    have g13 : DataW.trod enc Tryz.prog W 0 (fun _ => true) true m 38 (([c0, c1, c2, c3, c4, c5, c6, c7, c8, c9, c10, c11, c12, c13, c14, c15, c16, c17, c18].drop 15).take (Tryz.prog.cellsOf 38)) = some y13 := (hf 13 _ rfl).trans e13
    rw [Tryz.cells38] at g13
    obtain ⟨sa, sc, l, a13, r13, b13⟩ := open_ri1 g13
    simp at a13
    clear e13 g13
    obtain ⟨y14, e14⟩ := get_some hlen (i := 14) (by decide)
    have g14 : DataW.trod enc Tryz.prog W 0 (fun _ => true) true m 29 (([c0, c1, c2, c3, c4, c5, c6, c7, c8, c9, c10, c11, c12, c13, c14, c15, c16, c17, c18].drop 16).take (Tryz.prog.cellsOf 29)) = some y14 := (hf 14 _ rfl).trans e14
    rw [Tryz.cells29] at g14
    obtain ⟨x14, z14, a14, b14, d14⟩ := open_two Tryz.underlying29 rfl rfl rfl rfl Tryz.cells29 g14
    simp at a14
    clear e14 g14
    obtain ⟨y15, e15⟩ := get_some hlen (i := 15) (by decide)
    have g15 : DataW.trod enc Tryz.prog W 0 (fun _ => true) true m 3 (([c0, c1, c2, c3, c4, c5, c6, c7, c8, c9, c10, c11, c12, c13, c14, c15, c16, c17, c18].drop 18).take (Tryz.prog.cellsOf 3)) = some y15 := (hf 15 _ rfl).trans e15
    rw [Tryz.cells3] at g15
    obtain ⟨x15, a15, _, b15⟩ := DataW.trod_int Tryz.underlying3 g15
    simp at a15
    clear e15 g15
    exact ⟨{ house := x0, num := x1, clock := x2, day := x3, kind := x4, stone := x5, heap := x6, turns := x7, hardLo := x8, hardHi := z8, diffLo := x9, diffHi := z9, a := x10, b := x11, ring := x12, strokes := l, refH := x14, refN := z14, fix := x15 }, sa, sc, by simp only [NoteV.cells]; rw [a0, a1, a2, a3, a4, a5, a6, a7, a8.1, a8.2, a9.1, a9.2, a10, a11, a12, a13, a14.1, a14.2, a15], r13, { house := i64_of_wf b0, num := i64_of_wf b1, clock := i64_of_wf b2, day := i64_of_wf b3, kind := i64_of_wf b4, stone := i64_of_wf b5, heap := i64_of_wf b6, turns := i64_of_wf b7, hardLo := b8, hardHi := d8, diffLo := b9, diffHi := d9, a := i64_of_wf b10, b := i64_of_wf b11, ring := i64_of_wf b12, strokes := b13, refH := b14, refN := d14, fix := i64_of_wf b15 }⟩
end
end Go.Proofs.YtpjiakgfegnmcaaGreat
namespace Go.Proofs.YtpjiakgfegnmcaaGreat
open Go.ChangeShapes Go.WideShapes Go.ChangeAt Go.RowKit

theorem Tryz.cells23 : Tryz.prog.cellsOf 23 = 3 := by kernel_rfl
section
variable {H : Type} {enc : TypeId × Value → H} {W : World}
set_option maxRecDepth 100000 in
theorem hopen_frame {base : Nat} {v : Value} {d : DataW H} {p : List MemPlace} (hval : Value.okWide Tryz.prog W .any base 23 v)
    (h : DataW.Trod enc Tryz.prog W 0 (fun _ => true) true 23 v d p) : ∃ f : FrV, v = f.val := by
  obtain ⟨cs, rfl, hsz⟩ := okWide_struct Tryz.underlying23 hval
  obtain ⟨fuel, hf⟩ := h
  obtain ⟨y0, y1, y2, n, _, hl, g0, g1, g2⟩ := Go.Deep.trod_struct3 Tryz.underlying23 hf
  rw [Tryz.cells23] at hsz
  obtain ⟨l⟩ := cs
  match l, hsz with
  | [c0, c1, c2], _ =>
    have g0' : DataW.trod enc Tryz.prog W 0 (fun _ => true) true n 3 (([c0, c1, c2].drop 0).take (Tryz.prog.cellsOf 3)) = some y0 := g0
    have g1' : DataW.trod enc Tryz.prog W 0 (fun _ => true) true n 3 (([c0, c1, c2].drop 1).take (Tryz.prog.cellsOf 3)) = some y1 := g1
    have g2' : DataW.trod enc Tryz.prog W 0 (fun _ => true) true n 3 (([c0, c1, c2].drop 2).take (Tryz.prog.cellsOf 3)) = some y2 := g2
    rw [Tryz.cells3] at g0' g1' g2'
    obtain ⟨x0, a0, _, _⟩ := DataW.trod_int Tryz.underlying3 g0'
    obtain ⟨x1, a1, _, _⟩ := DataW.trod_int Tryz.underlying3 g1'
    obtain ⟨x2, a2, _, _⟩ := DataW.trod_int Tryz.underlying3 g2'
    simp at a0 a1 a2
    exact ⟨⟨x0, x1, x2⟩, by rw [a0, a1, a2]; rfl⟩
theorem cells_spot {a : Addr} {n : Nat} {cs : List Value} (hn : 0 < n) (h : W.cells? 0 a n = some cs) : a.spot = none := by
  have h2 := World.cells?_some h
  have h3 := h2.2.2 0 (by have := h2.1; omega)
  rw [List.getElem?_eq_getElem (by have := h2.1; omega)] at h3
  simpa [Addr.add] using World.cell?_spot h3
theorem open_rows {fuel : Nat} {cs : List Value} {y : DataW H × List MemPlace} {t e : TypeId} {k : Nat} (ht : Tryz.prog.underlying t = some (.slice e)) (hc : Tryz.prog.cellsOf e = k) (hk : 0 < k)
    (h : DataW.trod enc Tryz.prog W 0 (fun _ => true) true fuel t cs = some y) :
    ∃ a n c, cs = [.slice a n c] ∧ n ≤ c ∧ c ≤ maxLen ∧ (c = 0 ∨ ∃ b off, a = some ⟨b, off, none⟩ ∧ ∀ i, i < n → ∃ es m z, DataW.trod enc Tryz.prog W 0 (fun _ => true) true m e es = some z ∧ W.rangeAt b (off + i * k) es) := by
  rcases DataW.trod_slice ht h with ⟨hcs, hx⟩ | ⟨a, len', cap', elems, rest, m, _, hcs, hx, hb, hl, hm, hlen, hel, hsp, hns⟩
  · exact ⟨none, 0, 0, hcs, Nat.le_refl _, Nat.zero_le _, .inl rfl⟩
  · rw [hc] at hel hsp
    refine ⟨some a, len', cap', hcs, hl, hm, ?_⟩
    rcases Nat.eq_zero_or_pos cap' with h0 | h0
    · exact .inl h0
    · have hspot : a.spot = none := by
        rcases Nat.eq_zero_or_pos len' with h1 | h1
        · obtain ⟨h2, h3⟩ := hsp rfl
          have h4 := h3 0 (by omega)
          rw [List.getElem?_eq_getElem (by omega)] at h4
          cases hq : W.cells? 0 (a.add ((len' + 0) * k)) k with
          | none => rw [hq] at h4; cases h4
          | some cs => rw [show (len' + 0) * k = 0 by rw [h1]; simp] at hq; have := cells_spot hk hq; simpa [Addr.add] using this
        · have h4 := hel 0 h1
          rw [List.getElem?_eq_getElem (by omega)] at h4
          cases hq : W.cells? 0 (a.add (0 * k)) k with
          | none => rw [hq] at h4; cases h4
          | some cs => rw [Nat.zero_mul] at hq; have := cells_spot hk hq; simpa [Addr.add] using this
      obtain ⟨ab, ao, spot⟩ := a
      simp only at hspot
      subst hspot
      refine .inr ⟨ab, ao, rfl, fun i hi => ?_⟩
      have h1 := hel i hi
      rw [List.getElem?_eq_getElem (by omega)] at h1
      cases hcs : W.cells? 0 ((⟨ab, ao, none⟩ : Addr).add (i * k)) k with
      | none => rw [hcs] at h1; cases h1
      | some es =>
        rw [hcs] at h1
        have h2 := World.cells?_some hcs
        refine ⟨es, m, _, h1, fun j v hv => ?_⟩
        have hj : j < es.length := (List.getElem?_eq_some_iff.1 hv).1
        have h3 := h2.2.2 j (by have := h2.1; omega)
        rw [hv] at h3
        simpa [Addr.add_lit] using h3
theorem choose_list {α : Type} {n : Nat} {P : Nat → α → Prop} (h : ∀ i, i < n → ∃ x, P i x) : ∃ l : List α, l.length = n ∧ ∀ i x, l[i]? = some x → P i x := by
  induction n with
  | zero => exact ⟨[], rfl, by simp⟩
  | succ n ih =>
    obtain ⟨l, h1, h2⟩ := ih (fun i hi => h i (by omega))
    obtain ⟨x, hx⟩ := h n (by omega)
    refine ⟨l ++ [x], by simp [h1], fun i y hy => ?_⟩
    rcases Nat.lt_or_ge i l.length with hi | hi
    · rw [List.getElem?_append_left hi] at hy; exact h2 i y hy
    · rw [List.getElem?_append_right hi] at hy
      have : i - l.length = 0 := by
        rcases Nat.eq_zero_or_pos (i - l.length) with h0 | h0
        · exact h0
        · rw [List.getElem?_eq_none (by simp; omega)] at hy; cases hy
      rw [this] at hy
      simp at hy
      subst hy
      have : i = n := by omega
      rw [this]; exact hx
set_option maxRecDepth 100000 in
theorem open_notes1 {fuel : Nat} {cs : List Value} {y : DataW H × List MemPlace} (h : DataW.trod enc Tryz.prog W 0 (fun _ => true) true fuel 43 cs = some y) : ∃ a n c l, cs = [.slice a n c] ∧ RdNs W a n c l ∧ ∀ x ∈ l, x.Ok := by
  obtain ⟨a, n, c, rfl, h1, h2, h3⟩ := open_rows Tryz.underlying43 Tryz.cells51 (by decide) h
  rcases h3 with h3 | ⟨b, off, rfl, h3⟩
  · exact ⟨a, n, c, [], rfl, ⟨by simp; omega, h1, h2, .inl h3⟩, fun x hx => by cases hx⟩
  · obtain ⟨l, h4, h5⟩ := choose_list (P := fun i (x : NoteV) => ∃ es, W.rangeAt b (off + i * 19) es ∧ RdNote W es x) (fun i hi => by
      obtain ⟨es, m, z, h6, h7⟩ := h3 i hi
      obtain ⟨x, hx⟩ := open_note1 h6
      exact ⟨x, es, h7, hx⟩)
    refine ⟨_, n, c, l, rfl, ⟨h4, h1, h2, .inr ⟨b, off, rfl, fun i x hx => ?_⟩⟩, fun x hx => ?_⟩
    · obtain ⟨es, h6, sa, sc, rfl, h7, _⟩ := h5 i x hx
      exact ⟨sa, sc, h6, h7⟩
    · obtain ⟨i, hi⟩ := List.getElem?_of_mem hx
      obtain ⟨es, h6, sa, sc, rfl, _, h7⟩ := h5 i x hi
      exact h7
set_option maxRecDepth 100000 in
theorem open_notes {base : Nat} {v : Value} {d : DataW H} {p : List MemPlace} (hval : Value.okWide Tryz.prog W .any base 43 v)
    (h : DataW.Trod enc Tryz.prog W 0 (fun _ => true) true 43 v d p) : ∃ a n c l, v = .slice a n c ∧ RdNs W a n c l ∧ ∀ x ∈ l, x.Ok := by
  obtain ⟨a1, n1, c1, rfl⟩ := okWide_slice Tryz.underlying43 hval
  obtain ⟨fuel, hf⟩ := h
  obtain ⟨a, n, c, l, h1, h2⟩ := open_notes1 hf
  simp [Value.cells] at h1
  obtain ⟨rfl, rfl, rfl⟩ := h1
  exact ⟨_, _, _, l, rfl, h2⟩
end
end Go.Proofs.YtpjiakgfegnmcaaGreat
namespace Go.Proofs.YtpjiakgfegnmcaaGreat
open Go.ChangeShapes Go.WideShapes Go.ChangeAt Go.RowKit

structure AskV where
  day : Int
  clock : Int
  stone : Int
  ring : Int
  heap : Int
  rh : Int
  rn : Int
def AskV.cells (x : AskV) : Array Value := #[.int .i64 x.day, .int .i64 x.clock, .int .i64 x.stone, .int .i64 x.ring, .int .i64 x.heap, .int .i64 x.rh, .int .i64 x.rn]
structure AskV.Ok (x : AskV) : Prop where
  day : I64 x.day
  clock : I64 x.clock
  ref : nmOk (x.rh, x.rn)
section
variable {H : Type} {enc : TypeId × Value → H} {W : World}
end
end Go.Proofs.YtpjiakgfegnmcaaGreat
namespace Go.Proofs.YtpjiakgfegnmcaaGreat
set_option linter.unusedSimpArgs false
open Go.RowKit

structure HkAt (w W : World) (pF pA : Nat) (f : FrV) (x : AskV) : Prop where
  bel : Below w.heap.size w W
  fr : W.heap[pF]? = some (.cells #[.int .i64 f.rings, .int .i64 f.sectors, .int .i64 f.wide] 23 (0, 0))
  ak : W.heap[pA]? = some (.cells #[.int .i64 x.day, .int .i64 x.clock, .int .i64 x.stone, .int .i64 x.ring, .int .i64 x.heap, .int .i64 x.rh, .int .i64 x.rn] 31 (0, 0))
theorem HkAt.below {w W W' : World} {pF pA : Nat} {f : FrV} {x : AskV} (h : HkAt w W pF pA f x) (hb : Below W.heap.size W W') : HkAt w W' pF pA f x :=
  ⟨h.bel.trans (hb.mono h.bel.size), below_blk hb h.fr, below_blk hb h.ak⟩

end Go.Proofs.YtpjiakgfegnmcaaGreat
namespace Go.Proofs.YtpjiakgfegnmcaaGreat
set_option linter.unusedSimpArgs false
open Go.RowKit
attribute [local go_sem] Oper.semAt_some

structure ApAt (Wb : World) (p : Nat) (es : List EvV) (W : World) : Prop where
  blk : ∃ a c, W.heap[p]? = some (.cells #[.slice a es.length c] 24 (0, 0)) ∧ W.ownsRow Wb.heap.size 53 21 (.slice a es.length c) es.length (evCells es)
  same : Same (fun k => k = p) Wb W
theorem ApAt.below {Wb W W' : World} {p : Nat} {es : List EvV} (h : ApAt Wb p es W) (hb : Below W.heap.size W W') : ApAt Wb p es W' := by
  obtain ⟨⟨a, c, h1, h2⟩, h3⟩ := h
  exact ⟨⟨a, c, below_blk hb h1, own_below h2 hb⟩, h3.trans (Same.of_below hb)⟩
theorem ApAt.putObj {Wb W : World} {p : Nat} {es : List EvV} (h : ApAt Wb p es W) (o : Loop) (hl : ∃ r, W.heap[Wb.heap.size + 1]? = some (.loop r)) : ApAt Wb p es (W.putObj (Wb.heap.size + 1) (.loop o)) := by
  obtain ⟨r, hl⟩ := hl
  obtain ⟨⟨a, c, h1, h2⟩, h3⟩ := h
  have hne : p ≠ Wb.heap.size + 1 := fun e => by rw [e, hl] at h1; cases h1
  exact ⟨⟨a, c, (World.putObj_heap_other hne).trans h1, ownsRow_putObj h2 _ hl rfl⟩, h3.reg (Same.of_grown (grownBy_putObj' W _ _) (fun k e => by cases e; exact .inr (by omega)))⟩
theorem ApAt.add {Wb W V : World} {p : Nat} {es : List EvV} {e : EvV} {a a' : Option Addr} {c c' : Nat} (hs : Same (fun k => k = p) Wb W) (hp : W.heap[p]? = some (.cells #[.slice a es.length c] 24 (0, 0))) (how : W.ownsRow Wb.heap.size 53 21 (.slice a es.length c) es.length (evCells es))
    (ho : V.ownsRow Wb.heap.size 53 21 (.slice a' (es.length + 1) c') (es.length + 1) (evCells es ++ e.cells)) (hg : W.grownBy V (Value.ownBlock (.slice a es.length c))) :
    ApAt Wb p (es ++ [e]) (V.setCell ⟨p, 0, none⟩ (.slice a' (es.length + 1) c')) ∧ V.heap[p]? = some (.cells #[.slice a es.length c] 24 (0, 0)) := by
  have hb2 := grown_blk hg hp (own_no how hp (by intro cur; simp))
  have G := setCell_grown V p 0 (.slice a' (es.length + 1) c')
  refine ⟨⟨⟨a', c', ?_, ?_⟩, hs.reg ((Same.of_grown hg (fun k e => .inr (how.lt k e).1)).trans (Same.of_grown G (fun k e => by cases e; exact .inl rfl)))⟩, hb2⟩
  · rw [setCell_at hb2 0 (.slice a' (es.length + 1) c'), List.length_append]; rfl
  · rw [evCells_snoc, List.length_append]
    exact ho.kept G (.inr (own_no ho hb2 (by intro cur; simp)).symm)
end Go.Proofs.YtpjiakgfegnmcaaGreat
namespace Go.Proofs.YtpjiakgfegnmcaaGreat
set_option linter.unusedSimpArgs false
set_option linter.unusedVariables false

theorem sameB_iff {x y : NoteV} : sameB x y = true ↔ x = y := by
  constructor
  · intro h
    obtain ⟨⟨h1, h2⟩, ⟨h3, h4, h5, h6, h7, h8⟩, ⟨h9, h10⟩, ⟨h11, h12⟩, ⟨h13, h14, h15⟩, ⟨h16, h17⟩, h18, h19⟩ := same_all.1 h
    cases x; cases y
    simp only [NoteV.mk.injEq]
    exact ⟨h1, h2, h3, h4, h5, h6, h7, h8, h9, h10, h11, h12, h13, h14, h15, h16, h17, h18, h19⟩
  · rintro rfl; simp [sameB]
theorem sameB_comm (x y : NoteV) : sameB x y = sameB y x := by
  rw [Bool.eq_iff_iff, sameB_iff, sameB_iff]
  exact ⟨Eq.symm, Eq.symm⟩
abbrev ltN (x y : NoteV) : Prop := nmLt (nmOf x) (nmOf y) = true
theorem ltN_trans {x y z : NoteV} (h1 : ltN x y) (h2 : ltN y z) : ltN x z := by
  unfold ltN at *
  rw [nmLt_iff] at *
  omega
theorem ltN_asymm {x y : NoteV} (h : ltN x y) : nmLt (nmOf y) (nmOf x) = false := by
  cases h2 : nmLt (nmOf y) (nmOf x) with
  | false => rfl
  | true =>
    unfold ltN at h
    rw [nmLt_iff] at h h2
    omega
theorem ltN_irrefl {x y : NoteV} (h : ltN x y) (e : nmOf x = nmOf y) : False := by
  unfold ltN at h
  rw [e, nmLt_iff] at h
  omega
theorem nodupN {u : List NoteV} (h : u.Pairwise ltN) : u.Nodup := by
  rw [List.Nodup]
  exact h.imp (fun {x y} hxy (e : x = y) => ltN_irrefl hxy (congrArg nmOf e))
def badB (m : List NoteV) (x : NoteV) : Bool := m.any (fun y => decide (nmOf y = nmOf x) && !sameB x y)
def forkAt (l m : List NoteV) : Option Nm := (l.find? (badB m)).map nmOf
theorem badB_true {m : List NoteV} {x : NoteV} : badB m x = true ↔ ∃ y ∈ m, nmOf y = nmOf x ∧ x ≠ y := by
  unfold badB
  rw [List.any_eq_true]
  constructor
  · rintro ⟨y, hy, h⟩
    simp only [Bool.and_eq_true, decide_eq_true_eq, Bool.not_eq_true'] at h
    exact ⟨y, hy, h.1, fun e => by rw [sameB_iff.2 e] at h; cases h.2⟩
  · rintro ⟨y, hy, h1, h2⟩
    refine ⟨y, hy, ?_⟩
    simp only [Bool.and_eq_true, decide_eq_true_eq, Bool.not_eq_true']
    refine ⟨h1, ?_⟩
    cases h3 : sameB x y with
    | false => rfl
    | true => exact absurd (sameB_iff.1 h3) h2
theorem badB_no {m : List NoteV} {x : NoteV} (h : ∀ y ∈ m, nmOf y ≠ nmOf x) : badB m x = false := by
  cases h2 : badB m x with
  | false => rfl
  | true => obtain ⟨y, hy, h3, _⟩ := badB_true.1 h2; exact absurd h3 (h y hy)
theorem badB_at {m : List NoteV} {x y : NoteV} (hd : (m.map nmOf).Nodup) (hy : y ∈ m) (e : nmOf y = nmOf x) : badB m x = !sameB x y := by
  rw [Bool.eq_iff_iff, badB_true, Bool.not_eq_true']
  constructor
  · rintro ⟨z, hz, h1, h2⟩
    have : z = y := nodup_inj hd hz hy (h1.trans e.symm)
    subst this
    cases h3 : sameB x z with
    | false => rfl
    | true => exact absurd (sameB_iff.1 h3) h2
  · intro h
    exact ⟨y, hy, e, fun h2 => by rw [sameB_iff.2 h2] at h; cases h⟩
def NoFork (l m : List NoteV) : Prop := ∀ x ∈ l, ∀ y ∈ m, nmOf x = nmOf y → x = y
theorem NoFork.comm {l m : List NoteV} (h : NoFork l m) : NoFork m l := fun x hx y hy e => (h y hy x hx e.symm).symm
theorem forkAt_none {l m : List NoteV} : forkAt l m = none ↔ NoFork l m := by
  unfold forkAt
  rw [Option.map_eq_none_iff, List.find?_eq_none]
  constructor
  · intro h x hx y hy e
    cases h2 : sameB x y with
    | true => exact sameB_iff.1 h2
    | false => exact absurd (badB_true.2 ⟨y, hy, e.symm, fun h3 => by rw [sameB_iff.2 h3] at h2; cases h2⟩) (h x hx)
  · intro h x hx hb
    obtain ⟨y, hy, h1, h2⟩ := badB_true.1 hb
    exact h2 (h x hx y hy h1.symm)
theorem forkAt_first {l m : List NoteV} {k : Nat} {x : NoteV} (hx : l[k]? = some x) (h1 : ∀ j y, j < k → l[j]? = some y → badB m y = false) (h2 : badB m x = true) : forkAt l m = some (nmOf x) := by
  unfold forkAt
  have hk := (List.getElem?_eq_some_iff.1 hx).1
  have e : l = l.take k ++ x :: l.drop (k + 1) := by
    rw [← (List.getElem?_eq_some_iff.1 hx).2, ← List.drop_eq_getElem_cons hk, List.take_append_drop]
  rw [e, List.find?_append]
  have : (l.take k).find? (badB m) = none := by
    rw [List.find?_eq_none]
    intro y hy
    obtain ⟨j, hj, hj2⟩ := List.mem_take_iff_getElem.1 hy
    rw [h1 j y (by omega) (by rw [← hj2]; exact List.getElem?_eq_getElem (by omega))]
    decide
  rw [this, List.find?_cons_of_pos h2]
  rfl
theorem forkAt_all {l m : List NoteV} (h1 : ∀ j y, j < l.length → l[j]? = some y → badB m y = false) : forkAt l m = none := by
  unfold forkAt
  rw [Option.map_eq_none_iff, List.find?_eq_none]
  intro y hy
  obtain ⟨j, hj⟩ := List.getElem?_of_mem hy
  rw [h1 j y (List.getElem?_eq_some_iff.1 hj).1 hj]
  decide
def IsU (l m u : List NoteV) : Prop := u.Pairwise ltN ∧ ∀ x, x ∈ u ↔ x ∈ l ∨ x ∈ m
theorem IsU.comm {l m u : List NoteV} (h : IsU l m u) : IsU m l u := ⟨h.1, fun x => (h.2 x).trans Or.comm⟩
theorem sortedN_eq {u v : List NoteV} (h1 : u.Pairwise ltN) (h2 : v.Pairwise ltN) (h : ∀ x, x ∈ u ↔ x ∈ v) : u = v := by
  have hp : u.Perm v := (List.perm_ext_iff_of_nodup (nodupN h1) (nodupN h2)).2 h
  refine sorted_unique (lt := fun x y => nmLt (nmOf x) (nmOf y)) (fun x hx y hy h3 h4 => ?_) hp (h1.imp ltN_asymm) (h2.imp ltN_asymm)
  exact nodup_inj (set_nodup h1) hx hy (nm_total h3 h4)
theorem IsU.uniq {l m u v : List NoteV} (h : IsU l m u) (h' : IsU l m v) : u = v := sortedN_eq h.1 h'.1 fun x => (h.2 x).trans (h'.2 x).symm
theorem IsU.self {l : List NoteV} (h : l.Pairwise ltN) : IsU l l l := ⟨h, fun x => by simp⟩
theorem IsU.len {l m u : List NoteV} (h : IsU l m u) : u.length ≤ l.length + m.length := by
  have := nodup_le (u.map nmOf) ((l ++ m).map nmOf) (set_nodup h.1) (fun a ha => by
    obtain ⟨x, hx, rfl⟩ := List.mem_map.1 ha
    exact List.mem_map_of_mem (List.mem_append.2 ((h.2 x).1 hx)))
  rwa [List.length_map, List.length_map, List.length_append] at this
structure MgSt (l m out : List NoteV) (i k : Nat) : Prop where
  u : IsU (l.take i) (m.take k) out
  l_gt : ∀ x ∈ out, ∀ y ∈ l.drop i, ltN x y
  m_gt : ∀ x ∈ out, ∀ y ∈ m.drop k, ltN x y
theorem MgSt.start (l m : List NoteV) : MgSt l m [] 0 0 := ⟨⟨List.Pairwise.nil, fun x => by simp⟩, (fun x hx => by cases hx), (fun x hx => by cases hx)⟩
theorem drop_at {l : List NoteV} {i : Nat} {x : NoteV} (hx : l[i]? = some x) : l.drop i = x :: l.drop (i + 1) := by
  obtain ⟨h1, h2⟩ := List.getElem?_eq_some_iff.1 hx
  rw [List.drop_eq_getElem_cons h1, h2]
theorem drop_gt {l : List NoteV} (hs : l.Pairwise ltN) {i : Nat} {x : NoteV} (hx : l[i]? = some x) : ∀ y ∈ l.drop (i + 1), ltN x y := by
  have h := hs.sublist (List.drop_sublist i l)
  rw [drop_at hx, List.pairwise_cons] at h
  exact h.1
theorem drop_ge {l : List NoteV} (hs : l.Pairwise ltN) {i : Nat} {x z : NoteV} (hx : l[i]? = some x) (hz : ltN z x) : ∀ y ∈ l.drop i, ltN z y := by
  rw [drop_at hx]
  intro y hy
  rcases List.mem_cons.1 hy with rfl | hy
  · exact hz
  · exact ltN_trans hz (drop_gt hs hx y hy)
section
variable {l m out : List NoteV} {i k : Nat} {x y : NoteV}
theorem pair_snoc (h : out.Pairwise ltN) (hx : ∀ z ∈ out, ltN z x) : (out ++ [x]).Pairwise ltN := by
  rw [List.pairwise_append]
  exact ⟨h, List.pairwise_singleton _ _, fun z hz y hy => by rw [List.mem_singleton.1 hy]; exact hx z hz⟩
theorem MgSt.left (h : MgSt l m out i k) (hl : l.Pairwise ltN) (hm : m.Pairwise ltN) (hx : l[i]? = some x) (hk : m.length ≤ k ∨ ∃ y, m[k]? = some y ∧ ltN x y) : MgSt l m (out ++ [x]) (i + 1) k := by
  refine ⟨⟨pair_snoc h.u.1 (fun z hz => h.l_gt z hz x (by rw [drop_at hx]; exact List.mem_cons_self ..)), fun z => ?_⟩, fun z hz y hy => ?_, fun z hz y hy => ?_⟩
  · rw [List.mem_append, h.u.2 z, take_snoc hx, List.mem_append, List.mem_singleton]
    constructor
    · rintro ((h1 | h1) | h1)
      · exact .inl (.inl h1)
      · exact .inr h1
      · exact .inl (.inr h1)
    · rintro ((h1 | h1) | h1)
      · exact .inl (.inl h1)
      · exact .inr h1
      · exact .inl (.inr h1)
  · rcases List.mem_append.1 hz with hz | hz
    · exact h.l_gt z hz y (by rw [drop_at hx]; exact List.mem_cons_of_mem _ hy)
    · rw [List.mem_singleton.1 hz]; exact drop_gt hl hx y hy
  · rcases List.mem_append.1 hz with hz | hz
    · exact h.m_gt z hz y hy
    · rw [List.mem_singleton.1 hz]
      rcases hk with hk | ⟨y', hy', hlt⟩
      · rw [List.drop_eq_nil_of_le hk] at hy; cases hy
      · exact drop_ge hm hy' hlt y hy
theorem MgSt.flip (h : MgSt l m out i k) : MgSt m l out k i := ⟨h.u.comm, h.m_gt, h.l_gt⟩
theorem MgSt.right (h : MgSt l m out i k) (hl : l.Pairwise ltN) (hm : m.Pairwise ltN) (hx : m[k]? = some x) (hk : l.length ≤ i ∨ ∃ y, l[i]? = some y ∧ ltN x y) : MgSt l m (out ++ [x]) i (k + 1) :=
  (h.flip.left hm hl hx hk).flip
theorem MgSt.both (h : MgSt l m out i k) (hl : l.Pairwise ltN) (hm : m.Pairwise ltN) (hx : l[i]? = some x) (hy : m[k]? = some x) : MgSt l m (out ++ [x]) (i + 1) (k + 1) := by
  refine ⟨⟨pair_snoc h.u.1 (fun z hz => h.l_gt z hz x (by rw [drop_at hx]; exact List.mem_cons_self ..)), fun z => ?_⟩, fun z hz y' hy' => ?_, fun z hz y' hy' => ?_⟩
  · rw [List.mem_append, h.u.2 z, take_snoc hx, take_snoc hy, List.mem_append, List.mem_append, List.mem_singleton]
    constructor
    · rintro ((h1 | h1) | h1)
      · exact .inl (.inl h1)
      · exact .inr (.inl h1)
      · exact .inl (.inr h1)
    · rintro ((h1 | h1) | (h1 | h1))
      · exact .inl (.inl h1)
      · exact .inr h1
      · exact .inl (.inr h1)
      · exact .inr h1
  · rcases List.mem_append.1 hz with hz | hz
    · exact h.l_gt z hz y' (by rw [drop_at hx]; exact List.mem_cons_of_mem _ hy')
    · rw [List.mem_singleton.1 hz]; exact drop_gt hl hx y' hy'
  · rcases List.mem_append.1 hz with hz | hz
    · exact h.m_gt z hz y' (by rw [drop_at hy]; exact List.mem_cons_of_mem _ hy')
    · rw [List.mem_singleton.1 hz]; exact drop_gt hm hy y' hy'
theorem MgSt.all (h : MgSt l m out i k) (h1 : l.length ≤ i) (h2 : m.length ≤ k) : IsU l m out := by
  have := h.u
  rwa [List.take_of_length_le h1, List.take_of_length_le h2] at this
theorem MgSt.len (h : MgSt l m out i k) : out.length ≤ l.length + m.length := by
  have := h.u.len
  rw [List.length_take, List.length_take] at this
  omega
end
theorem IsU.set {f : FrV} {l m u : List NoteV} (h : IsU l m u) (hl : (checkSetP f l).1 = 0) (hm : (checkSetP f m).1 = 0) (h4 : u.length ≤ 400) : (checkSetP f u).1 = 0 := by
  refine set_mk (set_ok hl).1 h4 (fun x hx => ?_) h.1
  rcases (h.2 x).1 hx with h1 | h1
  · exact (set_ok hl).2.2.1 x h1
  · exact (set_ok hm).2.2.1 x h1
def bothF (f g : Nm → Option LN) : Nm → Option LN := fun k => match g k with | some y => some y | none => f k
theorem union_of {xs ys : List LN} {ks : List Nm} (hd : ((xs.map LN.n).map nmOf).Nodup) (hd2 : ((ys.map LN.n).map nmOf).Nodup) (hn : NoFork (xs.map LN.n) (ys.map LN.n)) (ha : AllIn (bothF (setF xs) (setF ys)) ks) (hin : ∀ k ∈ ks, (bothF (setF xs) (setF ys) k).isSome = true)
    (hs : ks.Pairwise (fun x y => nmLt x y = true)) : IsU (xs.map LN.n) (ys.map LN.n) ((ks.filterMap (bothF (setF xs) (setF ys))).map LN.n) := by
  have nmk : ∀ k x, bothF (setF xs) (setF ys) k = some x → nmOf x.n = k := fun k x h => by
    unfold bothF at h
    split at h
    · rename_i y hy
      cases h; exact (setF_some hy).2
    · exact (setF_some h).2
  refine ⟨?_, fun x => ?_⟩
  · rw [List.pairwise_map]
    clear ha hin
    induction ks with
    | nil => exact List.Pairwise.nil
    | cons k ks ih =>
      rw [List.pairwise_cons] at hs
      cases h : bothF (setF xs) (setF ys) k with
      | none => rw [List.filterMap_cons_none h]; exact ih hs.2
      | some x =>
        rw [List.filterMap_cons_some h]
        refine List.pairwise_cons.2 ⟨fun y hy => ?_, ih hs.2⟩
        obtain ⟨k', hk', h'⟩ := List.mem_filterMap.1 hy
        unfold ltN
        rw [nmk k x h, nmk k' y h']
        exact hs.1 k' hk'
  · constructor
    · intro hx
      obtain ⟨y, hy, rfl⟩ := List.mem_map.1 hx
      obtain ⟨k, hk, h⟩ := List.mem_filterMap.1 hy
      unfold bothF at h
      split at h
      · rename_i z hz
        cases h; exact .inr (List.mem_map_of_mem (setF_some hz).1)
      · exact .inl (List.mem_map_of_mem (setF_some h).1)
    · rintro (hx | hx)
      · obtain ⟨y, hy, rfl⟩ := List.mem_map.1 hx
        have h1 := setF_mem hd hy
        cases h2 : setF ys y.nm with
        | none =>
          have h3 : bothF (setF xs) (setF ys) y.nm = some y := by unfold bothF; rw [h2]; exact h1
          exact List.mem_map_of_mem (List.mem_filterMap.2 ⟨y.nm, ha _ (by rw [h3]; rfl), h3⟩)
        | some z =>
          have h3 : bothF (setF xs) (setF ys) y.nm = some z := by unfold bothF; rw [h2]
          have h4 : y.n = z.n := hn y.n (List.mem_map_of_mem hy) z.n (List.mem_map_of_mem (setF_some h2).1) ((setF_some h2).2).symm
          rw [h4]
          exact List.mem_map_of_mem (List.mem_filterMap.2 ⟨y.nm, ha _ (by rw [h3]; rfl), h3⟩)
      · obtain ⟨y, hy, rfl⟩ := List.mem_map.1 hx
        have h3 : bothF (setF xs) (setF ys) y.nm = some y := by unfold bothF; rw [setF_mem hd2 hy]
        exact List.mem_map_of_mem (List.mem_filterMap.2 ⟨y.nm, ha _ (by rw [h3]; rfl), h3⟩)
theorem names_of {xs : List LN} {ks : List Nm} (hp : (xs.map LN.n).Pairwise ltN) (ha : AllIn (setF xs) ks) (hin : ∀ k ∈ ks, (setF xs k).isSome = true) (hs : ks.Pairwise (fun x y => nmLt x y = true)) : ks = (xs.map LN.n).map nmOf := by
  have hd := set_nodup hp
  have hp2 : ((xs.map LN.n).map nmOf).Pairwise (fun x y => nmLt x y = true) := by rw [List.pairwise_map]; exact hp
  have n1 : ks.Nodup := hs.imp (fun {x y} h e => by rw [e, nmLt_iff] at h; omega)
  have asym : ∀ {x y : Nm}, nmLt x y = true → nmLt y x = false := fun {x y} h => by
    cases h2 : nmLt y x with
    | false => rfl
    | true => rw [nmLt_iff] at h h2; omega
  refine sorted_unique (lt := nmLt) (fun x _ y _ h1 h2 => nm_total h1 h2) ((List.perm_ext_iff_of_nodup n1 hd).2 fun a => ?_) (hs.imp asym) (hp2.imp asym)
  constructor
  · intro h
    obtain ⟨x, hx⟩ := Option.isSome_iff_exists.1 (hin a h)
    obtain ⟨h1, h2⟩ := setF_some hx
    rw [List.map_map]
    exact List.mem_map.2 ⟨x, h1, h2⟩
  · intro h
    rw [List.map_map] at h
    obtain ⟨x, hx, rfl⟩ := List.mem_map.1 h
    exact ha _ (by rw [show (nmOf ∘ LN.n) x = x.nm from rfl, setF_mem hd hx]; rfl)
end Go.Proofs.YtpjiakgfegnmcaaGreat
namespace Go.Proofs.YtpjiakgfegnmcaaGreat
set_option linter.unusedSimpArgs false
open Go.RowKit
attribute [local go_sem] Oper.semAt_some

section
variable {α : Type} {enc : α → Value} {f : Nm → Option α} {F : Fence} {m : Nat} (w : World) {ops : Array Oper} {rest : List Oper} {o : Oper} {a : Act} {Q : Exit → Act → World → Prop}
theorem wpListIn_range_nm (hg : o.guard = none) (x : Operand) (t e : TypeId) (hop : o.op = Op.range t x) (ht : Tryz.prog.underlying t = some (.map 29 e)) (b n : Nat) (hm : a.eval x = .map (some b)) (hmap : MapF enc w b n f)
    (hK : ∀ w' cnt, RangeF enc w' b w.heap.size n f [] cnt → w.grownBy w' none → w'.heap.size = w.heap.size + 1 → wpListIn F m Tryz.prog ops Q rest (a.put o.dst (.pointer (some ⟨w.heap.size, 0, none⟩))) w') : wpListIn F m Tryz.prog ops Q (o :: rest) a w := by
  obtain ⟨D, h1, h2⟩ := hmap
  exact wpListIn_range_own w hg x t hop 29 e nm_keyed ht heldR b n D hm h1 (fun w' h3 h4 h5 => hK w' _ ⟨D, _, h3, h2, fun k hk => by rw [h2.has k hk]; simp, List.nodup_nil, by have := h1.size_le; simpa using this⟩ h4 h5)
theorem wpListIn_next_nm (hg : o.guard = none) (it : Operand) (hop : o.op = Op.next it false) (b r n cnt : Nat) (ks : List Nm) (hit : a.eval it = .pointer (some ⟨r, 0, none⟩)) (h : RangeF enc w b r n f ks cnt)
    (hDone : AllIn f ks → wpListIn F m Tryz.prog ops Q rest (a.put o.dst (.tuple #[.bool false])) w)
    (hMore : ∀ kh km y w' cnt', Hid (NextF enc w b r n cnt f ks kh km y w' cnt') →
      (Instr.entry (.pointer (some ⟨r, 0, none⟩))).run Tryz.prog w' = .ok (.tuple #[.agg #[.int .i64 kh, .int .i64 km], enc y]) w' → wpListIn F m Tryz.prog ops Q rest (a.put o.dst (.tuple #[.bool true, .agg #[.int .i64 kh, .int .i64 km], enc y])) w') : wpListIn F m Tryz.prog ops Q (o :: rest) a w := by
  obtain ⟨D, left, h1, h2, h3, h4, hcn⟩ := h
  refine wpListIn_next_ranges (α := Nm) (β := Value) w hg it hop 29 nm_keyed heldR nmV id (fun key kl hk => by obtain ⟨a, rfl, _⟩ := keyOf_inv hk; exact ⟨a, rfl⟩) (fun v _ _ => ⟨v, rfl⟩) b r n D left cnt hit h1 (fun _ hl => hDone (fun k hk => ?_)) (fun k c kl y w' cnt' hkey hlk hv hat hrg hlt hgr hsz hen => ?_)
  · have := hl (nmL k)
    rw [h3 k (h2.ok k hk), hk] at this
    simpa using this
  · obtain ⟨k', e1, hk', rfl⟩ := keyOf_inv hkey
    cases nmV_inj e1
    rw [h3 k hk'] at hlk
    simp only [Bool.and_eq_true, Bool.not_eq_true', decide_eq_false_iff_not] at hlk
    obtain ⟨x, hx⟩ := Option.isSome_iff_exists.1 hlk.1
    have hy := hat (.lit (.bool true))
    rw [h2.val k x hx] at hy
    simp only [heldR, Option.some.injEq] at hv
    rw [← hv] at hy
    simp only [DataW.held.injEq, id_eq] at hy
    subst hy
    refine hMore k.1 k.2 x w' cnt' (Lib.hid ⟨hx, hlk.2, hk', ⟨D, _, hrg, h2, fun a ha => ?_, ?_, by rw [List.length_append, List.length_singleton]; omega⟩, hlt, hgr, hsz⟩) hen
    · rw [h3 a ha]
      by_cases e : a = k
      · subst e
        have : (nmL a).sameKey (nmL a) = true := WideAt.sameKey_self (nmL_key _)
        simp [this]
      · have : (nmL a).sameKey (nmL k) = false := Maps.sameKey_ne (fun he => e (nmL_inj ha hk' he))
        simp [this, e]
    · exact List.nodup_append.2 ⟨h4, by simp, fun a ha b hb e => hlk.2 (by rw [List.mem_singleton] at hb; rw [← show b = k from hb, ← e]; exact ha)⟩
end
theorem LoopAt.turn {rec : LoopState → Option Code → Loop} {D : Nat} {st : LoopState} {pe : Option Code} {W W' : World} {r : Nat} {o : Obj} (h : LoopAt rec D st pe W) (hr : W.heap[r]? = some o) (ho1 : ∀ l, o ≠ .loop l) (ho2 : ∀ l, o ≠ .deferred l) (hg : W.grownBy W' (some r)) : LoopAt rec D st pe W' :=
  ⟨grown_blk hg h.1 (fun e => by have h1 := h.1; rw [Option.some.inj e, hr] at h1; exact ho1 _ (Option.some.inj h1)), grown_blk hg h.2 (fun e => by have h1 := h.2; rw [Option.some.inj e, hr] at h1; exact ho2 _ (Option.some.inj h1))⟩
structure NpAt (Wb : World) (p : Nat) (ks : List Nm) (W : World) : Prop where
  blk : ∃ a c, W.heap[p]? = some (.cells #[.slice a ks.length c] 25 (0, 0)) ∧ W.ownsRow Wb.heap.size 29 2 (.slice a ks.length c) ks.length (nmCells ks)
  same : Same (fun k => k = p) Wb W
theorem NpAt.below {Wb W W' : World} {p : Nat} {ks : List Nm} (h : NpAt Wb p ks W) (hb : Below W.heap.size W W') : NpAt Wb p ks W' := by
  obtain ⟨⟨a, c, h1, h2⟩, h3⟩ := h
  exact ⟨⟨a, c, below_blk hb h1, own_below h2 hb⟩, h3.trans (Same.of_below hb)⟩
theorem NpAt.turn {Wb W W' : World} {p r : Nat} {ks : List Nm} {o : Obj} (h : NpAt Wb p ks W) (hr : W.heap[r]? = some o) (ho : ∀ c t fr, o ≠ .cells c t fr) (hg : W.grownBy W' (some r)) (hge : Wb.heap.size ≤ r) : NpAt Wb p ks W' := by
  obtain ⟨⟨a, c, h1, h2⟩, h3⟩ := h
  exact ⟨⟨a, c, grown_blk hg h1 (fun e => by rw [Option.some.inj e, hr] at h1; exact ho _ _ _ (Option.some.inj h1)), h2.kept hg (.inr (own_no h2 hr (fun cur => ho _ _ _)).symm)⟩, h3.reg (Same.of_grown hg (fun k e => by cases e; exact .inr hge))⟩
theorem NpAt.putObj {Wb W : World} {p : Nat} {ks : List Nm} (h : NpAt Wb p ks W) (o : Loop) (hl : ∃ r, W.heap[Wb.heap.size + 1]? = some (.loop r)) : NpAt Wb p ks (W.putObj (Wb.heap.size + 1) (.loop o)) := by
  obtain ⟨r, hl⟩ := hl
  exact h.turn hl (fun _ _ _ => by simp) (grownBy_putObj' W _ _) (by omega)
theorem NpAt.add {Wb W V : World} {p : Nat} {ks : List Nm} {k : Nm} {a a' : Option Addr} {c c' : Nat} (hs : Same (fun k => k = p) Wb W) (hp : W.heap[p]? = some (.cells #[.slice a ks.length c] 25 (0, 0))) (how : W.ownsRow Wb.heap.size 29 2 (.slice a ks.length c) ks.length (nmCells ks))
    (ho : V.ownsRow Wb.heap.size 29 2 (.slice a' (ks.length + 1) c') (ks.length + 1) (nmCells ks ++ [.int .i64 k.1, .int .i64 k.2])) (hg : W.grownBy V (Value.ownBlock (.slice a ks.length c))) :
    NpAt Wb p (ks ++ [k]) (V.setCell ⟨p, 0, none⟩ (.slice a' (ks.length + 1) c')) ∧ V.heap[p]? = some (.cells #[.slice a ks.length c] 25 (0, 0)) := by
  have hb2 := grown_blk hg hp (own_no how hp (by intro cur; simp))
  have G := setCell_grown V p 0 (.slice a' (ks.length + 1) c')
  refine ⟨⟨⟨a', c', ?_, ?_⟩, hs.reg ((Same.of_grown hg (fun k e => .inr (how.lt k e).1)).trans (Same.of_grown G (fun k e => by cases e; exact .inl rfl)))⟩, hb2⟩
  · rw [setCell_at hb2 0 (.slice a' (ks.length + 1) c'), List.length_append]; rfl
  · rw [nmCells_snoc, List.length_append]
    exact ho.kept G (.inr (own_no ho hb2 (by intro cur; simp)).symm)
theorem RangeF.turn {W W' : World} {b r n cnt : Nat} {f : Nm → Option LN} {ks : List Nm} {row : Option Nat} (h : RangeF LN.val W b r n f ks cnt) (hg : W.grownBy W' row) (hrow : ∀ q, row = some q → ∃ o, W.heap[q]? = some o ∧ (∀ e c, o ≠ .map e c) ∧ ∀ a1 a2 a3 a4, o ≠ .mapIter a1 a2 a3 a4) : RangeF LN.val W' b r n f ks cnt := by
  obtain ⟨es, clock, hsb⟩ := h.map.blk
  obtain ⟨bb, since, seen, c0, hr⟩ := h.blk
  refine h.of_blocks ((grown_blk hg hsb (fun e => ?_)).trans hsb.symm) ((grown_blk hg hr (fun e => ?_)).trans hr.symm)
  · obtain ⟨o, h1, h2, h3⟩ := hrow b e.symm
    rw [hsb] at h1
    exact h2 _ _ (Option.some.inj h1).symm
  · obtain ⟨o, h1, h2, h3⟩ := hrow r e.symm
    rw [hr] at h1
    exact h3 _ _ _ _ (Option.some.inj h1).symm
abbrev KSt := List Nm × Nm × Nat × Nat
def KAt (Wb : World) (p b n : Nat) (f : Nm → Option LN) (ks js : List Nm) (r cnt : Nat) (W : World) : Prop := NpAt Wb p js W ∧ RangeF LN.val W b r n f ks cnt ∧ Wb.heap.size ≤ r ∧ ∀ k ∈ ks, (f k).isSome = true

set_option maxHeartbeats 8000000 in
set_option maxRecDepth 100000 in
theorem keysIter (m : Nat) (Wb : World) (p pB b n : Nat) (f : Nm → Option LN) (hpB : Wb.heap[pB]? = some (.cells #[.map (some b)] 89 (0, 0))) (hne : pB ≠ p) (hmap : MapF LN.val Wb b n f) (hbp : b ≠ p)
    (rec : LoopState → Option Code → Loop) (W1 : World) (h0 : NpAt Wb p [] W1) (hl : LoopAt rec Wb.heap.size .ready none W1)
    (hY : ∀ (s : KSt) W, KAt Wb p b n f (s.1 ++ [s.2.1]) s.1 s.2.2.1 s.2.2.2 W → LoopAt rec Wb.heap.size .ready none W → YieldAt Fence.wide (m - 1) Tryz.prog (Wb.heap.size + 1) #[.agg #[.int .i64 s.2.1.1, .int .i64 s.2.1.2]] W fun e W' =>
        e = .returned (.bool true) ∧ KAt Wb p b n f (s.1 ++ [s.2.1]) (s.1 ++ [s.2.1]) s.2.2.1 s.2.2.2 W' ∧ LoopAt rec Wb.heap.size .ready none W') :
    CallsIn Fence.wide m Tryz.prog 140 #[.func (.yield (Wb.heap.size + 1)) #[] #[], .pointer (some ⟨pB, 0, none⟩)] W1 fun e W' =>
        (∃ v, e = .returned v) ∧ (∃ ks, NpAt Wb p ks W' ∧ AllIn f ks ∧ ks.Nodup ∧ (∀ k ∈ ks, (f k).isSome = true) ∧ ks.length ≤ n) ∧ LoopAt rec Wb.heap.size .ready none W' := by
  have HY := Lib.hid hY; clear hY
  have M1 := Lib.hid (hmap.of_block (h0.same.block b hmap.lt hbp))
  have hlc := cell_of ((h0.same.block pB (blk_lt hpB) hne).trans hpB) 0 (.map (some b)) rfl
  have R0 := Lib.hid h0; clear h0
  have L0 := Lib.hid hl; clear hl
  clear hpB hne hmap hbp
  refine callsIn_of_wp Tryz.func140 rfl trivial ?_
  simp only [Tryz.ntmps140, List.size_toArray, List.length_cons, List.length_nil, Nat.reduceAdd, Nat.reduceSub, Array.replicate_succ, Array.replicate_zero, List.push_toArray, List.append_toArray, List.nil_append, List.cons_append]
  gi_wp2_with (first
    | (gi_at_range; refine wpListIn_range_nm _ rfl _ 89 51 rfl Tryz.underlying89 b n rfl M1.out ?_; intro w0 cnt0 hrg0 hg0 hs0)
    | gi_in)
  go_frame
  obtain ⟨r, hr⟩ : ∃ r, Hid (W1.heap.size = r) := ⟨_, Lib.hid rfl⟩
  have b0 : Below W1.heap.size W1 w0 := (Below.refl _ _).grown hg0 (Nat.le_refl _) (fun q hq => by cases hq)
  have S0 : Hid (KAt Wb p b n f [] [] r cnt0 w0) := Lib.hid ⟨R0.out.below b0, by rw [← hr.out]; exact hrg0, by rw [← hr.out]; exact R0.out.same.size, fun k hk => by cases hk⟩
  have LL0 := Lib.hid (L0.out.of_below b0)
  rw [hr.out]
  clear hrg0 hg0 hs0 b0 hlc M1 R0 L0
  gi_loopw [3] (fun _ wr => ∃ (ks : List Nm) (cnt : Nat), Hid (KAt Wb p b n f ks ks r cnt wr) ∧ Hid (LoopAt rec Wb.heap.size .ready none wr)) (fun _ wr => wr.rangeLeft b r)
  case atStart => exact ⟨[], cnt0, S0, LL0⟩
  case round =>
    obtain ⟨ks, cnt, HS, HL⟩ := hrel
    gi_wp2_with (first
      | (gi_at_next; refine wpListIn_next_nm _ rfl _ rfl b r n cnt ks rfl HS.out.2.1 ?_ ?_)
      | gi_in)
    · intro hall
      have HALL := Lib.hid hall; clear hall
      gi_wp2
      go_end0
      exact ⟨⟨_, rfl⟩, ⟨ks, HS.out.1, HALL.out, HS.out.2.1.nodup, HS.out.2.2.2, by have := HS.out.2.1.count; omega⟩, HL.out⟩
    · intro kh km y w2 cnt2 HN hen
      obtain ⟨bb, since, seen, c0, hrb⟩ := HS.out.2.1.blk
      have np2 := HS.out.1.turn hrb (fun _ _ _ => by simp) HN.out.grown HS.out.2.2.1
      have bn : Below w2.heap.size w2 (w2.alloc (.cells #[.int .i64 kh, .int .i64 km] 29)) := (Below.refl _ _).alloc (Nat.le_refl _) _
      have L3 := Lib.hid ((HL.out.turn hrb (fun _ => by simp) (fun _ => by simp) HN.out.grown).of_below bn)
      have K3 : Hid (KAt Wb p b n f (ks ++ [(kh, km)]) ks r cnt2 (w2.alloc (.cells #[.int .i64 kh, .int .i64 km] 29))) := Lib.hid ⟨np2.below bn, HN.out.range.below bn, HS.out.2.2.1, fun k hk => by
        rcases List.mem_append.1 hk with hk | hk
        · exact HS.out.2.2.2 k hk
        · rw [List.mem_singleton.1 hk, HN.out.at_]; rfl⟩
      have HM := Lib.hid (show wr.rangeLeft b r = cnt from HS.out.2.1.left_eq)
      have HLT := Lib.hid HN.out.lt
      clear np2 bn HS HL HN hrb
      unfold LN.val at hen
      obtain ⟨fn, tmps, assign, body, hy, hRo⟩ := HY.out (ks, (kh, km), r, cnt2) _ K3.out L3.out
      dsimp only at hy
      gi_wp2
      refine ⟨fun h => by simp [Fence.wide] at h, ?_⟩
      refine hRo.mono ?_
      rintro e W6 ⟨rfl, hK6, hL6⟩
      have HK6 := Lib.hid hK6
      have HL6 := Lib.hid hL6
      clear hRo hy hK6 hL6 hen
      gi_wp2
      go_roundw
      case rel => exact ⟨_, cnt2, HK6, HL6⟩
      case measure => rw [HK6.out.2.1.left_eq, HM.out]; exact HLT.out

set_option maxHeartbeats 16000000 in
set_option maxRecDepth 100000 in
theorem appSeqNm_any (pB b n : Nat) (f : Nm → Option LN) (w : World) (hpB : w.heap[pB]? = some (.cells #[.map (some b)] 89 (0, 0))) (hmap : MapF LN.val w b n f) (hn : n ≤ 1000) :
    Calls Tryz.prog 154 #[.slice none 0 0, .func (.func 140) #[] #[.pointer (some ⟨pB, 0, none⟩)]] w fun e w' =>
      (∃ a' c' ks, e = .returned (.slice a' ks.length c') ∧ w'.ownsRow w.heap.size 29 2 (.slice a' ks.length c') ks.length (nmCells ks) ∧ AllIn f ks ∧ ks.Nodup ∧ (∀ k ∈ ks, (f k).isSome = true) ∧ ks.length ≤ n) ∧ Below w.heap.size w w' := by
  have HLEN := Lib.hid hn; clear hn
  have B0 := Lib.hid ((Below.refl w.heap.size w).alloc (Nat.le_refl _) (.cells #[.slice none 0 0] 25))
  have P0 := Lib.hid (heap_last w (.cells #[.slice none 0 0] 25))
  have HB := Lib.hid (below_blk B0.out hpB)
  have HM := Lib.hid (hmap.below B0.out)
  have NE : Hid (pB ≠ w.heap.size ∧ b ≠ w.heap.size) := Lib.hid (by have := blk_lt hpB; have := hmap.lt; omega)
  clear hpB hmap
  refine (callsIn_wide (n := 4)).1 ?_
  refine callsIn_of_wp_marks Tryz.func154 rfl trivial ?_
  simp only [Tryz.ntmps154, List.size_toArray, List.length_cons, List.length_nil, Nat.reduceAdd, Nat.reduceSub, Array.replicate_succ, Array.replicate_zero, List.push_toArray, List.append_toArray, List.nil_append, List.cons_append]
  refine wpIn_wide.2 ?_
  go_upto_region 1 with fail
  obtain ⟨p, hp⟩ : ∃ p, Hid (w.heap.size = p) := ⟨_, Lib.hid rfl⟩
  rw [hp.out] at P0 NE ⊢
  generalize w.alloc (.cells #[.slice none 0 0] 25) = w3 at *
  go_wp2_with fail
  refine (wpIn_wide (n := 4)).1 ?_
  refine wp_range_own2 (n := 3) (σ := KSt) (w := w3) (gf := 140) (lb := #[.pointer (some ⟨pB, 0, none⟩)]) rfl (enters_of Tryz.func140 (by kernel_rfl) rfl)
    (fun s => #[.agg #[.int .i64 s.2.1.1, .int .i64 s.2.1.2]]) (fun _ => rfl) (fun s W => KAt w3 p b n f (s.1 ++ [s.2.1]) s.1 s.2.2.1 s.2.2.2 W) (fun s W => KAt w3 p b n f (s.1 ++ [s.2.1]) (s.1 ++ [s.2.1]) s.2.2.1 s.2.2.2 W)
    (fun s a₁ W => ∃ pX, a₁ = { tmps := #[.slice none 0 0, .func (.func 140) #[] #[.pointer (some ⟨pB, 0, none⟩)], .pointer (some ⟨p, 0, none⟩), undef, .slice none 0 0, .pointer (some ⟨pX, 0, none⟩), .func (.func 140) #[] #[.pointer (some ⟨pB, 0, none⟩)], .agg #[.int .i64 s.2.1.1, .int .i64 s.2.1.2], undef, undef, undef, undef, undef], defers := [] } ∧ W.heap[pX]? = some (.cells #[.int .i64 s.2.1.1, .int .i64 s.2.1.2] 29 (0, 0)) ∧ KAt w3 p b n f (s.1 ++ [s.2.1]) s.1 s.2.2.1 s.2.2.2 W)
    (fun W => ∃ ks, NpAt w3 p ks W ∧ AllIn f ks ∧ ks.Nodup ∧ (∀ k ∈ ks, (f k).isSome = true) ∧ ks.length ≤ n) ?hA' ?hB ?hD ?assign ?body ?iter ?done
  case hA' =>
    rintro s a₁ W o ⟨pX, rfl, h1, h2, h3, h4⟩ ⟨r, hr⟩
    refine ⟨pX, rfl, (World.putObj_heap_other (fun e => ?_)).trans h1, h2.putObj o ⟨r, hr⟩, h3.turn (grownBy_putObj' W _ _) (fun q e => by cases e; exact ⟨_, hr, by simp, by simp⟩), h4⟩
    rw [e, hr] at h1
    simp at h1
  case hB =>
    rintro s W o ⟨h2, h3, h4⟩ ⟨r, hr⟩
    exact ⟨h2.putObj o ⟨r, hr⟩, h3.turn (grownBy_putObj' W _ _) (fun q e => by cases e; exact ⟨_, hr, by simp, by simp⟩), h4⟩
  case hD =>
    rintro W o ⟨ks, h, h2⟩ hl
    exact ⟨ks, h.putObj o hl, h2⟩
  case assign =>
    rintro ⟨ks, k, r, cnt⟩ W h1
    have H1 := Lib.hid h1
    clear h1
    dsimp only
    have hb5 : Below W.heap.size W (W.alloc (.cells #[.int .i64 k.1, .int .i64 k.2] 29)) := (Below.refl W.heap.size W).alloc (Nat.le_refl _) _
    have HG := Lib.hid (show KeepsFrom w3.heap.size W (W.alloc (.cells #[.int .i64 k.1, .int .i64 k.2] 29)) ∧ (W.alloc (.cells #[.int .i64 k.1, .int .i64 k.2] 29)).heap[W.heap.size]? = some (.cells #[.int .i64 k.1, .int .i64 k.2] 29 (0, 0)) ∧ KAt w3 p b n f (ks ++ [k]) ks r cnt (W.alloc (.cells #[.int .i64 k.1, .int .i64 k.2] 29)) from
      ⟨(keeps_below hb5).from _, heap_last W _, H1.out.1.below hb5, H1.out.2.1.below hb5, H1.out.2.2⟩)
    clear hb5 H1
    have hf : ∀ t : Array Value, (#[7].zip #[Value.agg #[.int .i64 k.1, .int .i64 k.2]]).foldl (fun t (p, v) => t.setIfInBounds p v) t = t.setIfInBounds 7 (.agg #[.int .i64 k.1, .int .i64 k.2]) := fun t => by simp
    rw [hf]
    simp only [List.setIfInBounds_toArray, List.set_cons_succ, List.set_cons_zero]
    clear hf
    refine wpIn_region_plain (wide_round _) (not_lets (fun a w h => h)) ?hnd ?_
    case hnd => rfl
    go_wp2_with fail
    exact ⟨HG.out.1, W.heap.size, rfl, HG.out.2⟩
  case body =>
    rintro ⟨ks, k, r, cnt⟩ a₁ W ⟨pX, rfl, hX, h1⟩
    have HX := Lib.hid hX
    have H1 := Lib.hid (show KAt w3 p b n f (ks ++ [k]) ks r cnt W from h1)
    clear hX h1
    dsimp only
    have HKL : Hid (ks.length ≤ 1000) := Lib.hid (by have h1 := H1.out.2.1.count; have := HLEN.out; rw [List.length_append] at h1; omega)
    obtain ⟨⟨ea, ec, hblk, how⟩, hsm⟩ := H1.out.1
    have bn : Below W.heap.size W (W.alloc (.cells #[.int .i64 k.1, .int .i64 k.2] 29)) := (Below.refl _ _).alloc (Nat.le_refl _) _
    obtain ⟨a', c', v9, hrun, ho9, hg9⟩ := run_app_nm (W.alloc (.cells #[.int .i64 k.1, .int .i64 k.2] 29)) w3.heap.size ea ks.length ec _ (own_below how bn) _ 1 1 _ (lit_rd W _ _) (fun u hu => by simp only [List.mem_cons, List.not_mem_nil, or_false] at hu; rcases hu with rfl | rfl <;> rfl) (by have := HKL.out; omega) (Nat.le_trans hsm.size bn.size)
    have hadd := NpAt.add (hsm.trans (Same.of_below bn)) (below_blk bn hblk) (own_below how bn) ho9 hg9
    have HK : Hid (KeepsFrom w3.heap.size W (v9.setCell ⟨p, 0, none⟩ (.slice a' (ks.length + 1) c'))) := Lib.hid (by
      refine KeepsOthers.from ⟨?_, fun k o hk ho => ?_⟩ _
      · exact Nat.le_trans bn.size (Nat.le_trans hg9.size (by simp [World.setCell]))
      · have hk1 := below_blk bn hk
        have hk2 := grown_blk hg9 hk1 (fun e => by have := own_cells (own_below how bn) e.symm hk1; rw [this] at ho; cases ho)
        exact grown_blk (setCell_grown v9 p 0 _) hk2 (fun e => by rw [Option.some.inj e, hadd.2] at hk2; cases hk2; cases ho))
    have RA : RangeF LN.val (v9.setCell ⟨p, 0, none⟩ (.slice a' (ks.length + 1) c')) b r n f (ks ++ [k]) cnt := by
      have h2 := H1.out.2.1.below bn
      have h3 : RangeF LN.val v9 b r n f (ks ++ [k]) cnt := h2.turn hg9 (fun q e => by
        rcases (own_below how bn).2 with ⟨h4, _⟩ | ⟨g, cap, cur, h4, _, h5, _⟩
        · rw [h4] at e; cases e
        · rw [h4] at e
          cases e
          exact ⟨_, h5, by simp, by simp⟩)
      exact h3.turn (setCell_grown v9 p 0 _) (fun q e => by cases e; exact ⟨_, hadd.2, by simp, by simp⟩)
    have HA := Lib.hid (show KAt w3 p b n f (ks ++ [k]) (ks ++ [k]) r cnt (v9.setCell ⟨p, 0, none⟩ (.slice a' (ks.length + 1) c')) from ⟨hadd.1, RA, H1.out.2.2⟩)
    have hcl := cell_of hblk 0 (.slice ea ks.length ec) rfl
    have hx0 := cell_of HX.out 0 (.int .i64 k.1) rfl
    have hx1 := cell_of HX.out 1 (.int .i64 k.2) rfl
    have hcl3 := cell_of hadd.2 0 (.slice ea ks.length ec) rfl
    have hfz := frozen_of hadd.2 0
    clear hadd how hsm bn ho9 hg9 hblk RA
    apply wpIn_block
    refine wpIn_region_plain (wide_round _) (not_lets (fun a w h => h)) ?hnd ?_
    case hnd => rfl
    go_wp2_with (first
      | (refine wpList_append_eq rfl _ _ _ rfl _ _ _ rfl rfl hrun ?_)
      | fail)
    exact ⟨HK.out, HA.out⟩
  case iter =>
    intro rec hlr hY
    have hbb := ((Below.refl w3.heap.size w3).alloc (Nat.le_refl _) (.deferred (some []))).alloc (by simp) (.loop (rec .ready none))
    exact keysIter 3 w3 p pB b n f HB.out NE.out.1 HM.out NE.out.2 rec _ ⟨⟨none, 0, below_blk hbb P0.out, World.ownsRow_nil _ _ _ _⟩, Same.of_below hbb⟩ hlr hY
  case done =>
    rintro W ⟨ks, ⟨⟨a', c', hblk, how⟩, hsm⟩, hks⟩ hD0
    dsimp only
    have HD0 := Lib.hid hD0
    have HOW := Lib.hid how
    have HSM := Lib.hid hsm
    have HKS := Lib.hid hks
    have hcl := cell_of hblk 0 (.slice a' ks.length c') rfl
    clear hD0 how hsm hblk hks
    go_wp2_with fail
    have hb : Below w.heap.size w W := HSM.out.below B0.out B0.out.size (fun k hk => by have := hp.out; omega)
    have hbz : Below w.heap.size w (W.putObj w3.heap.size (.deferred none)) := hb.grown (grownBy_putObj' W _ _) hb.size (fun k e => by cases e; exact B0.out.size)
    have hoz := own_mono (ownsRow_putObj HOW.out (.deferred none) HD0.out rfl) B0.out.size
    refine ⟨by simp, .inl ⟨_, _, rfl, run_takeDeferred HD0.out, ?_⟩⟩
    exact ⟨.slice a' ks.length c', by kernel_rfl, ⟨a', c', ks, rfl, hoz, HKS.out⟩, hbz⟩

def NamesRet (f : Nm → Option LN) (n : Nat) (w : World) (e : Ending) (W : World) : Prop :=
  ∃ (a : Option Addr) (c : Nat) (ks : List Nm), e = .returned (.slice a ks.length c) ∧ W.ownsRow w.heap.size 29 2 (.slice a ks.length c) ks.length (nmCells ks) ∧ AllIn f ks ∧ ks.Pairwise (fun x y => nmLt x y = true) ∧ (∀ k ∈ ks, (f k).isSome = true) ∧ ks.length ≤ n
theorem nm_strict {zs : List Nm} (hn : zs.Nodup) (hs : zs.Pairwise (fun x y => nmLt y x = false)) : zs.Pairwise (fun x y => nmLt x y = true) := by
  refine (hs.and hn).imp (fun {x y} h => ?_)
  cases h2 : nmLt x y with
  | true => rfl
  | false => exact absurd (nm_total h2 h.1) h.2
set_option maxHeartbeats 8000000 in
set_option maxRecDepth 100000 in
theorem collectNm_any (pB b n : Nat) (f : Nm → Option LN) (w : World) (hpB : w.heap[pB]? = some (.cells #[.map (some b)] 89 (0, 0))) (hmap : MapF LN.val w b n f) (hn : n ≤ 1000) :
    Calls Tryz.prog 139 #[.func (.func 140) #[] #[.pointer (some ⟨pB, 0, none⟩)]] w fun e w' =>
      (∃ a' c' ks, e = .returned (.slice a' ks.length c') ∧ w'.ownsRow w.heap.size 29 2 (.slice a' ks.length c') ks.length (nmCells ks) ∧ AllIn f ks ∧ ks.Nodup ∧ (∀ k ∈ ks, (f k).isSome = true) ∧ ks.length ≤ n) ∧ Below w.heap.size w w' := by
  have HA := Lib.hid (appSeqNm_any pB b n f w hpB hmap hn)
  clear hpB hmap hn
  go_enter Tryz.func139, Tryz.ntmps139
  go_wp2_with fail
  refine HA.out.mono ?_
  rintro e w1 ⟨⟨a', c', ks, rfl, h1⟩, h2⟩
  have H := Lib.hid (And.intro h1 h2)
  clear h1 h2
  go_wp2_with fail
  go_ret
  exact ⟨⟨a', c', ks, rfl, H.out.1⟩, H.out.2⟩
set_option maxHeartbeats 8000000 in
set_option maxRecDepth 100000 in
theorem sortedNm_any (pB b n : Nat) (f : Nm → Option LN) (w : World) (hpB : w.heap[pB]? = some (.cells #[.map (some b)] 89 (0, 0))) (hmap : MapF LN.val w b n f) (hn : n ≤ 1000) :
    Calls Tryz.prog 110 #[.func (.func 140) #[] #[.pointer (some ⟨pB, 0, none⟩)], .func (.func 62) #[] #[]] w fun e w' => NamesRet f n w e w' ∧ Below w.heap.size w w' := by
  have HA := Lib.hid (collectNm_any pB b n f w hpB hmap hn)
  have HN := Lib.hid hn
  clear hpB hmap hn
  go_enter Tryz.func110, Tryz.ntmps110
  go_wp2_with fail
  refine HA.out.mono ?_
  rintro e w1 ⟨⟨a', c', ks, rfl, h1, h2, h3, h4, h5⟩, hb⟩
  have HO := Lib.hid h1
  have HAL := Lib.hid h2
  have HND := Lib.hid h3
  have HIN := Lib.hid h4
  have HL := Lib.hid h5
  have HB := Lib.hid hb
  clear h1 h2 h3 h4 h5 hb
  go_wp2_with fail
  refine (sortName_all (V := Nm) ord_nm nmRow (fun _ => rfl) (fun x v hv => by simp only [nmRow, List.mem_cons, List.not_mem_nil, or_false] at hv; rcases hv with rfl | rfl <;> rfl) (fun x y => namesC x.1 x.2 y.1 y.2) (fun _ _ => rfl) 62 nmCmp_fn nmCmp w.heap.size ks.length c' a' ks _ (by rw [← nmCells_eq]; exact HO.out) rfl (by have := HL.out; have := HN.out; omega)).mono ?_
  rintro e w10 ⟨rfl, zs, hz1, hz2, hz3, hz4⟩
  have Z1 := Lib.hid hz1
  have Z2 := Lib.hid hz2
  have Z3 := Lib.hid hz3
  have B2 := Lib.hid (hz4.below HB.out HB.out.size (fun k hk => (HO.out.lt k hk).1))
  clear hz1 hz2 hz3 hz4
  have ZL : Hid (zs.length = ks.length) := Lib.hid Z2.out.length_eq
  go_wp2_with fail
  go_ret
  exact ⟨⟨a', c', zs, by rw [ZL.out] <;> rfl, by rw [nmCells_eq, ZL.out]; exact Z1.out, fun k hk => Z2.out.symm.subset (HAL.out k hk), nm_strict (Z2.out.nodup_iff.2 HND.out) Z3.out, fun k hk => HIN.out k (Z2.out.subset hk), by rw [ZL.out]; exact HL.out⟩, B2.out⟩
set_option maxHeartbeats 8000000 in
set_option maxRecDepth 100000 in
theorem names_any (b n : Nat) (f : Nm → Option LN) (w : World) (hmap : MapF LN.val w b n f) (hn : n ≤ 1000) :
    Calls Tryz.prog 84 #[.map (some b)] w fun e w' => NamesRet f n w e w' ∧ Below w.heap.size w w' := by
  have HM := Lib.hid hmap
  have HN := Lib.hid hn
  clear hmap hn
  have hmf : ∀ (fn : Fn) (first cap : Array Value) (w : World), (Instr.makeFunc fn first cap).run Tryz.prog w = .ok (.func fn first cap) w := fun _ _ _ _ => rfl
  have KY : Hid (∀ W, Calls Tryz.prog 111 #[.map (some b)] W fun e W' => e = .returned (.func (.func 140) #[] #[.pointer (some ⟨W.heap.size, 0, none⟩)]) ∧ W' = W.alloc (.cells #[.map (some b)] 89)) := Lib.hid (fun W => by
    go_enter Tryz.func111, Tryz.ntmps111
    go_wp2_with fail
    go_ret
    exact ⟨rfl, rfl⟩)
  clear hmf
  go_enter Tryz.func84, Tryz.ntmps84
  go_wp2_with fail
  refine (KY.out w).mono ?_
  rintro e w1 ⟨rfl, rfl⟩
  have B1 := Lib.hid ((Below.refl w.heap.size w).alloc (Nat.le_refl _) (.cells #[.map (some b)] 89))
  have P1 := Lib.hid (heap_last w (.cells #[.map (some b)] 89))
  have M1 := Lib.hid (HM.out.below B1.out)
  obtain ⟨pB, hpB⟩ : ∃ p, Hid (w.heap.size = p) := ⟨_, Lib.hid rfl⟩
  rw [hpB.out] at P1
  rw [hpB.out]
  generalize w.alloc (.cells #[.map (some b)] 89) = w1 at *
  go_wp2_with fail
  refine (sortedNm_any pB b n f w1 P1.out M1.out HN.out).mono ?_
  rintro e w2 ⟨⟨a, c, ks, rfl, h1, h2⟩, hb⟩
  have HO := Lib.hid (own_mono h1 B1.out.size)
  have H2 := Lib.hid h2
  have B2 := Lib.hid (B1.out.trans (hb.mono B1.out.size))
  clear h1 h2 hb
  go_wp2_with fail
  go_ret
  exact ⟨⟨a, c, ks, rfl, HO.out, H2.out⟩, B2.out⟩
end Go.Proofs.YtpjiakgfegnmcaaGreat
namespace Go.Proofs.YtpjiakgfegnmcaaGreat
set_option linter.unusedSimpArgs false
open Go.RowKit

theorem run_get1_nm {α : Type} {enc : α → Value} {f : Nm → Option α} {w : World} {b n : Nat} {t e : TypeId} (hmap : MapF enc w b n f) (ht : Tryz.prog.underlying t = some (.map 29 e)) {z : Value} (hz : (zeroValue e).run Tryz.prog w = .ok z w) (h m : Int) (hk : nmOk (h, m)) {y : α} (hy : f (h, m) = some y) :
    (Instr.lookup t (.map (some b)) (.agg #[.int .i64 h, .int .i64 m]) false).run Tryz.prog w = .ok (enc y) w := by
  obtain ⟨D, h1, h2⟩ := hmap
  obtain ⟨v, ps, h3, h4⟩ := h1.lookup nm_keyed ht hz (zd := .held z) (zp := []) rfl (keyOf_nm (h, m) hk)
  rw [h2.val (h, m) y hy] at h4
  simp only [heldR, Option.some.injEq, Prod.mk.injEq] at h4
  have h5 := h4.1
  simp only [DataW.held.injEq] at h5
  rw [← h5]
  exact h3
theorem wpList_len_nm {α : Type} {enc : α → Value} {f : Nm → Option α} {w : World} {ops : Array Oper} {rest : List Oper} {o : Oper} {a : Act} {Q : Exit → Act → World → Prop} (hg : o.guard = none) (m : Operand) (t e : TypeId) (hop : o.op = Op.call { callee := Callee.builtin Builtin.len, args := #[m], argTypes := #[t] }) (ht : Tryz.prog.underlying t = some (.map 29 e)) (b n : Nat)
    (hm : a.eval m = .map (some b)) (hmap : MapF enc w b n f) (hK : ∀ k : Nat, k ≤ n → wpList Tryz.prog ops Q rest (a.put o.dst (.int .i64 (k : Int))) w) : wpList Tryz.prog ops Q (o :: rest) a w := by
  obtain ⟨D, h1, h2⟩ := hmap
  exact wpList_len_own w hg m t hop 29 e ht heldR b n D hm h1 (hK _ h1.size_le)
def mrgF (f g : Nm → Option LN) (ks : List Nm) : Nm → Option LN := fun k => if k ∈ ks then g k else f k
theorem mrgF_nil (f g : Nm → Option LN) : mrgF f g [] = f := by
  funext a
  simp [mrgF]
theorem mrgF_snoc {f g : Nm → Option LN} {ks : List Nm} {k : Nm} {y : LN} (h : g k = some y) : mrgF f g (ks ++ [k]) = updF (mrgF f g ks) k y := by
  funext a
  unfold mrgF updF
  by_cases e : a = k
  · subst e; simp [h]
  · simp [e]
theorem mrgF_all {f g : Nm → Option LN} {ks : List Nm} (h : AllIn g ks) (h2 : ∀ k ∈ ks, (g k).isSome = true) : mrgF f g ks = bothF f g := by
  funext a
  unfold mrgF bothF
  by_cases e : a ∈ ks
  · obtain ⟨y, hy⟩ := Option.isSome_iff_exists.1 (h2 a e)
    simp [e, hy]
  · cases hg : g a with
    | none => simp [e]
    | some y => exact absurd (h a (by rw [hg]; rfl)) e
structure CpAt (w wr : World) (bd bs r nd n : Nat) (f g : Nm → Option LN) (kr ks : List Nm) (cnt : Nat) : Prop where
  rng : RangeF LN.val wr bs r n g kr cnt
  dst : MapF LN.val wr bd (nd + ks.length) (mrgF f g ks)
  same : Same (fun k => k = bd) w wr
  r_ge : w.heap.size ≤ r
  all : ∀ k ∈ ks, (g k).isSome = true
  bd_lt : bd < w.heap.size
  ne : bd ≠ bs
section
variable {w wr W' : World} {bd bs r nd n : Nat} {f g : Nm → Option LN} {kr ks : List Nm} {cnt : Nat}
theorem CpAt.below (h : CpAt w wr bd bs r nd n f g kr ks cnt) (hb : Below wr.heap.size wr W') : CpAt w W' bd bs r nd n f g kr ks cnt :=
  ⟨h.rng.below hb, h.dst.below hb, h.same.trans (Same.of_below hb), h.r_ge, h.all, h.bd_lt, h.ne⟩
theorem CpAt.came (h : CpAt w wr bd bs r nd n f g kr ks cnt) {kh km : Int} {y : LN} {cnt' : Nat} (hN : NextF LN.val wr bs r n cnt g kr kh km y W' cnt') : CpAt w W' bd bs r nd n f g (kr ++ [(kh, km)]) ks cnt' :=
  ⟨hN.range, h.dst.kept hN.grown (fun e => by have h1 := h.r_ge; have h2 := h.bd_lt; have := Option.some.inj e; omega), h.same.reg (Same.of_grown hN.grown (fun k e => by cases e; exact .inr h.r_ge)), h.r_ge, h.all, h.bd_lt, h.ne⟩
theorem CpAt.put {k : Nm} {y : LN} (h : CpAt w wr bd bs r nd n f g (ks ++ [k]) ks cnt) (hk : g k = some y) (hm : MapF LN.val W' bd (nd + ks.length + 1) (updF (mrgF f g ks) k y)) (ht : wr.mapTurned W' bd) : CpAt w W' bd bs r nd n f g (ks ++ [k]) (ks ++ [k]) cnt := by
  have h1 := h.r_ge
  have h2 := h.bd_lt
  refine ⟨h.rng.of_blocks (ht.grown.block _ h.rng.map.lt (fun e => h.ne (Option.some.inj e).symm)) (ht.grown.block _ h.rng.lt (fun e => by have := Option.some.inj e; omega)), ?_, h.same.reg (Same.of_grown ht.grown (fun k e => by cases e; exact .inl rfl)), h.r_ge, fun a ha => ?_, h.bd_lt, h.ne⟩
  · rw [mrgF_snoc hk, List.length_append]
    exact hm
  · rcases List.mem_append.1 ha with ha | ha
    · exact h.all a ha
    · rw [List.mem_singleton.1 ha, hk]; rfl
end
set_option maxHeartbeats 8000000 in
set_option maxRecDepth 100000 in
theorem mapsCopy_any (bd nd bs n : Nat) (f g : Nm → Option LN) (w : World) (hd : MapF LN.val w bd nd f) (hs : MapF LN.val w bs n g) (hne : bd ≠ bs) (hlen : nd + n ≤ 1000000) :
    Calls Tryz.prog 83 #[.map (some bd), .map (some bs)] w fun e w' => e = .returned (.tuple #[]) ∧ MapF LN.val w' bd (nd + n) (bothF f g) ∧ Same (fun k => k = bd) w w' := by
  have I43 := Lib.hid (show ∀ (m : NoteV) (a : Option Addr) (c : Nat), (Tryz.prog.info? 51).map (·.size) = some (noteA m a c).size from fun m a c => by kernel_rfl)
  have HLEN := Lib.hid hlen; clear hlen
  go_enter Tryz.func83, Tryz.ntmps83
  go_wp2_with (first
    | (at_range; refine wpList_range_nm _ rfl _ 89 51 rfl Tryz.underlying89 bs n rfl hs ?_; intro w0 cnt0 hrg0 hg0 hs0)
    | fail)
  go_frame
  obtain ⟨r, hr⟩ : ∃ r, Hid (w.heap.size = r) := ⟨_, Lib.hid rfl⟩
  have b0 : Below w.heap.size w w0 := (Below.refl _ _).grown hg0 (Nat.le_refl _) (fun q hq => by cases hq)
  have S0 : Hid (CpAt w w0 bd bs r nd n f g [] [] cnt0) := Lib.hid ⟨by rw [← hr.out]; exact hrg0, by rw [mrgF_nil]; exact hd.below b0, Same.of_below b0, by rw [← hr.out]; exact Nat.le_refl _, (fun k hk => by cases hk), hd.lt, hne⟩
  rw [hr.out]
  clear hrg0 hg0 hs0 b0 hd hs hne
  go_loopw [10] (fun _ wr => ∃ (ks : List Nm) (cnt : Nat), Hid (CpAt w wr bd bs r nd n f g ks ks cnt)) (fun _ wr => wr.rangeLeft bs r)
  case atStart => exact ⟨_, _, S0⟩
  case round =>
    clear S0
    obtain ⟨ks, cnt, HS⟩ := hrel
    go_upto_region 2 with (first
      | (at_next; refine wpList_next_nm wr rfl _ rfl bs r n cnt ks rfl HS.out.rng ?_ ?_)
      | fail)
    · intro hall
      have HALL := Lib.hid hall; clear hall
      go_wp2_with fail
      go_end0
      exact ⟨rfl, by have h1 := HS.out.dst.mono (m := nd + n) (by have := HS.out.rng.count; omega); rwa [mrgF_all HALL.out HS.out.all] at h1, HS.out.same⟩
    · intro kh km y w1 cnt1 HN hen
      have HF := Lib.hid HN.out.at_
      have HKok := Lib.hid HN.out.ok
      have S1 := Lib.hid (HS.out.came HN.out)
      have HKL : Hid (ks.length + 1 ≤ n) := Lib.hid (by have := HN.out.range.count; rw [List.length_append] at this; simp at this; omega)
      have HM := Lib.hid (show wr.rangeLeft bs r = cnt from HS.out.rng.left_eq)
      have HLT := Lib.hid HN.out.lt
      clear HS HN
      unfold LN.val at hen
      go_upto_region 3 with (first
        | (refine wpList_store_newp (w1.alloc (.cells #[.int .i64 kh, .int .i64 km] 29)) rfl 51 _ _ rfl (w1.heap.size + 1) (by simp) _ (noteA y.n y.sa y.sc) rfl rfl (I43.out _ _ _) rfl (noteA_one y.n y.sa y.sc) ?_))
      clear hen
      have hbt : Below w1.heap.size w1 ((w1.alloc (.cells #[.int .i64 kh, .int .i64 km] 29)).alloc (.cells (noteA y.n y.sa y.sc) 51)) := ((Below.refl _ _).alloc (Nat.le_refl _) _).alloc (by simp) _
      have CS := Lib.hid (S1.out.below hbt)
      have CN := Lib.hid (heap_before _ (.cells (noteA y.n y.sa y.sc) 51) _ _ (heap_last w1 (.cells #[.int .i64 kh, .int .i64 km] 29)))
      have CT := Lib.hid (heap_at (w1.alloc (.cells #[.int .i64 kh, .int .i64 km] 29)) (.cells (noteA y.n y.sa y.sc) 51) (w1.heap.size + 1) (by simp))
      obtain ⟨p4, hp4⟩ : ∃ p4, Hid (w1.heap.size = p4) := ⟨_, Lib.hid rfl⟩
      obtain ⟨p5, hp5⟩ : ∃ p5, Hid (p4 + 1 = p5) := ⟨_, Lib.hid rfl⟩
      rw [hp4.out] at CN CT ⊢
      rw [hp5.out] at CT ⊢
      generalize (w1.alloc (.cells #[.int .i64 kh, .int .i64 km] 29)).alloc (.cells (noteA y.n y.sa y.sc) 51) = wt at *
      clear hbt S1
      have n0 := cell_of CN.out 0 (.int .i64 kh) rfl
      have n1 := cell_of CN.out 1 (.int .i64 km) rfl
      obtain ⟨w5, hrun, hm5, ht5⟩ := run_put_nm (t := 89) CS.out.dst (by have := HLEN.out; have := HKL.out; unfold maxLen; omega) Tryz.underlying89 kh km HKok.out y
      have S5 := Lib.hid (CS.out.put HF.out hm5 ht5)
      clear hm5 ht5
      unfold LN.val at hrun
      go_wp2_with (first
        | (refine wpList_load_row rfl 51 _ rfl p5 rfl 51 (noteA y.n y.sa y.sc) (0, 0) _ CT.out Tryz.underlying51 rfl (I43.out _ _ _) ?_)
        | fail)
      go_roundw
      case rel => exact ⟨_, _, S5⟩
      case measure => rw [S5.out.rng.left_eq, HM.out]; exact HLT.out
theorem ok_same {W W' : World} {x : LN} {b : Nat} (h : x.ok W) (hs : Same (fun k => k = b) W W') (hb : ∃ es cl, W.heap[b]? = some (.map es cl)) : x.ok W' := by
  obtain ⟨es, cl, hb⟩ := hb
  unfold LN.ok RdI at *
  refine ⟨h.1, h.2.1, h.2.2.1, h.2.2.2.imp id ?_⟩
  rintro ⟨g, off, hsa, hat⟩
  refine ⟨g, off, hsa, fun j v hv => ?_⟩
  have h1 := hat j v hv
  simp only [World.cell?] at h1 ⊢
  have hg : g ≠ b := fun e => by subst e; rw [hb] at h1; simp at h1
  have hlt : g < W.heap.size := by
    by_cases h2 : g < W.heap.size
    · exact h2
    · rw [Array.getElem?_eq_none (by omega)] at h1; simp at h1
  rw [hs.block g hlt hg]
  exact h1
structure SetAt (w W : World) (l : List NoteV) (b : Nat) (xs : List LN) : Prop where
  eq : xs.map LN.n = l
  ok : ∀ x ∈ xs, x.ok W
  map : MapF LN.val W b l.length (setF xs)
  ge : w.heap.size ≤ b
theorem SetAt.below {w W W' : World} {l : List NoteV} {b : Nat} {xs : List LN} (h : SetAt w W l b xs) (hb : Below W.heap.size W W') : SetAt w W' l b xs := ⟨h.eq, fun x hx => (h.ok x hx).below hb, h.map.below hb, h.ge⟩
def BothRet (f : FrV) (l m : List NoteV) (w : World) (e : Ending) (W : World) : Prop :=
  (¬ ((checkSetP f l).1 = 0 ∧ (checkSetP f m).1 = 0) ∧ ∃ o1 o2, e = .returned (.tuple #[.map o1, .map o2, .bool false])) ∨
  ((checkSetP f l).1 = 0 ∧ (checkSetP f m).1 = 0 ∧ ∃ b xs c ys, e = .returned (.tuple #[.map (some b), .map (some c), .bool true]) ∧ SetAt w W l b xs ∧ SetAt w W m c ys ∧ b ≠ c)
set_option maxHeartbeats 8000000 in
set_option maxRecDepth 100000 in
theorem both_any (f : FrV) (a : Option Addr) (nn nc : Nat) (l : List NoteV) (ma : Option Addr) (mn mc : Nat) (m : List NoteV) (w : World) (hr : RdNs w a nn nc l) (hok : ∀ x ∈ l, x.Ok) (hm : RdNs w ma mn mc m) (hokm : ∀ x ∈ m, x.Ok) :
    Calls Tryz.prog 81 #[f.val, .slice a nn nc, .slice ma mn mc] w fun e w' => BothRet f l m w e w' ∧ Below w.heap.size w w' := by
  have S1 := Lib.hid (fun W hb => setOf_any f a nn nc l W (hr.below (show Below w.heap.size w W from hb)) hok)
  have S2 := Lib.hid (fun W hb => setOf_any f ma mn mc m W (hm.below (show Below w.heap.size w W from hb)) hokm)
  clear hr hok hm hokm
  have hvl : f.val = .agg #[.int .i64 f.rings, .int .i64 f.sectors, .int .i64 f.wide] := rfl
  rw [hvl] at S1 S2 ⊢
  clear hvl
  have B0 := Lib.hid ((Below.refl w.heap.size w).alloc (Nat.le_refl _) (.cells #[.int .i64 f.rings, .int .i64 f.sectors, .int .i64 f.wide] 23))
  have F0 := Lib.hid (heap_last w (.cells #[.int .i64 f.rings, .int .i64 f.sectors, .int .i64 f.wide] 23))
  go_enter Tryz.func81, Tryz.ntmps81
  go_upto_region 1 with fail
  obtain ⟨pF, hpF⟩ : ∃ pF, Hid (w.heap.size = pF) := ⟨_, Lib.hid rfl⟩
  rw [hpF.out] at F0 ⊢
  generalize w.alloc (.cells #[.int .i64 f.rings, .int .i64 f.sectors, .int .i64 f.wide] 23) = w0 at *
  have f0 := cell_of F0.out 0 (.int .i64 f.rings) rfl
  have f1 := cell_of F0.out 1 (.int .i64 f.sectors) rfl
  have f2 := cell_of F0.out 2 (.int .i64 f.wide) rfl
  go_wp2_with fail
  refine (S1.out w0 B0.out).mono ?_
  clear f0 f1 f2
  rintro e w1 ⟨h1, hb1⟩
  have B1 := Lib.hid (B0.out.trans (hb1.mono B0.out.size))
  have F1 := Lib.hid (below_blk hb1 F0.out)
  clear hb1 F0
  have f0 := cell_of F1.out 0 (.int .i64 f.rings) rfl
  have f1 := cell_of F1.out 1 (.int .i64 f.sectors) rfl
  have f2 := cell_of F1.out 2 (.int .i64 f.wide) rfl
  rcases h1 with ⟨hbad, rfl⟩ | ⟨hset, xs, b, rfl, h2, h3, h4, h5⟩
  · have BAD := Lib.hid hbad; clear hbad
    go_wp2_with fail
    refine (S2.out w1 B1.out).mono ?_
    clear f0 f1 f2
    rintro e w2 ⟨h1, hb2⟩
    have B2 := Lib.hid (B1.out.trans (hb2.mono B1.out.size))
    clear hb2
    rcases h1 with ⟨_, rfl⟩ | ⟨_, ys, c, rfl, _, _, _, _⟩
    · go_wp2_with fail
      go_returns
      exact ⟨.inl ⟨fun h => BAD.out h.1, none, none, rfl⟩, B2.out⟩
    · go_wp2_with fail
      go_returns
      exact ⟨.inl ⟨fun h => BAD.out h.1, none, some c, rfl⟩, B2.out⟩
  · have SA := Lib.hid (show SetAt w w1 l b xs from ⟨h2, h3, h4, Nat.le_trans B0.out.size h5⟩)
    have HS := Lib.hid hset
    clear hset h2 h3 h4 h5
    go_wp2_with fail
    refine (S2.out w1 B1.out).mono ?_
    clear f0 f1 f2
    rintro e w2 ⟨h1, hb2⟩
    have B2 := Lib.hid (B1.out.trans (hb2.mono B1.out.size))
    have SA2 := Lib.hid (SA.out.below hb2)
    clear hb2
    rcases h1 with ⟨hbad, rfl⟩ | ⟨hset, ys, c, rfl, h2, h3, h4, h5⟩
    · have BAD := Lib.hid hbad; clear hbad
      go_wp2_with fail
      go_returns
      exact ⟨.inl ⟨fun h => BAD.out h.2, some b, none, rfl⟩, B2.out⟩
    · have HS2 := Lib.hid hset
      have SB := Lib.hid (show SetAt w w2 m c ys from ⟨h2, h3, h4, Nat.le_trans B1.out.size h5⟩)
      have NE : Hid (b ≠ c) := Lib.hid (by have := SA.out.map.lt; omega)
      clear hset h2 h3 h4 h5
      go_wp2_with fail
      go_returns
      exact ⟨.inr ⟨HS.out, HS2.out, b, xs, c, ys, rfl, SA2.out, SB.out, NE.out⟩, B2.out⟩
end Go.Proofs.YtpjiakgfegnmcaaGreat
namespace Go.Proofs.YtpjiakgfegnmcaaGreat
set_option linter.unusedSimpArgs false
open Go.RowKit

def forkV (f : FrV) (l m : List NoteV) : Nm × Int := if (checkSetP f l).1 = 0 ∧ (checkSetP f m).1 = 0 then (match forkAt l m with | some a => (a, 0) | none => ((0, 0), 3)) else ((0, 0), 1)
def ForkRet (f : FrV) (l m : List NoteV) (e : Ending) : Prop := e = .returned (.tuple #[.agg #[.int .i64 (forkV f l m).1.1, .int .i64 (forkV f l m).1.2], .int .i64 (forkV f l m).2])
theorem forkV_bad {f : FrV} {l m : List NoteV} (h : ¬ ((checkSetP f l).1 = 0 ∧ (checkSetP f m).1 = 0)) : forkV f l m = ((0, 0), 1) := by unfold forkV; rw [if_neg h]
theorem forkV_none {f : FrV} {l m : List NoteV} (h : (checkSetP f l).1 = 0) (h2 : (checkSetP f m).1 = 0) (h3 : forkAt l m = none) : forkV f l m = ((0, 0), 3) := by unfold forkV; rw [if_pos ⟨h, h2⟩, h3]
theorem forkV_some {f : FrV} {l m : List NoteV} {a : Nm} (h : (checkSetP f l).1 = 0) (h2 : (checkSetP f m).1 = 0) (h3 : forkAt l m = some a) : forkV f l m = (a, 0) := by unfold forkV; rw [if_pos ⟨h, h2⟩, h3]
def mergeE (f : FrV) (l m : List NoteV) : Int := if (checkSetP f l).1 = 0 ∧ (checkSetP f m).1 = 0 then (match forkAt l m with | some _ => 81 | none => 0) else 1
def MergeRet (f : FrV) (l m : List NoteV) (e : Ending) (W : World) : Prop :=
  ∃ (ua : Option Addr) (un uc : Nat) (u : List NoteV), e = .returned (.tuple #[.slice ua un uc, .int .i64 (mergeE f l m)]) ∧ RdNs W ua un uc u ∧ (mergeE f l m = 0 → IsU l m u) ∧ (mergeE f l m ≠ 0 → u = [])
theorem forkV_cases (f : FrV) (l m : List NoteV) : (¬ ((checkSetP f l).1 = 0 ∧ (checkSetP f m).1 = 0) ∧ forkV f l m = ((0, 0), 1) ∧ mergeE f l m = 1) ∨
    ((checkSetP f l).1 = 0 ∧ (checkSetP f m).1 = 0 ∧ ((∃ a, forkAt l m = some a ∧ forkV f l m = (a, 0) ∧ mergeE f l m = 81) ∨ (forkAt l m = none ∧ forkV f l m = ((0, 0), 3) ∧ mergeE f l m = 0))) := by
  by_cases h : (checkSetP f l).1 = 0 ∧ (checkSetP f m).1 = 0
  · refine .inr ⟨h.1, h.2, ?_⟩
    cases h2 : forkAt l m with
    | none => exact .inr ⟨rfl, forkV_none h.1 h.2 h2, by unfold mergeE; rw [if_pos h, h2]⟩
    | some a => exact .inl ⟨a, rfl, forkV_some h.1 h.2 h2, by unfold mergeE; rw [if_pos h, h2]⟩
  · exact .inl ⟨h, forkV_bad h, by unfold mergeE; rw [if_neg h]⟩
theorem rdNs_nil (W : World) : RdNs W none 0 0 [] := ⟨rfl, Nat.le_refl _, Nat.zero_le _, .inl rfl⟩
theorem MergeRet.bad {f : FrV} {l m : List NoteV} {W : World} {e : Ending} (he : e = .returned (.tuple #[.slice none 0 0, .int .i64 (mergeE f l m)])) (h : mergeE f l m ≠ 0) : MergeRet f l m e W :=
  ⟨none, 0, 0, [], he, rdNs_nil W, fun h2 => absurd h2 h, fun _ => rfl⟩
theorem MergeRet.good {f : FrV} {l m : List NoteV} {W : World} {e : Ending} {ua : Option Addr} {un uc : Nat} {u : List NoteV} (he : e = .returned (.tuple #[.slice ua un uc, .int .i64 (mergeE f l m)])) (h : mergeE f l m = 0) (hr : RdNs W ua un uc u) (hu : IsU l m u) : MergeRet f l m e W :=
  ⟨ua, un, uc, u, he, hr, fun _ => hu, fun h2 => absurd h h2⟩
structure MgAt (V W : World) (a : Option Addr) (c n : Nat) (ys : List LN) : Prop where
  bel : Below V.heap.size V W
  own : W.ownsRow V.heap.size 51 19 (.slice a n c) n (lnCells ys)
  str : EvOwn W V.heap.size ys
  len : ys.length = n
theorem MgAt.start (V : World) : MgAt V V none 0 0 [] := ⟨Below.refl _ _, World.ownsRow_nil _ _ _ _, (fun x hx => by cases hx), rfl⟩
theorem MgAt.below {V W W' : World} {a : Option Addr} {c n : Nat} {ys : List LN} (h : MgAt V W a c n ys) (hb : Below W.heap.size W W') : MgAt V W' a c n ys := ⟨h.bel.trans (hb.mono h.bel.size), own_below h.own hb, h.str.below hb, h.len⟩
theorem MgAt.add {V W W' : World} {a a' : Option Addr} {c c' n : Nat} {ys : List LN} {x : LN} (h : MgAt V W a c n ys) (hx : W.ownsRow V.heap.size 3 1 (.slice x.sa x.n.strokes.length x.sc) x.n.strokes.length (x.n.strokes.map intV))
    (ho : W'.ownsRow V.heap.size 51 19 (.slice a' (n + 1) c') (n + 1) (lnCells ys ++ x.n.cells x.sa x.sc)) (hg : (W.alloc (.cells (noteA x.n x.sa x.sc) 51)).grownBy W' (Value.ownBlock (.slice a n c))) : MgAt V W' a' c' (n + 1) (ys ++ [x]) := by
  have bn : Below W.heap.size W (W.alloc (.cells (noteA x.n x.sa x.sc) 51)) := (Below.refl _ _).alloc (Nat.le_refl _) _
  have h2 := h.below bn
  refine ⟨h2.bel.grown hg h2.bel.size (fun k hk => (h2.own.lt k hk).1), by rw [lnCells_snoc]; exact ho, fun y hy => ?_, by rw [List.length_append, h.len]; rfl⟩
  have h0 : (W.alloc (.cells (noteA x.n x.sa x.sc) 51)).ownsRow V.heap.size 3 1 (.slice y.sa y.n.strokes.length y.sc) y.n.strokes.length (y.n.strokes.map intV) := by
    rcases List.mem_append.1 hy with hy | hy
    · exact h2.str y hy
    · rw [List.mem_singleton.1 hy]; exact own_below hx bn
  exact h0.kept hg (own_apart h0 h2.own (by decide))
theorem MgAt.rd {V W : World} {a : Option Addr} {c n : Nat} {ys : List LN} (h : MgAt V W a c n ys) : RdNs W a n c (ys.map LN.n) := rdNs_of (RdA.of_own h.own) (fun y hy => RdA.of_own (h.str y hy))
end Go.Proofs.YtpjiakgfegnmcaaGreat
namespace Go.Proofs.YtpjiakgfegnmcaaGreat
set_option linter.unusedSimpArgs false
open Go.RowKit

def forkP (l m : List NoteV) : Nm × Bool := match forkAt l m with | some a => (a, true) | none => ((0, 0), false)
theorem nmCells_at {W : World} {a : Option Addr} {n c : Nat} {l : List Nm} (h : RdA W 2 a n c (nmCells l)) {q : Nat} {k : Nm} (hk : l[q]? = some k) : ∃ b off, a = some ⟨b, off, none⟩ ∧ W.cell? ⟨b, off + q * 2, none⟩ = some (.int .i64 k.1) ∧ W.cell? ⟨b, off + q * 2 + 1, none⟩ = some (.int .i64 k.2) := by
  have hl : l.length = n := by have := h.len; rw [nmCells_len] at this; omega
  have hq := (List.getElem?_eq_some_iff.1 hk).1
  obtain ⟨b, off, rfl, hat⟩ := rdNm_at h (by omega)
  exact ⟨b, off, rfl, hat q k hk⟩
set_option maxHeartbeats 16000000 in
set_option maxRecDepth 100000 in
theorem fork_any (b c : Nat) (l m : List NoteV) (xs ys : List LN) (w0 w : World) (ha : SetAt w0 w l b xs) (hb : SetAt w0 w m c ys) (hp : l.Pairwise ltN) (hd : (m.map nmOf).Nodup) (hokl : ∀ x ∈ l, x.Ok) (h4 : l.length ≤ 1000) :
    Calls Tryz.prog 82 #[.map (some b), .map (some c)] w fun e w' => e = .returned (.tuple #[.agg #[.int .i64 (forkP l m).1.1, .int .i64 (forkP l m).1.2], .bool (forkP l m).2]) ∧ Below w.heap.size w w' := by
  have I43 := Lib.hid (show ∀ (m : NoteV) (a : Option Addr) (c : Nat), (Tryz.prog.info? 51).map (·.size) = some (noteA m a c).size from fun m a c => by kernel_rfl)
  have I2 := Lib.hid (show ∀ (x y : Value), (Tryz.prog.info? 29).map (·.size) = some (#[x, y] : Array Value).size from fun x y => by kernel_rfl)
  have J2 : (Tryz.prog.info? 29).map (·.size) = some 2 := by kernel_rfl
  have SA := Lib.hid ha
  have SB := Lib.hid hb
  have HP := Lib.hid hp
  have HD := Lib.hid hd
  have HOK := Lib.hid hokl
  have H4 := Lib.hid h4
  have NDL : Hid (((xs.map LN.n).map nmOf).Nodup) := Lib.hid (by rw [SA.out.eq]; exact set_nodup HP.out)
  have NDM : Hid (((ys.map LN.n).map nmOf).Nodup) := Lib.hid (by rw [SB.out.eq]; exact HD.out)
  clear ha hb hp hd hokl h4
  have B0 := Lib.hid ((Below.refl w.heap.size w).alloc (Nat.le_refl _) (.cells #[.int .i64 0, .int .i64 0] 29))
  have P0 := Lib.hid (heap_last w (.cells #[.int .i64 0, .int .i64 0] 29))
  have SZ : Hid (w.heap.size ≤ w.heap.size) := Lib.hid (Nat.le_refl _)
  go_enter Tryz.func82, Tryz.ntmps82
  go_upto_region 1 with fail
  obtain ⟨p4, hp4⟩ : ∃ p, Hid (w.heap.size = p) := ⟨_, Lib.hid rfl⟩
  replace SZ : Hid (w.heap.size ≤ p4) := Lib.hid (by rw [hp4.out]; exact Nat.le_refl _)
  rw [hp4.out] at P0
  rw [hp4.out]
  generalize w.alloc (.cells #[.int .i64 0, .int .i64 0] 29) = W0 at *
  go_wp2_with fail
  refine (names_any b l.length (setF xs) W0 (SA.out.map.below B0.out) H4.out).mono ?_
  rintro e W1 ⟨⟨na, nc, ks, rfl, h1, h2, h3, h4, h5⟩, b1⟩
  have B1 := Lib.hid (B0.out.trans (b1.mono B0.out.size))
  have P1 := Lib.hid (below_blk b1 P0.out)
  have RN := Lib.hid (RdA.of_own h1)
  have KE : Hid (ks = l.map nmOf) := Lib.hid (by
    have := names_of (xs := xs) (by rw [SA.out.eq]; exact HP.out) h2 h4 h3
    rwa [SA.out.eq] at this)
  have KL : Hid (ks.length = l.length) := Lib.hid (by rw [KE.out, List.length_map])
  obtain ⟨kn, hkn⟩ : ∃ kn, Hid (ks.length = kn) := ⟨_, Lib.hid rfl⟩
  rw [hkn.out] at RN KL ⊢
  clear b1 h1 h2 h3 h4 h5 B0 P0
  have HK4 : Hid (kn ≤ 1000) := Lib.hid (by have := H4.out; have := KL.out; omega)
  go_wp2_with fail
  go_loopw [13] (fun i wr => ∃ (q : Nat), i = .int .i64 (q : Int) ∧ q ≤ kn ∧ Hid (∀ j y, j < q → l[j]? = some y → badB m y = false) ∧ Hid (Below W1.heap.size W1 wr)) (fun i _ => kn - (intOf i).toNat)
  case atStart => exact ⟨0, rfl, Nat.zero_le _, Lib.hid (fun j y h => by omega), Lib.hid (Below.refl _ _)⟩
  case round =>
    obtain ⟨q, rfl, hq, HA, BB⟩ := hrel
    have BW := Lib.hid (B1.out.trans (BB.out.mono B1.out.size))
    by_cases hlt : q < kn
    · have t0 : decide ((q : Int) < (kn : Int)) = true := by simp; omega
      obtain ⟨xn, Hx⟩ : ∃ xn, l[q]? = some xn := ⟨_, List.getElem?_eq_getElem (by rw [← KL.out]; exact hlt)⟩
      obtain ⟨x, hxm, hxn⟩ : ∃ x ∈ xs, x.n = xn := by
        have h1 := List.mem_of_getElem? Hx
        rw [← SA.out.eq] at h1
        obtain ⟨x, h2, h3⟩ := List.mem_map.1 h1
        exact ⟨x, h2, h3⟩
      subst hxn
      have HLX := Lib.hid Hx
      have GX : Hid (setF xs (x.n.house, x.n.num) = some x) := Lib.hid (setF_mem NDL.out hxm)
      have XOK := Lib.hid (SA.out.ok x hxm)
      have NOK : Hid (nmOk (x.n.house, x.n.num)) := Lib.hid (by have := HOK.out x.n (List.mem_of_getElem? Hx); exact ⟨this.house, this.num⟩)
      obtain ⟨kb, koff, rfl, hk1, hk2⟩ := nmCells_at (RN.out.below BB.out) (show ks[q]? = some (x.n.house, x.n.num) by rw [KE.out, List.getElem?_map, Hx]; rfl)
      obtain ⟨o, ho⟩ : ∃ o, Hid (koff + q * 2 = o) := ⟨_, Lib.hid rfl⟩
      rw [ho.out] at hk1 hk2
      have hix := fun W => idx_off (W := W) (c := nc) (b := kb) Tryz.underlying25 J2 hlt ho.out
      have HK64 : Hid ((q : Int) + 1 ≤ 9223372036854775807) := Lib.hid (by have := HK4.out; omega)
      clear Hx hxm
      go_upto_region 4 with fail
      clear t0 hix hk1 hk2
      have bt : Below wr.heap.size wr (wr.alloc (.cells #[.int .i64 x.n.house, .int .i64 x.n.num] 29)) := (Below.refl _ _).alloc (Nat.le_refl _) _
      have P7 := Lib.hid (heap_last wr (.cells #[.int .i64 x.n.house, .int .i64 x.n.num] 29))
      have BW2 := Lib.hid (BW.out.trans (bt.mono BW.out.size))
      have BB2 := Lib.hid (BB.out.trans (bt.mono BB.out.size))
      obtain ⟨p7, hp7⟩ : ∃ p, Hid (wr.heap.size = p) := ⟨_, Lib.hid rfl⟩
      rw [hp7.out] at P7 ⊢
      generalize wr.alloc (.cells #[.int .i64 x.n.house, .int .i64 x.n.num] 29) = wt at *
      clear bt BW BB
      have MY := Lib.hid (SB.out.map.below BW2.out)
      have MX := Lib.hid (SA.out.map.below BW2.out)
      have n0 := cell_of P7.out 0 (.int .i64 x.n.house) rfl
      have n1 := cell_of P7.out 1 (.int .i64 x.n.num) rfl
      cases hfr : setF ys (x.n.house, x.n.num) with
      | none =>
        have hget : (Instr.lookup 89 (.map (some c)) (.agg #[.int .i64 x.n.house, .int .i64 x.n.num]) true).run Tryz.prog wt = .ok (.tuple #[.agg (noteA zeroN none 0), .bool false]) wt := by
          have := run_get_nm (t := 89) MY.out Tryz.underlying89 (zero_note wt) x.n.house x.n.num NOK.out
          rw [hfr] at this; exact this
        have BAD : Hid (badB m x.n = false) := Lib.hid (badB_no (fun y hy e => by
          rw [← SB.out.eq] at hy
          obtain ⟨z, hz, rfl⟩ := List.mem_map.1 hy
          have h1 := setF_mem NDM.out hz
          rw [show z.nm = (x.n.house, x.n.num) from e, hfr] at h1
          cases h1))
        clear hfr
        go_upto_region 5 with (first
          | (refine wpList_store_newp wt rfl 51 _ _ rfl wt.heap.size rfl _ (noteA zeroN none 0) rfl rfl (I43.out _ _ _) rfl (noteA_one zeroN none 0) ?_))
        have bt : Below wt.heap.size wt (wt.alloc (.cells (noteA zeroN none 0) 51)) := (Below.refl _ _).alloc (Nat.le_refl _) _
        have BB3 := Lib.hid (BB2.out.trans (bt.mono BB2.out.size))
        generalize wt.alloc (.cells (noteA zeroN none 0) 51) = wz at *
        clear bt hget n0 n1 MX MY BW2 BB2 P7
        have hC0 : Below wz.heap.size wz wz.drew := (Below.refl _ _).drew
        try simp only [Act.put, lq3, lq4, lq5]
        refine wp_region_quiet (C := fun w' : World => Below wz.heap.size wz w') (by kernel_rfl) (by kernel_rfl) hC0 ?_
        show wpQuiet _ _ _ _ (_ :: _) _
        go_big_quiet_want
        go_big_quiet_op
        go_big_quiet_on
        go_big_quiet_want
        go_big_quiet_op
        go_big_quiet_on
        go_big_quiet_skip
        go_big_quiet_skip
        go_big_quiet_skip
        go_big_quiet_skip
        go_big_quiet_skip
        go_big_quiet_skip
        go_big_quiet_want
        refine ⟨.bool false, fun w0 hC => ?_, ?_⟩
        · clear hC
          go_simp
        simp only [Act.put, lq3, lq4, lq5]
        go_big_quiet_on
        refine wpQuiet_nil ?_
        intro w' hC
        have BB5 := Lib.hid (BB3.out.trans (hC.mono BB3.out.size))
        clear hC
        have hk64 := HK64.out
        go_wp2_with fail
        go_roundw
        case rel => exact ⟨q + 1, by go_num, by omega, Lib.hid (fun i z hi hz => by
          rcases Nat.lt_or_ge i q with h' | h'
          · exact HA.out i z h' hz
          · have e : i = q := by omega
            subst e
            rw [HLX.out] at hz
            cases hz
            exact BAD.out), BB5⟩
        case measure => simp [intOf]; omega
      | some y =>
        have hget : (Instr.lookup 89 (.map (some c)) (.agg #[.int .i64 x.n.house, .int .i64 x.n.num]) true).run Tryz.prog wt = .ok (.tuple #[.agg (noteA y.n y.sa y.sc), .bool true]) wt := by
          have := run_get_nm (t := 89) MY.out Tryz.underlying89 (zero_note wt) x.n.house x.n.num NOK.out
          rw [hfr] at this; exact this
        have BAD : Hid (badB m x.n = !sameB y.n x.n) := Lib.hid (by
          rw [sameB_comm]
          exact badB_at HD.out (by rw [← SB.out.eq]; exact List.mem_map_of_mem (setF_some hfr).1) (setF_some hfr).2)
        have YOK := Lib.hid (SB.out.ok y (setF_some hfr).1)
        clear hfr
        go_upto_region 5 with (first
          | (refine wpList_store_newp wt rfl 51 _ _ rfl wt.heap.size rfl _ (noteA y.n y.sa y.sc) rfl rfl (I43.out _ _ _) rfl (noteA_one y.n y.sa y.sc) ?_))
        have bt : Below wt.heap.size wt (wt.alloc (.cells (noteA y.n y.sa y.sc) 51)) := (Below.refl _ _).alloc (Nat.le_refl _) _
        have P8 := Lib.hid (heap_last wt (.cells (noteA y.n y.sa y.sc) 51))
        have BB3 := Lib.hid (BB2.out.trans (bt.mono BB2.out.size))
        have BW3 := Lib.hid (BW2.out.trans (bt.mono BW2.out.size))
        have MX3 := Lib.hid (MX.out.below bt)
        have P73 := Lib.hid (below_blk bt P7.out)
        obtain ⟨p8, hp8⟩ : ∃ p, Hid (wt.heap.size = p) := ⟨_, Lib.hid rfl⟩
        rw [hp8.out] at P8 ⊢
        generalize wt.alloc (.cells (noteA y.n y.sa y.sc) 51) = wz at *
        clear bt hget n0 n1 MX MY BW2 BB2 P7
        have hC0 : Below wz.heap.size wz wz.drew := (Below.refl _ _).drew
        have L7 := Lib.hid (show ∀ w0, Below wz.heap.size wz w0 → w0.heap[p7]? = some (.cells #[.int .i64 x.n.house, .int .i64 x.n.num] 29 (0, 0)) from fun w0 h => below_blk h P73.out)
        have L8 := Lib.hid (show ∀ w0, Below wz.heap.size wz w0 → w0.heap[p8]? = some (.cells (noteA y.n y.sa y.sc) 51 (0, 0)) from fun w0 h => below_blk h P8.out)
        try simp only [Act.put, lq3, lq4, lq5]
        refine wp_region_quiet (C := fun w' : World => Below wz.heap.size wz w') (by kernel_rfl) (by kernel_rfl) hC0 ?_
        show wpQuiet _ _ _ _ (_ :: _) _
        go_big_quiet_want
        go_big_quiet_op
        go_big_quiet_on
        go_big_quiet_want
        go_big_quiet_op
        go_big_quiet_on
        go_big_quiet_want
        refine ⟨.agg (noteA y.n y.sa y.sc), fun w0 hC => quiet_load43 (.tmp 8) rfl p8 rfl y.n y.sa y.sc (L8.out w0 hC), ?_⟩
        simp only [Act.put, lq3, lq4, lq5]
        go_big_quiet_on
        go_big_quiet_want
        go_big_quiet_op
        go_big_quiet_on
        go_big_quiet_want
        refine ⟨.agg #[.int .i64 x.n.house, .int .i64 x.n.num], fun w0 hC => ?_, ?_⟩
        · have c0 := cell_of (L7.out w0 hC) 0 (.int .i64 x.n.house) rfl
          have c1 := cell_of (L7.out w0 hC) 1 (.int .i64 x.n.num) rfl
          clear hC
          go_simp
        simp only [Act.put, lq3, lq4, lq5]
        go_big_quiet_on
        go_big_quiet_want
        refine ⟨.agg (noteA x.n x.sa x.sc), fun w0 hC => ?_, ?_⟩
        · have hg : (Instr.lookup 89 (.map (some b)) (.agg #[.int .i64 x.n.house, .int .i64 x.n.num]) false).run Tryz.prog w0 = .ok (.agg (noteA x.n x.sa x.sc)) w0 := run_get1_nm (t := 89) (MX3.out.below hC) Tryz.underlying89 (zero_note w0) x.n.house x.n.num NOK.out GX.out
          clear hC
          go_simp
        simp only [Act.put, lq3, lq4, lq5]
        go_big_quiet_on
        go_big_quiet_want
        refine ⟨.bool (sameB y.n x.n), fun w0 hC => ?_, ?_⟩
        · go_simp
          refine (same_any y.n x.n y.sa y.sc x.sa x.sc w0 ((YOK.out.below BW3.out).below hC) ((XOK.out.below BW3.out).below hC)).mono ?_
          rintro e w1 ⟨rfl, b1⟩
          exact ⟨rfl, hC.trans (b1.mono hC.size)⟩
        simp only [Act.put, lq3, lq4, lq5]
        go_big_quiet_on
        go_big_quiet_want
        refine ⟨.bool (!sameB y.n x.n), fun w0 hC => ?_, ?_⟩
        · clear hC
          go_simp
        simp only [Act.put, lq3, lq4, lq5]
        go_big_quiet_on
        go_big_quiet_want
        refine ⟨.bool (!sameB y.n x.n), fun w0 hC => ?_, ?_⟩
        · clear hC
          go_simp
        simp only [Act.put, lq3, lq4, lq5]
        go_big_quiet_on
        refine wpQuiet_nil ?_
        intro w' hC
        have BB5 := Lib.hid (BB3.out.trans (hC.mono BB3.out.size))
        have BW5 := Lib.hid (BW3.out.trans (hC.mono BW3.out.size))
        have P75 := Lib.hid (L7.out w' hC)
        clear hC L7 L8 P73 P8 MX3 BB3 BW3 XOK YOK
        cases hq2 : (!sameB y.n x.n)
        · replace BAD := Lib.hid (BAD.out.trans hq2)
          clear hq2
          have hk64 := HK64.out
          go_wp2_with fail
          go_roundw
          case rel => exact ⟨q + 1, by go_num, by omega, Lib.hid (fun i z hi hz => by
            rcases Nat.lt_or_ge i q with h' | h'
            · exact HA.out i z h' hz
            · have e : i = q := by omega
              subst e
              rw [HLX.out] at hz
              cases hz
              exact BAD.out), BB5⟩
          case measure => simp [intOf]; omega
        · have CE : Hid (forkP l m = ((x.n.house, x.n.num), true)) := Lib.hid (by
            unfold forkP
            rw [forkAt_first HLX.out HA.out (BAD.out.trans hq2)]
            rfl)
          have PW := Lib.hid (below_blk BB5.out P1.out)
          have n0 := cell_of P75.out 0 (.int .i64 x.n.house) rfl
          have n1 := cell_of P75.out 1 (.int .i64 x.n.num) rfl
          clear hq2 BAD
          go_wp2_with (first
            | (refine wpList_store_blkP rfl 29 _ _ rfl p4 #[.int .i64 0, .int .i64 0] #[.int .i64 x.n.house, .int .i64 x.n.num] 29 rfl rfl PW.out (I2.out _ _) rfl (by simp [Value.oneCell']) ?_; intro w9 hr1 hr2 hr3)
            | fail)
          have HR1 := Lib.hid hr1
          have HR2 := Lib.hid hr2
          clear hr1 hr2 hr3
          refine bodyPost_ret (results_cell_row_tmp rfl _ _ p4 29 #[.int .i64 x.n.house, .int .i64 x.n.num] (0, 0) _ rfl HR1.out Tryz.underlying29 rfl (I2.out _ _)) rfl ?_
          exact ⟨by rw [CE.out] <;> rfl, BW5.out.grown HR2.out BW5.out.size (fun q e => by cases e; exact SZ.out)⟩
    · have t0 : decide ((q : Int) < (kn : Int)) = false := by simp; omega
      have CE : Hid (forkP l m = ((0, 0), false)) := Lib.hid (by
        unfold forkP
        rw [forkAt_all (l := l) (m := m) (fun j y hj hy => HA.out j y (by rw [← KL.out] at hj; omega) hy)])
      have PW := Lib.hid (below_blk BB.out P1.out)
      go_wp2_with (first
        | (refine wpList_store_blkP rfl 29 _ _ rfl p4 #[.int .i64 0, .int .i64 0] #[.int .i64 0, .int .i64 0] 29 rfl rfl PW.out (I2.out _ _) rfl (by simp [Value.oneCell']) ?_; intro w9 hr1 hr2 hr3)
        | fail)
      have HR1 := Lib.hid hr1
      have HR2 := Lib.hid hr2
      clear hr1 hr2 hr3
      refine bodyPost_ret (results_cell_row_tmp rfl _ _ p4 29 #[.int .i64 0, .int .i64 0] (0, 0) _ rfl HR1.out Tryz.underlying29 rfl (I2.out _ _)) rfl ?_
      exact ⟨by rw [CE.out] <;> rfl, BW.out.grown HR2.out BW.out.size (fun q e => by cases e; exact SZ.out)⟩
set_option maxHeartbeats 8000000 in
set_option maxRecDepth 100000 in
theorem pfork_any (f : FrV) (a : Option Addr) (nn nc : Nat) (l : List NoteV) (ma : Option Addr) (mn mc : Nat) (m : List NoteV) (w : World) (hr : RdNs w a nn nc l) (hok : ∀ x ∈ l, x.Ok) (hm : RdNs w ma mn mc m) (hokm : ∀ x ∈ m, x.Ok) :
    Calls Tryz.prog 40 #[f.val, .slice a nn nc, .slice ma mn mc] w fun e w' => ForkRet f l m e ∧ Below w.heap.size w w' := by
  have I2 := Lib.hid (show ∀ (x y : Value), (Tryz.prog.info? 29).map (·.size) = some (#[x, y] : Array Value).size from fun x y => by kernel_rfl)
  have BO := Lib.hid (fun W hb => both_any f a nn nc l ma mn mc m W (hr.below (show Below w.heap.size w W from hb)) hok (hm.below hb) hokm)
  have HOK := Lib.hid hok
  have hvl : f.val = .agg #[.int .i64 f.rings, .int .i64 f.sectors, .int .i64 f.wide] := rfl
  rw [hvl] at BO ⊢
  clear hvl hr hok hm hokm
  have B0 := Lib.hid (((Below.refl w.heap.size w).alloc (Nat.le_refl _) (.cells #[.int .i64 f.rings, .int .i64 f.sectors, .int .i64 f.wide] 23)).alloc (by simp) (.cells #[.int .i64 0, .int .i64 0] 29))
  have F0 := Lib.hid (heap_before _ (.cells #[.int .i64 0, .int .i64 0] 29) _ _ (heap_last w (.cells #[.int .i64 f.rings, .int .i64 f.sectors, .int .i64 f.wide] 23)))
  have P0 := Lib.hid (heap_at (w.alloc (.cells #[.int .i64 f.rings, .int .i64 f.sectors, .int .i64 f.wide] 23)) (.cells #[.int .i64 0, .int .i64 0] 29) (w.heap.size + 1) (by simp))
  go_enter Tryz.func40, Tryz.ntmps40
  go_upto_region 1 with fail
  obtain ⟨pF, hpF⟩ : ∃ p, Hid (w.heap.size = p) := ⟨_, Lib.hid rfl⟩
  obtain ⟨p4, hp4⟩ : ∃ p, Hid (w.heap.size + 1 = p) := ⟨_, Lib.hid rfl⟩
  have SZ : Hid (w.heap.size ≤ p4) := Lib.hid (by have := hp4.out; omega)
  rw [hpF.out] at F0
  rw [hp4.out] at P0
  rw [hp4.out, hpF.out]
  generalize (w.alloc (.cells #[.int .i64 f.rings, .int .i64 f.sectors, .int .i64 f.wide] 23)).alloc (.cells #[.int .i64 0, .int .i64 0] 29) = W0 at *
  have c0 := cell_of F0.out 0 (.int .i64 f.rings) rfl
  have c1 := cell_of F0.out 1 (.int .i64 f.sectors) rfl
  have c2 := cell_of F0.out 2 (.int .i64 f.wide) rfl
  go_wp2_with fail
  refine (BO.out W0 B0.out).mono ?_
  clear c0 c1 c2
  rintro e W1 ⟨h1, b1⟩
  have B1 := Lib.hid (B0.out.trans (b1.mono B0.out.size))
  have P1 := Lib.hid (below_blk b1 P0.out)
  clear b1 B0 F0 P0
  rcases h1 with ⟨hbad, o1, o2, rfl⟩ | ⟨hs1, hs2, b, xs, c, ys, rfl, sa, sb, hne⟩
  · have CE := Lib.hid (forkV_bad hbad)
    clear hbad
    go_wp2_with (first
      | (refine wpList_store_blkP rfl 29 _ _ rfl p4 #[.int .i64 0, .int .i64 0] #[.int .i64 0, .int .i64 0] 29 rfl rfl P1.out (I2.out _ _) rfl (by simp [Value.oneCell']) ?_; intro w9 hr1 hr2 hr3)
      | fail)
    have HR1 := Lib.hid hr1
    have HR2 := Lib.hid hr2
    clear hr1 hr2 hr3
    refine bodyPost_ret (results_cell_row_tmp rfl _ _ p4 29 #[.int .i64 0, .int .i64 0] (0, 0) _ rfl HR1.out Tryz.underlying29 rfl (I2.out _ _)) rfl ?_
    exact ⟨by unfold ForkRet; rw [CE.out] <;> rfl, B1.out.grown HR2.out B1.out.size (fun q e => by cases e; exact SZ.out)⟩
  · have HS := Lib.hid hs1
    have HS2 := Lib.hid hs2
    have SA := Lib.hid sa
    have SB := Lib.hid sb
    clear hs1 hs2 sa sb hne
    go_wp2_with fail
    refine (fork_any b c l m xs ys W0 W1 SA.out SB.out (set_ok HS.out).2.2.2 (set_nodup (set_ok HS2.out).2.2.2) HOK.out (Nat.le_trans (set_ok HS.out).2.1 (by decide))).mono ?_
    rintro e W2 ⟨rfl, b2⟩
    have B2 := Lib.hid (B1.out.trans (b2.mono B1.out.size))
    have P2 := Lib.hid (below_blk b2 P1.out)
    clear b2 B1 P1
    cases hfk : forkAt l m with
    | none =>
      have CE := Lib.hid (forkV_none HS.out HS2.out hfk)
      have e1 : forkP l m = ((0, 0), false) := by unfold forkP; rw [hfk]
      rw [e1]
      clear e1 hfk
      have bt : Below W2.heap.size W2 (W2.alloc (.cells #[.int .i64 0, .int .i64 0] 29)) := (Below.refl _ _).alloc (Nat.le_refl _) _
      have B3 := Lib.hid (B2.out.trans (bt.mono B2.out.size))
      have P3 := Lib.hid (below_blk bt P2.out)
      go_upto_region 5 with fail
      generalize W2.alloc (.cells #[.int .i64 0, .int .i64 0] 29) = W3 at *
      clear bt B2 P2
      go_wp2_with (first
        | (refine wpList_store_blkP rfl 29 _ _ rfl p4 #[.int .i64 0, .int .i64 0] #[.int .i64 0, .int .i64 0] 29 rfl rfl P3.out (I2.out _ _) rfl (by simp [Value.oneCell']) ?_; intro w9 hr1 hr2 hr3)
        | fail)
      have HR1 := Lib.hid hr1
      have HR2 := Lib.hid hr2
      clear hr1 hr2 hr3
      refine bodyPost_ret (results_cell_row_tmp rfl _ _ p4 29 #[.int .i64 0, .int .i64 0] (0, 0) _ rfl HR1.out Tryz.underlying29 rfl (I2.out _ _)) rfl ?_
      exact ⟨by unfold ForkRet; rw [CE.out] <;> rfl, B3.out.grown HR2.out B3.out.size (fun q e => by cases e; exact SZ.out)⟩
    | some nm =>
      have CE := Lib.hid (forkV_some HS.out HS2.out hfk)
      have e1 : forkP l m = (nm, true) := by unfold forkP; rw [hfk]
      rw [e1]
      clear e1 hfk
      have bt : Below W2.heap.size W2 (W2.alloc (.cells #[.int .i64 nm.1, .int .i64 nm.2] 29)) := (Below.refl _ _).alloc (Nat.le_refl _) _
      have B3 := Lib.hid (B2.out.trans (bt.mono B2.out.size))
      have P3 := Lib.hid (below_blk bt P2.out)
      have Q3 := Lib.hid (heap_last W2 (.cells #[.int .i64 nm.1, .int .i64 nm.2] 29))
      go_upto_region 5 with fail
      obtain ⟨p11, hp11⟩ : ∃ p, Hid (W2.heap.size = p) := ⟨_, Lib.hid rfl⟩
      rw [hp11.out] at Q3 ⊢
      generalize W2.alloc (.cells #[.int .i64 nm.1, .int .i64 nm.2] 29) = W3 at *
      have n0 := cell_of Q3.out 0 (.int .i64 nm.1) rfl
      have n1 := cell_of Q3.out 1 (.int .i64 nm.2) rfl
      clear bt B2 P2
      go_wp2_with (first
        | (refine wpList_store_blkP rfl 29 _ _ rfl p4 #[.int .i64 0, .int .i64 0] #[.int .i64 nm.1, .int .i64 nm.2] 29 rfl rfl P3.out (I2.out _ _) rfl (by simp [Value.oneCell']) ?_; intro w9 hr1 hr2 hr3)
        | fail)
      have HR1 := Lib.hid hr1
      have HR2 := Lib.hid hr2
      clear hr1 hr2 hr3
      refine bodyPost_ret (results_cell_row_tmp rfl _ _ p4 29 #[.int .i64 nm.1, .int .i64 nm.2] (0, 0) _ rfl HR1.out Tryz.underlying29 rfl (I2.out _ _)) rfl ?_
      exact ⟨by unfold ForkRet; rw [CE.out] <;> rfl, B3.out.grown HR2.out B3.out.size (fun q e => by cases e; exact SZ.out)⟩
end Go.Proofs.YtpjiakgfegnmcaaGreat
namespace Go.Proofs.YtpjiakgfegnmcaaGreat
set_option linter.unusedSimpArgs false
open Go.RowKit

set_option maxHeartbeats 16000000 in
set_option maxRecDepth 100000 in
theorem pmerge_any (f : FrV) (a : Option Addr) (nn nc : Nat) (l : List NoteV) (ma : Option Addr) (mn mc : Nat) (m : List NoteV) (w : World) (hr : RdNs w a nn nc l) (hok : ∀ x ∈ l, x.Ok) (hm : RdNs w ma mn mc m) (hokm : ∀ x ∈ m, x.Ok)
    (hlen : (checkSetP f l).1 = 0 → (checkSetP f m).1 = 0 → l.length + m.length ≤ 400) :
    Calls Tryz.prog 38 #[f.val, .slice a nn nc, .slice ma mn mc] w fun e w' => MergeRet f l m e w' ∧ Below w.heap.size w w' := by
  have I43 := Lib.hid (show ∀ (m : NoteV) (a : Option Addr) (c : Nat), (Tryz.prog.info? 51).map (·.size) = some (noteA m a c).size from fun m a c => by kernel_rfl)
  have J2 : (Tryz.prog.info? 29).map (·.size) = some 2 := by kernel_rfl
  have BO := Lib.hid (fun W hb => both_any f a nn nc l ma mn mc m W (hr.below (show Below w.heap.size w W from hb)) hok (hm.below hb) hokm)
  have HOK := Lib.hid hok
  have HOKM := Lib.hid hokm
  have HLEN := Lib.hid hlen
  have hvl : f.val = .agg #[.int .i64 f.rings, .int .i64 f.sectors, .int .i64 f.wide] := rfl
  rw [hvl] at BO ⊢
  clear hvl hr hok hm hokm hlen
  have B0 := Lib.hid ((Below.refl w.heap.size w).alloc (Nat.le_refl _) (.cells #[.int .i64 f.rings, .int .i64 f.sectors, .int .i64 f.wide] 23))
  have F0 := Lib.hid (heap_last w (.cells #[.int .i64 f.rings, .int .i64 f.sectors, .int .i64 f.wide] 23))
  go_enter Tryz.func38, Tryz.ntmps38
  go_upto_region 1 with fail
  obtain ⟨pF, hpF⟩ : ∃ pF, Hid (w.heap.size = pF) := ⟨_, Lib.hid rfl⟩
  rw [hpF.out] at F0 ⊢
  generalize w.alloc (.cells #[.int .i64 f.rings, .int .i64 f.sectors, .int .i64 f.wide] 23) = W0 at *
  have c0 := cell_of F0.out 0 (.int .i64 f.rings) rfl
  have c1 := cell_of F0.out 1 (.int .i64 f.sectors) rfl
  have c2 := cell_of F0.out 2 (.int .i64 f.wide) rfl
  go_wp2_with fail
  refine (BO.out W0 B0.out).mono ?_
  clear c0 c1 c2
  rintro e W1 ⟨h1, b1⟩
  have B1 := Lib.hid (B0.out.trans (b1.mono B0.out.size))
  clear b1 F0
  rcases h1 with ⟨hbad, o1, o2, rfl⟩ | ⟨hs1, hs2, b, xs, c, ys, rfl, sa, sb, hne⟩
  · have HE : Hid (mergeE f l m = 1) := Lib.hid (by unfold mergeE; rw [if_neg hbad])
    clear hbad
    go_wp2_with fail
    go_returns
    exact ⟨.bad (by rw [HE.out] <;> rfl) (by rw [HE.out]; decide), B1.out⟩
  have HS := Lib.hid hs1
  have HS2 := Lib.hid hs2
  have SA := Lib.hid sa
  have SB := Lib.hid sb
  have NE := Lib.hid hne
  have HL4 := Lib.hid (HLEN.out hs1 hs2)
  clear hs1 hs2 sa sb hne
  have PL : Hid (l.Pairwise ltN) := Lib.hid (set_ok HS.out).2.2.2
  have PM : Hid (m.Pairwise ltN) := Lib.hid (set_ok HS2.out).2.2.2
  have NDL : Hid (((xs.map LN.n).map nmOf).Nodup) := Lib.hid (by rw [SA.out.eq]; exact set_nodup PL.out)
  have NDM : Hid (((ys.map LN.n).map nmOf).Nodup) := Lib.hid (by rw [SB.out.eq]; exact set_nodup PM.out)
  go_wp2_with fail
  refine (fork_any b c l m xs ys W0 W1 SA.out SB.out PL.out (set_nodup PM.out) HOK.out (Nat.le_trans (set_ok HS.out).2.1 (by decide))).mono ?_
  rintro e W2 ⟨rfl, b2⟩
  have B2 := Lib.hid (B1.out.trans (b2.mono B1.out.size))
  have SA2 := Lib.hid (SA.out.below b2)
  have SB2 := Lib.hid (SB.out.below b2)
  clear b2 B1 SA SB
  cases hfk : forkAt l m with
  | some nm =>
    have HE : Hid (mergeE f l m = 81) := Lib.hid (by unfold mergeE; rw [if_pos ⟨HS.out, HS2.out⟩, hfk])
    have e1 : forkP l m = (nm, true) := by unfold forkP; rw [hfk]
    rw [e1]
    clear e1 hfk
    go_wp2_with fail
    go_returns
    exact ⟨.bad (by rw [HE.out] <;> rfl) (by rw [HE.out]; decide), B2.out.alloc B2.out.size _⟩
  | none =>
    have HE : Hid (mergeE f l m = 0) := Lib.hid (by unfold mergeE; rw [if_pos ⟨HS.out, HS2.out⟩, hfk])
    have NF : Hid (NoFork (xs.map LN.n) (ys.map LN.n)) := Lib.hid (by rw [SA2.out.eq, SB2.out.eq]; exact forkAt_none.1 hfk)
    have e1 : forkP l m = ((0, 0), false) := by unfold forkP; rw [hfk]
    rw [e1]
    clear e1 hfk
    have bt : Below W2.heap.size W2 (W2.alloc (.cells #[.int .i64 0, .int .i64 0] 29)) := (Below.refl _ _).alloc (Nat.le_refl _) _
    have B3 := Lib.hid (B2.out.trans (bt.mono B2.out.size))
    have SA3 := Lib.hid (SA2.out.below bt)
    have SB3 := Lib.hid (SB2.out.below bt)
    go_upto_region 5 with fail
    generalize W2.alloc (.cells #[.int .i64 0, .int .i64 0] 29) = W3 at *
    clear bt B2 SA2 SB2
    go_wp2_with fail
    refine (mapsCopy_any b l.length c m.length (setF xs) (setF ys) W3 SA3.out.map SB3.out.map NE.out (by have := HL4.out; omega)).mono ?_
    rintro e W4 ⟨rfl, hm4, hs4⟩
    have M4 := Lib.hid hm4
    have B4 : Hid (Below w.heap.size w W4) := Lib.hid (hs4.below B3.out B3.out.size (fun k hk => by subst hk; exact Nat.le_trans B0.out.size SA3.out.ge))
    have OKX : Hid (∀ x ∈ xs, x.ok W4) := Lib.hid (fun x hx => ok_same (SA3.out.ok x hx) hs4 (by obtain ⟨es, cl, h⟩ := SA3.out.map.blk; exact ⟨es, cl, h⟩))
    have OKY : Hid (∀ x ∈ ys, x.ok W4) := Lib.hid (fun x hx => ok_same (SB3.out.ok x hx) hs4 (by obtain ⟨es, cl, h⟩ := SA3.out.map.blk; exact ⟨es, cl, h⟩))
    have HXY : Hid (∀ k x, bothF (setF xs) (setF ys) k = some x → x.ok W4 ∧ nmOk k ∧ x.n.strokes.length ≤ 1000000000) := Lib.hid (fun k x h => by
      unfold bothF at h
      split at h
      · rename_i y hy
        rw [Option.some.inj h] at hy
        obtain ⟨h1, h2⟩ := setF_some hy
        have h3 : x.n ∈ m := by rw [← SB3.out.eq]; exact List.mem_map_of_mem h1
        subst h2
        exact ⟨OKY.out x h1, ⟨(HOKM.out _ h3).house, (HOKM.out _ h3).num⟩, Nat.le_trans (formed_len (set_ok HS2.out).1 ((set_ok HS2.out).2.2.1 _ h3)) (by decide)⟩
      · obtain ⟨h1, h2⟩ := setF_some h
        have h3 : x.n ∈ l := by rw [← SA3.out.eq]; exact List.mem_map_of_mem h1
        subst h2
        exact ⟨OKX.out x h1, ⟨(HOK.out _ h3).house, (HOK.out _ h3).num⟩, Nat.le_trans (formed_len (set_ok HS.out).1 ((set_ok HS.out).2.2.1 _ h3)) (by decide)⟩)
    have EX := Lib.hid SA3.out.eq
    have EY := Lib.hid SB3.out.eq
    clear hm4 hs4 OKX OKY SA3 SB3 B3
    go_upto_region 8 with fail
    go_wp2_with (first
      | (at_len; refine wpList_len_nm rfl _ 89 51 rfl Tryz.underlying89 b (l.length + m.length) rfl M4.out ?_; intro kk hkk; have tkk : decide ((400 : Int) < (kk : Int)) = false := (by have := HL4.out; simp; omega))
      | fail)
    refine (names_any b (l.length + m.length) (bothF (setF xs) (setF ys)) W4 M4.out (by have := HL4.out; omega)).mono ?_
    rintro e W5 ⟨⟨na, nc, ks, rfl, h1, h2, h3, h4, h5⟩, b5⟩
    have RN := Lib.hid (RdA.of_own h1)
    have UU := Lib.hid (show IsU l m ((ks.filterMap (bothF (setF xs) (setF ys))).map LN.n) by
      have := union_of NDL.out NDM.out NF.out h2 h4 h3
      rwa [EX.out, EY.out] at this)
    have HIN := Lib.hid h4
    have HKN : Hid (ks.length ≤ 400) := Lib.hid (Nat.le_trans h5 HL4.out)
    have B5 := Lib.hid (B4.out.trans (b5.mono B4.out.size))
    have M5 := Lib.hid (M4.out.below b5)
    have HX5 := Lib.hid (show ∀ k x, bothF (setF xs) (setF ys) k = some x → x.ok W5 ∧ nmOk k ∧ x.n.strokes.length ≤ 1000000000 from fun k x h => ⟨(HXY.out k x h).1.below b5, (HXY.out k x h).2⟩)
    obtain ⟨F, hF⟩ : ∃ F, Hid (bothF (setF xs) (setF ys) = F) := ⟨_, Lib.hid rfl⟩
    rw [hF.out] at UU HIN M5 HX5
    obtain ⟨kn, hkn⟩ : ∃ kn, Hid (ks.length = kn) := ⟨_, Lib.hid rfl⟩
    rw [hkn.out] at RN HKN ⊢
    clear b5 h1 h2 h3 h4 h5 tkk hkk M4 HXY B4
    go_wp2_with fail
    go_loopw [13, 42] (fun ov iv wr => ∃ (q : Nat) (oa : Option Addr) (on oc : Nat) (zs : List LN), ov = .slice oa on oc ∧ iv = .int .i64 (q : Int) ∧ q ≤ kn ∧ Hid (MgAt W5 wr oa oc on zs) ∧ Hid (zs.map LN.n = ((ks.take q).filterMap F).map LN.n) ∧ on ≤ q) (fun _ iv _ => kn - (intOf iv).toNat)
    case atStart => exact ⟨0, none, 0, 0, [], rfl, rfl, Nat.zero_le _, Lib.hid (MgAt.start _), Lib.hid rfl, Nat.le_refl _⟩
    case round =>
      obtain ⟨q, oa, on, oc, zs, rfl, rfl, hq, MA, HZ, hon⟩ := hrel
      by_cases hlt : q < kn
      · have t0 : decide ((q : Int) < (kn : Int)) = true := by simp; omega
        obtain ⟨k, Hk⟩ : ∃ k, ks[q]? = some k := ⟨_, List.getElem?_eq_getElem (by rw [hkn.out]; exact hlt)⟩
        obtain ⟨y, hy⟩ := Option.isSome_iff_exists.1 (HIN.out k (List.mem_of_getElem? Hk))
        have GY := Lib.hid hy
        have HY := Lib.hid (HX5.out k y hy)
        have HZ2 : Hid (((ks.take (q + 1)).filterMap F).map LN.n = zs.map LN.n ++ [y.n]) := Lib.hid (by
          rw [take_snoc Hk, List.filterMap_append, List.map_append, ← HZ.out, List.filterMap_cons_some hy]; rfl)
        obtain ⟨kb, koff, rfl, hk1, hk2⟩ := nmCells_at (RN.out.below MA.out.bel) Hk
        obtain ⟨o, ho⟩ : ∃ o, Hid (koff + q * 2 = o) := ⟨_, Lib.hid rfl⟩
        rw [ho.out] at hk1 hk2
        have hix := fun W => idx_off (W := W) (c := nc) (b := kb) Tryz.underlying25 J2 hlt ho.out
        have HK64 : Hid ((q : Int) + 1 ≤ 9223372036854775807) := Lib.hid (by have := HKN.out; omega)
        obtain ⟨kh, km⟩ := k
        dsimp only at hk1 hk2
        clear Hk hy
        go_upto_region 14 with fail
        clear t0 hix hk1 hk2
        have bt : Below wr.heap.size wr (wr.alloc (.cells #[.int .i64 kh, .int .i64 km] 29)) := (Below.refl _ _).alloc (Nat.le_refl _) _
        have P7 := Lib.hid (heap_last wr (.cells #[.int .i64 kh, .int .i64 km] 29))
        have MA2 := Lib.hid (MA.out.below bt)
        obtain ⟨p7, hp7⟩ : ∃ p, Hid (wr.heap.size = p) := ⟨_, Lib.hid rfl⟩
        rw [hp7.out] at P7 ⊢
        generalize wr.alloc (.cells #[.int .i64 kh, .int .i64 km] 29) = wt at *
        clear bt MA
        have n0 := cell_of P7.out 0 (.int .i64 kh) rfl
        have n1 := cell_of P7.out 1 (.int .i64 km) rfl
        have hget : (Instr.lookup 89 (.map (some b)) (.agg #[.int .i64 kh, .int .i64 km]) false).run Tryz.prog wt = .ok (.agg (noteA y.n y.sa y.sc)) wt := run_get1_nm (t := 89) (M5.out.below MA2.out.bel) Tryz.underlying89 (zero_note wt) kh km HY.out.2.1 GY.out
        go_wp2_with fail
        refine (copied_any y.n y.sa y.sc wt (HY.out.1.below MA2.out.bel) HY.out.2.2).mono ?_
        rintro e w5 ⟨ta, tc, rfl, hown, b5⟩
        have MA5 := Lib.hid (MA2.out.below b5)
        have HO5 := Lib.hid (own_mono hown MA2.out.bel.size)
        have bn : Below w5.heap.size w5 (w5.alloc (.cells (noteA y.n ta tc) 51)) := (Below.refl _ _).alloc (Nat.le_refl _) _
        obtain ⟨a', c', v9, hrun, ho9, hg9⟩ := run_app_nt (w5.alloc (.cells (noteA y.n ta tc) 51)) W5.heap.size oa on oc _ (own_below MA5.out.own bn) _ 1 1 _ (lit_note w5 y.n ta tc) (y.n.cells_one _ _) (by have := HKN.out; omega) (Nat.le_trans MA5.out.bel.size bn.size)
        have MA9 := Lib.hid (MA5.out.add (x := ⟨y.n, ta, tc⟩) HO5.out ho9 hg9)
        have HZ9 : Hid ((zs ++ [(⟨y.n, ta, tc⟩ : LN)]).map LN.n = ((ks.take (q + 1)).filterMap F).map LN.n) := Lib.hid (by rw [HZ2.out, List.map_append]; rfl)
        clear hown b5 bn ho9 hg9 MA5 HO5 n0 n1 hget MA2
        have hk64 := HK64.out
        go_wp2_with (first
          | (refine wpList_build_note rfl _ rfl y.n ta tc rfl ?_)
          | (refine wpList_append_eq rfl _ _ _ rfl _ _ _ rfl rfl hrun ?_)
          | fail)
        go_roundw
        case rel => exact ⟨q + 1, a', on + 1, c', zs ++ [⟨y.n, ta, tc⟩], by go_num, by go_num, by omega, MA9, HZ9, by omega⟩
        case measure => simp [intOf]; omega
      · have t0 : decide ((q : Int) < (kn : Int)) = false := by simp; omega
        have UZ : Hid (IsU l m (zs.map LN.n)) := Lib.hid (by rw [HZ.out, List.take_of_length_le (by rw [hkn.out]; omega)]; exact UU.out)
        go_wp2_with fail
        go_returns
        exact ⟨.good (by rw [HE.out] <;> rfl) HE.out MA.out.rd UZ.out, B5.out.trans (MA.out.bel.mono B5.out.size)⟩
end Go.Proofs.YtpjiakgfegnmcaaGreat
namespace Go.Proofs.YtpjiakgfegnmcaaGreat
set_option linter.unusedSimpArgs false
set_option linter.unusedVariables false

theorem judge_step (l : List NoteV) (r : NoteV) {k : Nat} {x : NoteV} (h : l[k]? = some x) : judgeP (l.take (k + 1)) r = betterP r (judgeP (l.take k) r) x := by
  unfold judgeP
  rw [take_snoc h, List.foldl_append]
  rfl
theorem better_skip {r x : NoteV} {b : Option NoteV} (hc : candP r x = false) : betterP r b x = b := by
  unfold betterP
  rw [if_neg (by rw [hc]; decide)]
theorem better_first {r x : NoteV} (hc : candP r x = true) : betterP r none x = some x := by
  unfold betterP
  rw [if_pos hc]
def JdgAt (l : List NoteV) (r : NoteV) (k : Nat) (i : Int) : Prop := (i = -1 ∧ judgeP (l.take k) r = none) ∨ ∃ (j : Nat) (x : NoteV), i = (j : Int) ∧ l[j]? = some x ∧ judgeP (l.take k) r = some x
theorem JdgAt.start (l : List NoteV) (r : NoteV) : JdgAt l r 0 (-1) := .inl ⟨rfl, rfl⟩
theorem JdgAt.skip {l : List NoteV} {r x : NoteV} {k : Nat} {i : Int} (h : JdgAt l r k i) (hx : l[k]? = some x) (hc : candP r x = false) : JdgAt l r (k + 1) i := by
  have e : judgeP (l.take (k + 1)) r = judgeP (l.take k) r := by rw [judge_step l r hx, better_skip hc]
  unfold JdgAt
  rw [e]
  exact h
theorem JdgAt.first {l : List NoteV} {r x : NoteV} {k : Nat} {i : Int} (h : JdgAt l r k i) (hi : i < 0) (hx : l[k]? = some x) (hc : candP r x = true) : JdgAt l r (k + 1) (k : Int) := by
  rcases h with ⟨_, h⟩ | ⟨j, y, rfl, _⟩
  · exact .inr ⟨k, x, rfl, hx, by rw [judge_step l r hx, h, better_first hc]⟩
  · omega
def evTo (l : List NoteV) (k : Nat) : List NoteV := sortP ((l.take k).filterMap (countP l))
theorem evTo_none {l : List NoteV} {k : Nat} {x : NoteV} (h : l[k]? = some x) (hc : countP l x = none) : evTo l (k + 1) = evTo l k := by
  unfold evTo
  rw [take_snoc h, List.filterMap_append, List.filterMap_cons_none hc, List.filterMap_nil, List.append_nil]
theorem evTo_len (l : List NoteV) (k : Nat) : (evTo l k).length ≤ k := by
  unfold evTo
  rw [(sortP_perm _).length_eq]
  refine Nat.le_trans (List.length_filterMap_le _ _) ?_
  rw [List.length_take]
  omega
end Go.Proofs.YtpjiakgfegnmcaaGreat
