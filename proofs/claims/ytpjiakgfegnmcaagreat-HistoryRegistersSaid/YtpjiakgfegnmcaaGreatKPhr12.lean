/- The given row HistoryRegisters, proved: whatever the input, true, and the input reads as it did. -/
import Derived.Test.YtpjiakgfegnmcaaGreatRows
import Derived.ProofKit
import Derived.OpenShut
import Derived.Deep.Strs
import Derived.Test.YtpjiakgfegnmcaaGreatKPhr11
set_option linter.unusedSimpArgs false
set_option linter.unusedVariables false
namespace Go.Proofs.YtpjiakgfegnmcaaGreat
open Go.ChangeShapes Go.WideShapes Go.ChangeAt Go.RowKit

theorem Tryz.own : ownKnob Tryz.prog.godebug = none := by kernel_rfl
theorem Tryz.laidOut : laidOutB Tryz.prog = true := by kernel_rfl

/-- All arguments read behind the call as before. -/
theorem below_trodAll {H : Type} {enc : TypeId × Value → H} {P : Program} (hl : laidOutB P = true) {W W' : World} (hb : Below W.heap.size W W') :
    ∀ (ts : List TypeId) {vs : List Value} {ds : List (DataW H)} {ps : List MemPlace}, ts.all (fun t => P.readableRec t && decide (t < P.types.size)) = true → (∀ x ∈ ps, x.block < W.heap.size) →
      DataW.TrodAll enc P W 0 (fun _ => true) true ts vs ds ps → DataW.TrodAll enc P W' 0 (fun b => decide (b < W.heap.size)) true ts vs ds ps
  | [], [], [], _, _, _, h => h
  | [], _ :: _, _, _, _, _, h => h.elim
  | [], [], _ :: _, _, _, _, h => h.elim
  | _ :: _, [], _, _, _, _, h => h.elim
  | _ :: _, _ :: _, [], _, _, _, h => h.elim
  | t :: ts, v :: vs, d :: ds, ps, hr, hlt, h => by
    obtain ⟨p, q, h1, h2, rfl⟩ := h
    simp only [List.all_cons, Bool.and_eq_true, decide_eq_true_eq] at hr
    exact ⟨p, q, Below.trod hl hr.1.1 hr.1.2 h1 hb (fun x hx => hlt x (List.mem_append_left _ hx)), below_trodAll hl hb ts hr.2 (fun x hx => hlt x (List.mem_append_right _ hx)) h2, rfl⟩

/-- The row's end: the value true; the arguments as they were. -/
theorem post_of_law {H : Type} {enc : TypeId × Value → H} {P : Program} (hl : laidOutB P = true) {t : TypeId} (ht : P.underlying t = some .bool) {f : Func} {s : ChangeSpec} {W W' : World} {args : Array Value} {ds : List (DataW H)} {ps : List MemPlace}
    (hv : s.vars = []) (hf : f.resultTypes = #[t]) (hr : f.params.toList.all (fun t => P.readableRec t && decide (t < P.types.size)) = true)
    (hW : DataW.Whole enc P f.params.toList s.vars false W args.toList ds [] ps) (hA : DataW.TrodAll enc P W 0 (fun _ => true) true f.params.toList args.toList ds ps)
    (hs : s.fn H (ds ++ []) = { results := [.lit (.bool true)], args := ds }) (hb : Below W.heap.size W W') : s.post enc P f false true false false W args (.bool true) W' := by
  refine ⟨ds, [], ps, [], ps, [], hW, ?_, ?_, ?_, hb.frame _, fun h => by cases h⟩
  · rw [hs, hf]
    exact trodAll_mk1 (shut_bool ht _)
  · rw [hs]
    exact below_trodAll hl hb _ hr hW.lt hA
  · rw [hs, hv]
    rfl

end Go.Proofs.YtpjiakgfegnmcaaGreat
namespace Go.Proofs.YtpjiakgfegnmcaaGreat
open Go.ChangeShapes Go.WideShapes Go.ChangeAt Go.RowKit

theorem i64_of_wf {x : Int} (h : (Lit.int .i64 x).wf = true) : I64 x := by
  simp [Lit.wf, IntKind.min, IntKind.max, IntKind.signed, IntKind.bits] at h
  unfold I64
  omega
theorem Tryz.cells3 : Tryz.prog.cellsOf 3 = 1 := by kernel_rfl
theorem Tryz.cells38 : Tryz.prog.cellsOf 38 = 1 := by kernel_rfl
theorem Tryz.cells49 : Tryz.prog.cellsOf 49 = 2 := by kernel_rfl
theorem Tryz.cells29 : Tryz.prog.cellsOf 29 = 2 := by kernel_rfl
theorem Tryz.cells51 : Tryz.prog.cellsOf 51 = 19 := by kernel_rfl

section
variable {H : Type} {enc : TypeId × Value → H} {W : World} {fuel : Nat}

/-- One slice of ints, as a reading finds it. -/
theorem open_ri1 {cs : List Value} {y : DataW H × List MemPlace} (h : DataW.trod enc Tryz.prog W 0 (fun _ => true) true fuel 38 cs = some y) : ∃ a c l, cs = [.slice a l.length c] ∧ RdI W a l.length c l ∧ ∀ z ∈ l, I64 z := by
  rcases open_ints Tryz.underlying38 Tryz.underlying3 Tryz.cells3 h with ⟨hcs, hx⟩ | ⟨a, n, c, zs, hcs, _, hl, hm, hz, hx, hcell, hwz⟩
  · exact ⟨none, 0, [], hcs, RdA.nil _ _, fun z hz => by cases hz⟩
  · simp only [if_true] at hz
    have hlen : (zs.take n).length = n := by rw [List.length_take]; omega
    refine ⟨some a, c, zs.take n, by rw [hlen]; exact hcs, ⟨by simp, by omega, hm, ?_⟩, fun z hz => i64_of_wf (hwz z (List.mem_of_mem_take hz))⟩
    by_cases hc0 : c = 0
    · exact .inl hc0
    · obtain ⟨ab, ao, spot⟩ := a
      have hspot : spot = none := by simpa [Addr.add] using World.cell?_spot (hcell 0 (by omega))
      subst hspot
      refine .inr ⟨ab, ao, rfl, fun i x hx => ?_⟩
      rw [List.getElem?_map, List.getElem?_take] at hx
      split at hx
      · rename_i hi
        have hiz : i < zs.length := by omega
        rw [List.getElem?_eq_getElem hiz, Option.map_some] at hx
        simp only [Option.some.injEq] at hx
        subst hx
        have hc := hcell i hiz
        rw [Addr.add_lit] at hc
        rw [hc, List.getD_eq_getElem?_getD, List.getElem?_eq_getElem hiz]
        rfl
      · cases hx
theorem get_some {α : Type} {xs : List α} {n i : Nat} (h : xs.length = n) (hi : i < n) : ∃ y, xs[i]? = some y := ⟨xs[i]'(by omega), List.getElem?_eq_getElem (by omega)⟩
set_option maxRecDepth 100000 in
/-- Two ints. -/
theorem open_two {t : TypeId} {cs : List Value} {y : DataW H × List MemPlace} {f0 f1 : Field} (ht : Tryz.prog.underlying t = some (.struct #[f0, f1])) (h0 : f0.type = 3) (h1 : f1.type = 3) (o0 : f0.offset = 0) (o1 : f1.offset = 1) (hc : Tryz.prog.cellsOf t = 2)
    (h : DataW.trod enc Tryz.prog W 0 (fun _ => true) true fuel t cs = some y) : ∃ x z, cs = [.int .i64 x, .int .i64 z] ∧ I64 x ∧ I64 z := by
  obtain ⟨y0, y1, n, _, hl, g0, g1⟩ := trod_struct2 ht h
  rw [hc] at hl
  match cs, hl with
  | [c0, c1], _ =>
    rw [h0, o0, Tryz.cells3] at g0
    rw [h1, o1, Tryz.cells3] at g1
    obtain ⟨x, a0, _, b0⟩ := DataW.trod_int Tryz.underlying3 g0
    obtain ⟨z, a1, _, b1⟩ := DataW.trod_int Tryz.underlying3 g1
    simp at a0 a1
    exact ⟨x, z, by rw [a0, a1], i64_of_wf b0, i64_of_wf b1⟩

set_option maxHeartbeats 1000000 in
set_option maxRecDepth 100000 in
theorem open_note1 {cs : List Value} {y : DataW H × List MemPlace} (h : DataW.trod enc Tryz.prog W 0 (fun _ => true) true fuel 51 cs = some y) : ∃ n : NoteV, RdNote W cs n := by
  obtain ⟨xs, m, _, _, hl, hlen, hf⟩ := DataW.trod_struct Tryz.underlying51 h
  rw [Tryz.cells51] at hl
  match cs, hl with
  | [c0, c1, c2, c3, c4, c5, c6, c7, c8, c9, c10, c11, c12, c13, c14, c15, c16, c17, c18], _ =>
    obtain ⟨y0, e0⟩ := get_some hlen (i := 0) (by decide)
    have g0 : DataW.trod enc Tryz.prog W 0 (fun _ => true) true m 3 (([c0, c1, c2, c3, c4, c5, c6, c7, c8, c9, c10, c11, c12, c13, c14, c15, c16, c17, c18].drop 0).take (Tryz.prog.cellsOf 3)) = some y0 := (hf 0 _ rfl).trans e0
    rw [Tryz.cells3] at g0
    obtain ⟨x0, a0, _, b0⟩ := DataW.trod_int Tryz.underlying3 g0
    simp at a0
    clear e0 g0
    obtain ⟨y1, e1⟩ := get_some hlen (i := 1) (by decide)
    have g1 : DataW.trod enc Tryz.prog W 0 (fun _ => true) true m 3 (([c0, c1, c2, c3, c4, c5, c6, c7, c8, c9, c10, c11, c12, c13, c14, c15, c16, c17, c18].drop 1).take (Tryz.prog.cellsOf 3)) = some y1 := (hf 1 _ rfl).trans e1
    rw [Tryz.cells3] at g1
    obtain ⟨x1, a1, _, b1⟩ := DataW.trod_int Tryz.underlying3 g1
    simp at a1
    clear e1 g1
    obtain ⟨y2, e2⟩ := get_some hlen (i := 2) (by decide)
    have g2 : DataW.trod enc Tryz.prog W 0 (fun _ => true) true m 3 (([c0, c1, c2, c3, c4, c5, c6, c7, c8, c9, c10, c11, c12, c13, c14, c15, c16, c17, c18].drop 2).take (Tryz.prog.cellsOf 3)) = some y2 := (hf 2 _ rfl).trans e2
    rw [Tryz.cells3] at g2
    obtain ⟨x2, a2, _, b2⟩ := DataW.trod_int Tryz.underlying3 g2
    simp at a2
    clear e2 g2
    obtain ⟨y3, e3⟩ := get_some hlen (i := 3) (by decide)
    have g3 : DataW.trod enc Tryz.prog W 0 (fun _ => true) true m 3 (([c0, c1, c2, c3, c4, c5, c6, c7, c8, c9, c10, c11, c12, c13, c14, c15, c16, c17, c18].drop 3).take (Tryz.prog.cellsOf 3)) = some y3 := (hf 3 _ rfl).trans e3
    rw [Tryz.cells3] at g3
    obtain ⟨x3, a3, _, b3⟩ := DataW.trod_int Tryz.underlying3 g3
    simp at a3
    clear e3 g3
    obtain ⟨y4, e4⟩ := get_some hlen (i := 4) (by decide)
    have g4 : DataW.trod enc Tryz.prog W 0 (fun _ => true) true m 3 (([c0, c1, c2, c3, c4, c5, c6, c7, c8, c9, c10, c11, c12, c13, c14, c15, c16, c17, c18].drop 4).take (Tryz.prog.cellsOf 3)) = some y4 := (hf 4 _ rfl).trans e4
    rw [Tryz.cells3] at g4
    obtain ⟨x4, a4, _, b4⟩ := DataW.trod_int Tryz.underlying3 g4
    simp at a4
    clear e4 g4
    obtain ⟨y5, e5⟩ := get_some hlen (i := 5) (by decide)
    have g5 : DataW.trod enc Tryz.prog W 0 (fun _ => true) true m 3 (([c0, c1, c2, c3, c4, c5, c6, c7, c8, c9, c10, c11, c12, c13, c14, c15, c16, c17, c18].drop 5).take (Tryz.prog.cellsOf 3)) = some y5 := (hf 5 _ rfl).trans e5
    rw [Tryz.cells3] at g5
    obtain ⟨x5, a5, _, b5⟩ := DataW.trod_int Tryz.underlying3 g5
    simp at a5
    clear e5 g5
    obtain ⟨y6, e6⟩ := get_some hlen (i := 6) (by decide)
    have g6 : DataW.trod enc Tryz.prog W 0 (fun _ => true) true m 3 (([c0, c1, c2, c3, c4, c5, c6, c7, c8, c9, c10, c11, c12, c13, c14, c15, c16, c17, c18].drop 6).take (Tryz.prog.cellsOf 3)) = some y6 := (hf 6 _ rfl).trans e6
    rw [Tryz.cells3] at g6
    obtain ⟨x6, a6, _, b6⟩ := DataW.trod_int Tryz.underlying3 g6
    simp at a6
    clear e6 g6
    obtain ⟨y7, e7⟩ := get_some hlen (i := 7) (by decide)
    have g7 : DataW.trod enc Tryz.prog W 0 (fun _ => true) true m 3 (([c0, c1, c2, c3, c4, c5, c6, c7, c8, c9, c10, c11, c12, c13, c14, c15, c16, c17, c18].drop 7).take (Tryz.prog.cellsOf 3)) = some y7 := (hf 7 _ rfl).trans e7
    rw [Tryz.cells3] at g7
    obtain ⟨x7, a7, _, b7⟩ := DataW.trod_int Tryz.underlying3 g7
    simp at a7
    clear e7 g7
    obtain ⟨y8, e8⟩ := get_some hlen (i := 8) (by decide)
    have g8 : DataW.trod enc Tryz.prog W 0 (fun _ => true) true m 49 (([c0, c1, c2, c3, c4, c5, c6, c7, c8, c9, c10, c11, c12, c13, c14, c15, c16, c17, c18].drop 8).take (Tryz.prog.cellsOf 49)) = some y8 := (hf 8 _ rfl).trans e8
    rw [Tryz.cells49] at g8
    obtain ⟨x8, z8, a8, b8, d8⟩ := open_two Tryz.underlying49 rfl rfl rfl rfl Tryz.cells49 g8
    simp at a8
    clear e8 g8
    obtain ⟨y9, e9⟩ := get_some hlen (i := 9) (by decide)
    have g9 : DataW.trod enc Tryz.prog W 0 (fun _ => true) true m 49 (([c0, c1, c2, c3, c4, c5, c6, c7, c8, c9, c10, c11, c12, c13, c14, c15, c16, c17, c18].drop 10).take (Tryz.prog.cellsOf 49)) = some y9 := (hf 9 _ rfl).trans e9
    rw [Tryz.cells49] at g9
    obtain ⟨x9, z9, a9, b9, d9⟩ := open_two Tryz.underlying49 rfl rfl rfl rfl Tryz.cells49 g9
    simp at a9
    clear e9 g9
    obtain ⟨y10, e10⟩ := get_some hlen (i := 10) (by decide)
    have g10 : DataW.trod enc Tryz.prog W 0 (fun _ => true) true m 3 (([c0, c1, c2, c3, c4, c5, c6, c7, c8, c9, c10, c11, c12, c13, c14, c15, c16, c17, c18].drop 12).take (Tryz.prog.cellsOf 3)) = some y10 := (hf 10 _ rfl).trans e10
    rw [Tryz.cells3] at g10
    obtain ⟨x10, a10, _, b10⟩ := DataW.trod_int Tryz.underlying3 g10
    simp at a10
    clear e10 g10
    obtain ⟨y11, e11⟩ := get_some hlen (i := 11) (by decide)
    have g11 : DataW.trod enc Tryz.prog W 0 (fun _ => true) true m 3 (([c0, c1, c2, c3, c4, c5, c6, c7, c8, c9, c10, c11, c12, c13, c14, c15, c16, c17, c18].drop 13).take (Tryz.prog.cellsOf 3)) = some y11 := (hf 11 _ rfl).trans e11
    rw [Tryz.cells3] at g11
    obtain ⟨x11, a11, _, b11⟩ := DataW.trod_int Tryz.underlying3 g11
    simp at a11
    clear e11 g11
    obtain ⟨y12, e12⟩ := get_some hlen (i := 12) (by decide)
    have g12 : DataW.trod enc Tryz.prog W 0 (fun _ => true) true m 3 (([c0, c1, c2, c3, c4, c5, c6, c7, c8, c9, c10, c11, c12, c13, c14, c15, c16, c17, c18].drop 14).take (Tryz.prog.cellsOf 3)) = some y12 := (hf 12 _ rfl).trans e12
    rw [Tryz.cells3] at g12
    obtain ⟨x12, a12, _, b12⟩ := DataW.trod_int Tryz.underlying3 g12
    simp at a12
    clear e12 g12
    obtain ⟨y13, e13⟩ := get_some hlen (i := 13) (by decide)
    have g13 : DataW.trod enc Tryz.prog W 0 (fun _ => true) true m 38 (([c0, c1, c2, c3, c4, c5, c6, c7, c8, c9, c10, c11, c12, c13, c14, c15, c16, c17, c18].drop 15).take (Tryz.prog.cellsOf 38)) = some y13 := (hf 13 _ rfl).trans e13
    rw [Tryz.cells38] at g13
    obtain ⟨sa, sc, l, a13, r13, b13⟩ := open_ri1 g13
    simp at a13
    clear e13 g13
    obtain ⟨y14, e14⟩ := get_some hlen (i := 14) (by decide)
    have g14 : DataW.trod enc Tryz.prog W 0 (fun _ => true) true m 29 (([c0, c1, c2, c3, c4, c5, c6, c7, c8, c9, c10, c11, c12, c13, c14, c15, c16, c17, c18].drop 16).take (Tryz.prog.cellsOf 29)) = some y14 := (hf 14 _ rfl).trans e14
    rw [Tryz.cells29] at g14
    obtain ⟨x14, z14, a14, b14, d14⟩ := open_two Tryz.underlying29 rfl rfl rfl rfl Tryz.cells29 g14
    simp at a14
    clear e14 g14
    obtain ⟨y15, e15⟩ := get_some hlen (i := 15) (by decide)
    have g15 : DataW.trod enc Tryz.prog W 0 (fun _ => true) true m 3 (([c0, c1, c2, c3, c4, c5, c6, c7, c8, c9, c10, c11, c12, c13, c14, c15, c16, c17, c18].drop 18).take (Tryz.prog.cellsOf 3)) = some y15 := (hf 15 _ rfl).trans e15
    rw [Tryz.cells3] at g15
    obtain ⟨x15, a15, _, b15⟩ := DataW.trod_int Tryz.underlying3 g15
    simp at a15
    clear e15 g15
    exact ⟨{ house := x0, num := x1, clock := x2, day := x3, kind := x4, stone := x5, heap := x6, turns := x7, hardLo := x8, hardHi := z8, diffLo := x9, diffHi := z9, a := x10, b := x11, ring := x12, strokes := l, refH := x14, refN := z14, fix := x15 }, sa, sc, by simp only [NoteV.cells]; rw [a0, a1, a2, a3, a4, a5, a6, a7, a8.1, a8.2, a9.1, a9.2, a10, a11, a12, a13, a14.1, a14.2, a15], r13, { house := i64_of_wf b0, num := i64_of_wf b1, clock := i64_of_wf b2, day := i64_of_wf b3, kind := i64_of_wf b4, stone := i64_of_wf b5, heap := i64_of_wf b6, turns := i64_of_wf b7, hardLo := b8, hardHi := d8, diffLo := b9, diffHi := d9, a := i64_of_wf b10, b := i64_of_wf b11, ring := i64_of_wf b12, strokes := b13, refH := b14, refN := d14, fix := i64_of_wf b15 }⟩
end
end Go.Proofs.YtpjiakgfegnmcaaGreat
namespace Go.Proofs.YtpjiakgfegnmcaaGreat
open Go.ChangeShapes Go.WideShapes Go.ChangeAt Go.RowKit

theorem Tryz.cells23 : Tryz.prog.cellsOf 23 = 3 := by kernel_rfl
section
variable {H : Type} {enc : TypeId × Value → H} {W : World}
set_option maxRecDepth 100000 in
theorem hopen_frame {base : Nat} {v : Value} {d : DataW H} {p : List MemPlace} (hval : Value.okWide Tryz.prog W .any base 23 v)
    (h : DataW.Trod enc Tryz.prog W 0 (fun _ => true) true 23 v d p) : ∃ f : FrV, v = f.val := by
  obtain ⟨cs, rfl, hsz⟩ := okWide_struct Tryz.underlying23 hval
  obtain ⟨fuel, hf⟩ := h
  obtain ⟨y0, y1, y2, n, _, hl, g0, g1, g2⟩ := Go.Deep.trod_struct3 Tryz.underlying23 hf
  rw [Tryz.cells23] at hsz
  obtain ⟨l⟩ := cs
  match l, hsz with
  | [c0, c1, c2], _ =>
    have g0' : DataW.trod enc Tryz.prog W 0 (fun _ => true) true n 3 (([c0, c1, c2].drop 0).take (Tryz.prog.cellsOf 3)) = some y0 := g0
    have g1' : DataW.trod enc Tryz.prog W 0 (fun _ => true) true n 3 (([c0, c1, c2].drop 1).take (Tryz.prog.cellsOf 3)) = some y1 := g1
    have g2' : DataW.trod enc Tryz.prog W 0 (fun _ => true) true n 3 (([c0, c1, c2].drop 2).take (Tryz.prog.cellsOf 3)) = some y2 := g2
    rw [Tryz.cells3] at g0' g1' g2'
    obtain ⟨x0, a0, _, _⟩ := DataW.trod_int Tryz.underlying3 g0'
    obtain ⟨x1, a1, _, _⟩ := DataW.trod_int Tryz.underlying3 g1'
    obtain ⟨x2, a2, _, _⟩ := DataW.trod_int Tryz.underlying3 g2'
    simp at a0 a1 a2
    exact ⟨⟨x0, x1, x2⟩, by rw [a0, a1, a2]; rfl⟩
theorem cells_spot {a : Addr} {n : Nat} {cs : List Value} (hn : 0 < n) (h : W.cells? 0 a n = some cs) : a.spot = none := by
  have h2 := World.cells?_some h
  have h3 := h2.2.2 0 (by have := h2.1; omega)
  rw [List.getElem?_eq_getElem (by have := h2.1; omega)] at h3
  simpa [Addr.add] using World.cell?_spot h3
/-- A slice as a reading finds it: each element is read. -/
theorem open_rows {fuel : Nat} {cs : List Value} {y : DataW H × List MemPlace} {t e : TypeId} {k : Nat} (ht : Tryz.prog.underlying t = some (.slice e)) (hc : Tryz.prog.cellsOf e = k) (hk : 0 < k)
    (h : DataW.trod enc Tryz.prog W 0 (fun _ => true) true fuel t cs = some y) :
    ∃ a n c, cs = [.slice a n c] ∧ n ≤ c ∧ c ≤ maxLen ∧ (c = 0 ∨ ∃ b off, a = some ⟨b, off, none⟩ ∧ ∀ i, i < n → ∃ es m z, DataW.trod enc Tryz.prog W 0 (fun _ => true) true m e es = some z ∧ W.rangeAt b (off + i * k) es) := by
  rcases DataW.trod_slice ht h with ⟨hcs, hx⟩ | ⟨a, len', cap', elems, rest, m, _, hcs, hx, hb, hl, hm, hlen, hel, hsp, hns⟩
  · exact ⟨none, 0, 0, hcs, Nat.le_refl _, Nat.zero_le _, .inl rfl⟩
  · rw [hc] at hel hsp
    refine ⟨some a, len', cap', hcs, hl, hm, ?_⟩
    rcases Nat.eq_zero_or_pos cap' with h0 | h0
    · exact .inl h0
    · have hspot : a.spot = none := by
        rcases Nat.eq_zero_or_pos len' with h1 | h1
        · obtain ⟨h2, h3⟩ := hsp rfl
          have h4 := h3 0 (by omega)
          rw [List.getElem?_eq_getElem (by omega)] at h4
          cases hq : W.cells? 0 (a.add ((len' + 0) * k)) k with
          | none => rw [hq] at h4; cases h4
          | some cs => rw [show (len' + 0) * k = 0 by rw [h1]; simp] at hq; have := cells_spot hk hq; simpa [Addr.add] using this
        · have h4 := hel 0 h1
          rw [List.getElem?_eq_getElem (by omega)] at h4
          cases hq : W.cells? 0 (a.add (0 * k)) k with
          | none => rw [hq] at h4; cases h4
          | some cs => rw [Nat.zero_mul] at hq; have := cells_spot hk hq; simpa [Addr.add] using this
      obtain ⟨ab, ao, spot⟩ := a
      simp only at hspot
      subst hspot
      refine .inr ⟨ab, ao, rfl, fun i hi => ?_⟩
      have h1 := hel i hi
      rw [List.getElem?_eq_getElem (by omega)] at h1
      cases hcs : W.cells? 0 ((⟨ab, ao, none⟩ : Addr).add (i * k)) k with
      | none => rw [hcs] at h1; cases h1
      | some es =>
        rw [hcs] at h1
        have h2 := World.cells?_some hcs
        refine ⟨es, m, _, h1, fun j v hv => ?_⟩
        have hj : j < es.length := (List.getElem?_eq_some_iff.1 hv).1
        have h3 := h2.2.2 j (by have := h2.1; omega)
        rw [hv] at h3
        simpa [Addr.add_lit] using h3
theorem choose_list {α : Type} {n : Nat} {P : Nat → α → Prop} (h : ∀ i, i < n → ∃ x, P i x) : ∃ l : List α, l.length = n ∧ ∀ i x, l[i]? = some x → P i x := by
  induction n with
  | zero => exact ⟨[], rfl, by simp⟩
  | succ n ih =>
    obtain ⟨l, h1, h2⟩ := ih (fun i hi => h i (by omega))
    obtain ⟨x, hx⟩ := h n (by omega)
    refine ⟨l ++ [x], by simp [h1], fun i y hy => ?_⟩
    rcases Nat.lt_or_ge i l.length with hi | hi
    · rw [List.getElem?_append_left hi] at hy; exact h2 i y hy
    · rw [List.getElem?_append_right hi] at hy
      have : i - l.length = 0 := by
        rcases Nat.eq_zero_or_pos (i - l.length) with h0 | h0
        · exact h0
        · rw [List.getElem?_eq_none (by simp; omega)] at hy; cases hy
      rw [this] at hy
      simp at hy
      subst hy
      have : i = n := by omega
      rw [this]; exact hx
set_option maxRecDepth 100000 in
theorem open_notes1 {fuel : Nat} {cs : List Value} {y : DataW H × List MemPlace} (h : DataW.trod enc Tryz.prog W 0 (fun _ => true) true fuel 43 cs = some y) : ∃ a n c l, cs = [.slice a n c] ∧ RdNs W a n c l ∧ ∀ x ∈ l, x.Ok := by
  obtain ⟨a, n, c, rfl, h1, h2, h3⟩ := open_rows Tryz.underlying43 Tryz.cells51 (by decide) h
  rcases h3 with h3 | ⟨b, off, rfl, h3⟩
  · exact ⟨a, n, c, [], rfl, ⟨by simp; omega, h1, h2, .inl h3⟩, fun x hx => by cases hx⟩
  · obtain ⟨l, h4, h5⟩ := choose_list (P := fun i (x : NoteV) => ∃ es, W.rangeAt b (off + i * 19) es ∧ RdNote W es x) (fun i hi => by
      obtain ⟨es, m, z, h6, h7⟩ := h3 i hi
      obtain ⟨x, hx⟩ := open_note1 h6
      exact ⟨x, es, h7, hx⟩)
    refine ⟨_, n, c, l, rfl, ⟨h4, h1, h2, .inr ⟨b, off, rfl, fun i x hx => ?_⟩⟩, fun x hx => ?_⟩
    · obtain ⟨es, h6, sa, sc, rfl, h7, _⟩ := h5 i x hx
      exact ⟨sa, sc, h6, h7⟩
    · obtain ⟨i, hi⟩ := List.getElem?_of_mem hx
      obtain ⟨es, h6, sa, sc, rfl, _, h7⟩ := h5 i x hi
      exact h7
set_option maxRecDepth 100000 in
theorem open_notes {base : Nat} {v : Value} {d : DataW H} {p : List MemPlace} (hval : Value.okWide Tryz.prog W .any base 43 v)
    (h : DataW.Trod enc Tryz.prog W 0 (fun _ => true) true 43 v d p) : ∃ a n c l, v = .slice a n c ∧ RdNs W a n c l ∧ ∀ x ∈ l, x.Ok := by
  obtain ⟨a1, n1, c1, rfl⟩ := okWide_slice Tryz.underlying43 hval
  obtain ⟨fuel, hf⟩ := h
  obtain ⟨a, n, c, l, h1, h2⟩ := open_notes1 hf
  simp [Value.cells] at h1
  obtain ⟨rfl, rfl, rfl⟩ := h1
  exact ⟨_, _, _, l, rfl, h2⟩
end
end Go.Proofs.YtpjiakgfegnmcaaGreat
namespace Go.Proofs.YtpjiakgfegnmcaaGreat
open Go.ChangeShapes Go.WideShapes Go.ChangeAt Go.RowKit

/-- What is asked. -/
structure AskV where
  day : Int
  clock : Int
  stone : Int
  ring : Int
  heap : Int
  rh : Int
  rn : Int
def AskV.cells (x : AskV) : Array Value := #[.int .i64 x.day, .int .i64 x.clock, .int .i64 x.stone, .int .i64 x.ring, .int .i64 x.heap, .int .i64 x.rh, .int .i64 x.rn]
structure AskV.Ok (x : AskV) : Prop where
  day : I64 x.day
  clock : I64 x.clock
  ref : nmOk (x.rh, x.rn)
theorem Tryz.cells31 : Tryz.prog.cellsOf 31 = 7 := by kernel_rfl
section
variable {H : Type} {enc : TypeId × Value → H} {W : World}
set_option maxHeartbeats 1000000 in
set_option maxRecDepth 100000 in
theorem open_ask {base : Nat} {v : Value} {d : DataW H} {p : List MemPlace} (hval : Value.okWide Tryz.prog W .any base 31 v)
    (h : DataW.Trod enc Tryz.prog W 0 (fun _ => true) true 31 v d p) : ∃ x : AskV, v = .agg x.cells ∧ x.Ok := by
  obtain ⟨cs, rfl, hsz⟩ := okWide_struct Tryz.underlying31 hval
  obtain ⟨fuel, hf0⟩ := h
  obtain ⟨xs, m, _, _, hl, hlen, hf⟩ := DataW.trod_struct Tryz.underlying31 hf0
  rw [Tryz.cells31] at hsz
  obtain ⟨l⟩ := cs
  match l, hsz with
  | [c0, c1, c2, c3, c4, c5, c6], _ =>
    obtain ⟨y0, e0⟩ := get_some hlen (i := 0) (by decide)
    have g0 : DataW.trod enc Tryz.prog W 0 (fun _ => true) true m 3 (([c0, c1, c2, c3, c4, c5, c6].drop 0).take (Tryz.prog.cellsOf 3)) = some y0 := (hf 0 _ rfl).trans e0
    rw [Tryz.cells3] at g0
    obtain ⟨x0, a0, _, b0⟩ := DataW.trod_int Tryz.underlying3 g0
    simp at a0
    clear e0 g0
    obtain ⟨y1, e1⟩ := get_some hlen (i := 1) (by decide)
    have g1 : DataW.trod enc Tryz.prog W 0 (fun _ => true) true m 3 (([c0, c1, c2, c3, c4, c5, c6].drop 1).take (Tryz.prog.cellsOf 3)) = some y1 := (hf 1 _ rfl).trans e1
    rw [Tryz.cells3] at g1
    obtain ⟨x1, a1, _, b1⟩ := DataW.trod_int Tryz.underlying3 g1
    simp at a1
    clear e1 g1
    obtain ⟨y2, e2⟩ := get_some hlen (i := 2) (by decide)
    have g2 : DataW.trod enc Tryz.prog W 0 (fun _ => true) true m 3 (([c0, c1, c2, c3, c4, c5, c6].drop 2).take (Tryz.prog.cellsOf 3)) = some y2 := (hf 2 _ rfl).trans e2
    rw [Tryz.cells3] at g2
    obtain ⟨x2, a2, _, b2⟩ := DataW.trod_int Tryz.underlying3 g2
    simp at a2
    clear e2 g2
    obtain ⟨y3, e3⟩ := get_some hlen (i := 3) (by decide)
    have g3 : DataW.trod enc Tryz.prog W 0 (fun _ => true) true m 3 (([c0, c1, c2, c3, c4, c5, c6].drop 3).take (Tryz.prog.cellsOf 3)) = some y3 := (hf 3 _ rfl).trans e3
    rw [Tryz.cells3] at g3
    obtain ⟨x3, a3, _, b3⟩ := DataW.trod_int Tryz.underlying3 g3
    simp at a3
    clear e3 g3
    obtain ⟨y4, e4⟩ := get_some hlen (i := 4) (by decide)
    have g4 : DataW.trod enc Tryz.prog W 0 (fun _ => true) true m 3 (([c0, c1, c2, c3, c4, c5, c6].drop 4).take (Tryz.prog.cellsOf 3)) = some y4 := (hf 4 _ rfl).trans e4
    rw [Tryz.cells3] at g4
    obtain ⟨x4, a4, _, b4⟩ := DataW.trod_int Tryz.underlying3 g4
    simp at a4
    clear e4 g4
    obtain ⟨y5, e5⟩ := get_some hlen (i := 5) (by decide)
    have g5 : DataW.trod enc Tryz.prog W 0 (fun _ => true) true m 29 (([c0, c1, c2, c3, c4, c5, c6].drop 5).take (Tryz.prog.cellsOf 29)) = some y5 := (hf 5 _ rfl).trans e5
    rw [Tryz.cells29] at g5
    obtain ⟨x5, z5, a5, b5, d5⟩ := open_two Tryz.underlying29 rfl rfl rfl rfl Tryz.cells29 g5
    simp at a5
    exact ⟨⟨x0, x1, x2, x3, x4, x5, z5⟩, by rw [a0, a1, a2, a3, a4, a5.1, a5.2]; rfl, ⟨i64_of_wf b0, i64_of_wf b1, ⟨b5, d5⟩⟩⟩
end
end Go.Proofs.YtpjiakgfegnmcaaGreat
namespace Go.Proofs.YtpjiakgfegnmcaaGreat
set_option linter.unusedSimpArgs false
open Go.RowKit

/-- What stands through HistoryRegisters. -/
structure HrAt (w W : World) (pA pR : Nat) (x : AskV) (ha : Option Addr) (hn hc : Nat) (ea : Option Addr) (en ec : Nat) (ca : Option Addr) (cn cc : Nat) (hs es : List EvV) (cs : List Nm) : Prop where
  bel : Below w.heap.size w W
  ak : W.heap[pA]? = some (.cells #[.int .i64 x.day, .int .i64 x.clock, .int .i64 x.stone, .int .i64 x.ring, .int .i64 x.heap, .int .i64 x.rh, .int .i64 x.rn] 31 (0, 0))
  rg : W.heap[pR]? = some (.cells #[.slice ha hn hc, .slice ea en ec, .slice ca cn cc] 27 (0, 0))
  r1 : RdA W 21 ha hn hc (evCells hs)
  r2 : RdA W 21 ea en ec (evCells es)
  r3 : RdA W 2 ca cn cc (nmCells cs)
theorem HrAt.below {w W W' : World} {pA pR : Nat} {x : AskV} {ha : Option Addr} {hn hc : Nat} {ea : Option Addr} {en ec : Nat} {ca : Option Addr} {cn cc : Nat} {hs es : List EvV} {cs : List Nm} (h : HrAt w W pA pR x ha hn hc ea en ec ca cn cc hs es cs) (hb : Below W.heap.size W W') : HrAt w W' pA pR x ha hn hc ea en ec ca cn cc hs es cs :=
  ⟨h.bel.trans (hb.mono h.bel.size), below_blk hb h.ak, below_blk hb h.rg, h.r1.below hb, h.r2.below hb, h.r3.below hb⟩
theorem ev_at {W : World} {b o : Nat} {e : EvV} (h : W.rangeAt b o e.cells) : W.rangeAt b (o + 2) (e.x.n.cells e.x.sa e.x.sc) := fun j v hv => by
  have := h (2 + j) v (by rw [EvV.cells, List.getElem?_append_right (by simp)]; simpa using hv)
  rwa [← Nat.add_assoc] at this
theorem blk_note {W : World} {p : Nat} {n : NoteV} {sa : Option Addr} {sc : Nat} {t : TypeId} (h : W.heap[p]? = some (.cells (noteA n sa sc) t (0, 0))) : W.rangeAt p 0 (n.cells sa sc) := fun j v hv => by
  rw [Nat.zero_add]
  exact cell_of h j v (by simpa [noteA] using hv)
theorem passesV_at {hs es : List EvV} {k : Nat} {h : EvV} (hh : hs[k]? = some h) (he : es.length ≤ 400) : passesV hs es k = (passSum h.nm es, 0) := by
  simp [passesV, hh, List.take_of_length_le he]
theorem passSum_small (a : Nm) {es : List EvV} (he : es.length ≤ 400) : 0 ≤ passSum a es ∧ passSum a es ≤ 4000000 := by
  have := passSum_bnd a es
  omega
theorem turnsSum_small {es : List EvV} (h : ∀ e ∈ es, e.x.n.kind = 2 → 1 ≤ e.x.n.turns ∧ e.x.n.turns ≤ 10000) (he : es.length ≤ 400) (k : Nat) : 0 ≤ turnsSum (es.take k) ∧ turnsSum (es.take k) ≤ 4000000 := by
  have hg : ∀ n, n ≤ es.length → 0 ≤ turnsSum (es.take n) ∧ turnsSum (es.take n) ≤ n * 10000 := by
    intro n
    induction n with
    | zero => intro _; simp [turnsSum]
    | succ n ih =>
      intro hlt
      obtain ⟨e, hx⟩ : ∃ e, es[n]? = some e := ⟨_, List.getElem?_eq_getElem (by omega)⟩
      have ih := ih (by omega)
      rw [take_snoc hx, turnsSum_snoc]
      split
      · rename_i hk
        have := h e (List.mem_of_getElem? hx) hk
        omega
      · omega
  rcases Nat.le_total k es.length with hk | hk
  · have := hg k hk; omega
  · rw [List.take_of_length_le hk]
    have := hg es.length (Nat.le_refl _)
    rw [List.take_length] at this
    omega
theorem sums_small {hs es : List EvV} (h8 : hs.length ≤ 8) (he : es.length ≤ 400) (k : Nat) : 0 ≤ sumI ((hs.take k).map (fun h => passSum h.nm es)) ∧ sumI ((hs.take k).map (fun h => passSum h.nm es)) ≤ 32000000 := by
  have hg : ∀ l : List EvV, 0 ≤ sumI (l.map (fun h => passSum h.nm es)) ∧ sumI (l.map (fun h => passSum h.nm es)) ≤ l.length * 4000000 := by
    intro l
    induction l with
    | nil => simp [sumI]
    | cons h l ih =>
      have := passSum_small h.nm he
      rw [List.map_cons, sumI_cons, List.length_cons]
      omega
  have h1 := hg (hs.take k)
  have h2 : (hs.take k).length ≤ 8 := by rw [List.length_take]; omega
  omega

set_option maxHeartbeats 16000000 in
set_option maxRecDepth 100000 in
theorem hregs_any (f : FrV) (a : Option Addr) (n c : Nat) (l : List NoteV) (x : AskV) (w : World) (hr : RdNs w a n c l) (hok : ∀ y ∈ l, y.Ok) :
    Calls Tryz.prog 4 #[f.val, .slice a n c, .agg x.cells] w fun e w' => e = .returned (.bool true) ∧ Below w.heap.size w w' := by
  have hvl : f.val = .agg #[.int .i64 f.rings, .int .i64 f.sectors, .int .i64 f.wide] := rfl
  have hxl : x.cells = #[.int .i64 x.day, .int .i64 x.clock, .int .i64 x.stone, .int .i64 x.ring, .int .i64 x.heap, .int .i64 x.rh, .int .i64 x.rn] := rfl
  have AO := Lib.hid (fun (W : World) (hr : RdNs W a n c l) => asOf_any f a n c l x.day x.clock W hr hok)
  have RRG := Lib.hid (fun (hs es : List EvV) (ha : Option Addr) (hn hc : Nat) (ea : Option Addr) (en ec : Nat) (v3 : Value) (W : World) h1 h2 h3 => rrightReg_any f hs es ha hn hc ea en ec v3 W h1 h2 h3)
  rw [hvl] at AO RRG ⊢; rw [hxl]; clear hvl hxl hok
  have I43 := Lib.hid (show ∀ (m : NoteV) (a : Option Addr) (c : Nat), (Tryz.prog.info? 51).map (·.size) = some (noteA m a c).size from fun m a c => by kernel_rfl)
  have J21 : (Tryz.prog.info? 53).map (·.size) = some 21 := by kernel_rfl
  have J2 : (Tryz.prog.info? 29).map (·.size) = some 2 := by kernel_rfl
  have B0 := Lib.hid (((Below.refl w.heap.size w).alloc (Nat.le_refl _) (.cells #[.int .i64 f.rings, .int .i64 f.sectors, .int .i64 f.wide] 23)).alloc (by simp) (.cells #[.int .i64 x.day, .int .i64 x.clock, .int .i64 x.stone, .int .i64 x.ring, .int .i64 x.heap, .int .i64 x.rh, .int .i64 x.rn] 31))
  have F0 := Lib.hid (heap_before _ (.cells #[.int .i64 x.day, .int .i64 x.clock, .int .i64 x.stone, .int .i64 x.ring, .int .i64 x.heap, .int .i64 x.rh, .int .i64 x.rn] 31) _ _ (heap_last w (.cells #[.int .i64 f.rings, .int .i64 f.sectors, .int .i64 f.wide] 23)))
  have A0 := Lib.hid (heap_at (w.alloc (.cells #[.int .i64 f.rings, .int .i64 f.sectors, .int .i64 f.wide] 23)) (.cells #[.int .i64 x.day, .int .i64 x.clock, .int .i64 x.stone, .int .i64 x.ring, .int .i64 x.heap, .int .i64 x.rh, .int .i64 x.rn] 31) (w.heap.size + 1) (by simp))
  have R0 := Lib.hid (hr.below B0.out)
  clear hr
  go_enter Tryz.func4, Tryz.ntmps4
  go_upto_region 1 with fail
  obtain ⟨pF, hpF⟩ : ∃ p, Hid (w.heap.size = p) := ⟨_, Lib.hid rfl⟩
  obtain ⟨pA, hpA⟩ : ∃ p, Hid (w.heap.size + 1 = p) := ⟨_, Lib.hid rfl⟩
  rw [hpF.out] at F0
  rw [hpA.out] at A0
  rw [hpA.out, hpF.out]
  generalize (w.alloc (.cells #[.int .i64 f.rings, .int .i64 f.sectors, .int .i64 f.wide] 23)).alloc (.cells #[.int .i64 x.day, .int .i64 x.clock, .int .i64 x.stone, .int .i64 x.ring, .int .i64 x.heap, .int .i64 x.rh, .int .i64 x.rn] 31) = W0 at *
  go_wp2_with fail
  refine (hawake_any _).mono ?_
  rintro e W1 ⟨rfl, b1⟩
  have B1 := Lib.hid (B0.out.trans (b1.mono B0.out.size))
  have F1 := Lib.hid (below_blk b1 F0.out)
  have A1 := Lib.hid (below_blk b1 A0.out)
  have R1 := Lib.hid (R0.out.below b1)
  clear b1 B0 F0 A0 R0
  go_wp2_with fail
  refine (few_any a n c l _ R1.out).mono ?_
  rintro e W2 ⟨rfl, rfl⟩
  cases hq : fewB l
  · clear hq
    go_wp2_with fail
    go_ret
    exact ⟨rfl, B1.out⟩
  · clear hq
    have c0 := cell_of F1.out 0 (.int .i64 f.rings) rfl
    have c1 := cell_of F1.out 1 (.int .i64 f.sectors) rfl
    have c2 := cell_of F1.out 2 (.int .i64 f.wide) rfl
    have a0 := cell_of A1.out 0 (.int .i64 x.day) rfl
    have a1 := cell_of A1.out 1 (.int .i64 x.clock) rfl
    go_wp2_with fail
    refine (AO.out W1 R1.out).mono ?_
    clear c0 c1 c2 a0 a1
    rintro e W3 ⟨h1 | h1, b3⟩
    · obtain ⟨_, rfl⟩ := h1
      have B3 := Lib.hid (B1.out.trans (b3.mono B1.out.size))
      clear b3 B1 F1 A1 R1
      go_upto_region 5 with fail
      have hbt : Below W3.heap.size W3 (W3.alloc (.cells #[.slice none 0 0, .slice none 0 0, .slice none 0 0] 27)) := (Below.refl _ _).alloc (Nat.le_refl _) _
      have P4 := Lib.hid (heap_last W3 (.cells #[.slice none 0 0, .slice none 0 0, .slice none 0 0] 27))
      have B4 := Lib.hid (B3.out.trans (hbt.mono B3.out.size))
      clear hbt B3
      obtain ⟨p8, hp8⟩ : ∃ p, Hid (W3.heap.size = p) := ⟨_, Lib.hid rfl⟩
      rw [hp8.out] at P4 ⊢
      generalize W3.alloc (.cells #[.slice none 0 0, .slice none 0 0, .slice none 0 0] 27) = W4 at *
      have c0 := cell_of P4.out 0 (.slice none 0 0) rfl
      have c1 := cell_of P4.out 1 (.slice none 0 0) rfl
      have c2 := cell_of P4.out 2 (.slice none 0 0) rfl
      go_wp2_with fail
      go_ret
      exact ⟨rfl, B4.out⟩
    obtain ⟨hset, hE⟩ := h1
    obtain ⟨v, R, rfl, ⟨ha, hc, ea, ec, ca, cc, rfl, o1, o2, o3, o4⟩, q1, q2, q3, q4⟩ := asEnd_reg hE ((set_ok hset).2.2.2.sublist (upTo_sub _ _))
    have RG := Lib.hid (reg_good hset q1 q2 q3 q4)
    have K1 := Lib.hid (RdA.of_own o1)
    have K2 := Lib.hid (RdA.of_own o2)
    have K3 := Lib.hid (RdA.of_own o3)
    have OK3 := Lib.hid (show ∀ e ∈ R.hs ++ R.es, e.x.ok W3 from fun e he => RdA.of_own (o4 e he))
    have B3 := Lib.hid (B1.out.trans (b3.mono B1.out.size))
    have F3 := Lib.hid (below_blk b3 F1.out)
    have A3 := Lib.hid (below_blk b3 A1.out)
    clear o1 o2 o3 o4 q1 q2 q3 q4 hE hset b3 B1 F1 A1 R1
    obtain ⟨hs, es, cs⟩ := R
    simp only at RG K1 K2 K3 OK3 ⊢
    obtain ⟨hn, hhn⟩ : ∃ k, Hid (hs.length = k) := ⟨_, Lib.hid rfl⟩
    obtain ⟨en, hen⟩ : ∃ k, Hid (es.length = k) := ⟨_, Lib.hid rfl⟩
    obtain ⟨cn, hcn⟩ : ∃ k, Hid (cs.length = k) := ⟨_, Lib.hid rfl⟩
    rw [hhn.out] at K1 ⊢
    rw [hen.out] at K2 ⊢
    rw [hcn.out] at K3 ⊢
    have N8 := Lib.hid (show hn ≤ 8 by rw [← hhn.out]; exact RG.out.h8)
    have N4 := Lib.hid (show en ≤ 400 by rw [← hen.out]; exact RG.out.e4)
    have NC := Lib.hid (show cn ≤ 400 by rw [← hcn.out]; exact RG.out.c4)
    have hm8 := N8.out
    have hm4 := N4.out
    have hmc := NC.out
    go_upto_region 5 with fail
    have hbt : Below W3.heap.size W3 (W3.alloc (.cells #[.slice ha hn hc, .slice ea en ec, .slice ca cn cc] 27)) := (Below.refl _ _).alloc (Nat.le_refl _) _
    have ST : Hid (HrAt w (W3.alloc (.cells #[.slice ha hn hc, .slice ea en ec, .slice ca cn cc] 27)) pA W3.heap.size x ha hn hc ea en ec ca cn cc hs es cs) := Lib.hid ⟨B3.out.trans (hbt.mono B3.out.size), below_blk hbt A3.out, heap_last W3 (.cells #[.slice ha hn hc, .slice ea en ec, .slice ca cn cc] 27), K1.out.below hbt, K2.out.below hbt, K3.out.below hbt⟩
    have OK4 := Lib.hid (evs_ok OK3.out hbt)
    have F4 := Lib.hid (below_blk hbt F3.out)
    clear hbt B3 F3 A3 K1 K2 K3 OK3
    obtain ⟨pR, hpR⟩ : ∃ p, Hid (W3.heap.size = p) := ⟨_, Lib.hid rfl⟩
    rw [hpR.out] at ST ⊢
    generalize W3.alloc (.cells #[.slice ha hn hc, .slice ea en ec, .slice ca cn cc] 27) = W4 at *
    have c0 := cell_of F4.out 0 (.int .i64 f.rings) rfl
    have c1 := cell_of F4.out 1 (.int .i64 f.sectors) rfl
    have c2 := cell_of F4.out 2 (.int .i64 f.wide) rfl
    have g0 := cell_of ST.out.rg 0 (.slice ha hn hc) rfl
    have g1 := cell_of ST.out.rg 1 (.slice ea en ec) rfl
    have g2 := cell_of ST.out.rg 2 (.slice ca cn cc) rfl
    go_wp2_with fail
    refine (RRG.out hs es ha hn hc ea en ec _ W4 ST.out.r1 ST.out.r2 OK4.out).mono ?_
    rintro e W5 ⟨rfl, b5⟩
    rw [RG.out.right]
    replace ST := Lib.hid (ST.out.below b5)
    clear b5 c0 c1 c2 g0 g1 g2 OK4 F4
    go_wp2_with fail
    go_loopw [10, 11] (fun nn i wr => ∃ k : Nat, i = .int .i64 k ∧ k ≤ en ∧ nn = .int .i64 (turnsSum (es.take k)) ∧ Hid (HrAt w wr pA pR x ha hn hc ea en ec ca cn cc hs es cs)) (fun _ i _ => en - (intOf i).toNat)
    case atStart => exact ⟨0, rfl, Nat.zero_le _, rfl, ST⟩
    case round =>
      clear ST
      obtain ⟨k, rfl, hk, rfl, ST⟩ := hrel
      have TS := Lib.hid (turnsSum_small RG.out.turns RG.out.e4 k)
      obtain ⟨tz, htz⟩ : ∃ z, Hid (turnsSum (es.take k) = z) := ⟨_, Lib.hid rfl⟩
      rw [htz.out] at TS ⊢
      have g0 := cell_of ST.out.rg 0 (.slice ha hn hc) rfl
      have g1 := cell_of ST.out.rg 1 (.slice ea en ec) rfl
      have g2 := cell_of ST.out.rg 2 (.slice ca cn cc) rfl
      by_cases hlt : k < en
      · have t0 : decide ((k : Int) < (en : Int)) = true := by simp; omega
        obtain ⟨y, Hy⟩ : ∃ y, es[k]? = some y := ⟨_, List.getElem?_eq_getElem (by rw [hen.out]; exact hlt)⟩
        have HYM := Lib.hid (List.mem_of_getElem? Hy)
        have LEY := Lib.hid (RG.out.le y HYM.out)
        have TSN := Lib.hid (show turnsSum (es.take (k + 1)) = if y.x.n.kind = 2 then tz + y.x.n.turns else tz by rw [take_snoc Hy, turnsSum_snoc, htz.out])
        obtain ⟨be, eo, ha0, hat⟩ := (RdEs.of_rd ST.out.r2).at (by omega)
        subst ha0
        have HAT := Lib.hid hat
        have HYA := Lib.hid (hat k y Hy)
        have HYE := Lib.hid Hy
        clear hat Hy
        obtain ⟨oy, hoy⟩ : ∃ o, Hid (eo + k * 21 = o) := ⟨_, Lib.hid rfl⟩
        rw [hoy.out] at HYA
        have hix := fun W => idx_off (W := W) (c := ec) (b := be) Tryz.underlying24 J21 hlt hoy.out
        have HYN := Lib.hid (ev_at HYA.out)
        go_upto_region 14 with (first
          | (refine wpList_load_mid rfl 51 _ rfl be (oy + 2) rfl (y.x.n.cells y.x.sa y.x.sc) _ HYN.out Tryz.underlying51 rfl (size43 y.x.n y.x.sa y.x.sc) ?_)
          | (refine wpList_store_newp _ rfl 51 _ _ rfl _ rfl _ (noteA y.x.n y.x.sa y.x.sc) rfl rfl (I43.out _ _ _) rfl (noteA_one _ _ _) ?_)
          | fail)
        clear hix t0 g0 g1 g2
        try simp only [Act.put, List.setIfInBounds_toArray, List.set_cons_zero, List.set_cons_succ]
        have hbt : Below wr.heap.size wr (wr.alloc (.cells (noteA y.x.n y.x.sa y.x.sc) 51)) := (Below.refl _ _).alloc (Nat.le_refl _) _
        have XT := Lib.hid (heap_last wr (.cells (noteA y.x.n y.x.sa y.x.sc) 51))
        replace ST := Lib.hid (ST.out.below hbt)
        have HEV := Lib.hid (show ∀ i e, es[i]? = some e → (wr.alloc (.cells (noteA y.x.n y.x.sa y.x.sc) 51)).rangeAt be (eo + i * 21) e.cells from fun i e he => rangeAt_below (HAT.out i e he) hbt)
        clear hbt HYA HYN HAT
        obtain ⟨p12, hp12⟩ : ∃ p, Hid (wr.heap.size = p) := ⟨_, Lib.hid rfl⟩
        rw [hp12.out] at XT ⊢
        generalize wr.alloc (.cells (noteA y.x.n y.x.sa y.x.sc) 51) = wt at *
        have hk64 : (k : Int) + 1 ≤ 9223372036854775807 := by omega
        have hC0 : Below wt.heap.size wt wt.drew := (Below.refl _ _).drew
        have LY := Lib.hid (show ∀ w0, Below wt.heap.size wt w0 → w0.heap[p12]? = some (.cells (noteA y.x.n y.x.sa y.x.sc) 51 (0, 0)) from fun w0 h => below_blk h XT.out)
        have LYR := Lib.hid (show ∀ w0, Below wt.heap.size wt w0 → w0.rangeAt p12 0 (y.x.n.cells y.x.sa y.x.sc) from fun w0 h => blk_note (LY.out w0 h))
        have LR := Lib.hid (show ∀ w0, Below wt.heap.size wt w0 → w0.heap[pR]? = some (.cells #[.slice ha hn hc, .slice (some ⟨be, eo, none⟩) en ec, .slice ca cn cc] 27 (0, 0)) from fun w0 h => below_blk h ST.out.rg)
        have LA := Lib.hid (show ∀ w0, Below wt.heap.size wt w0 → w0.heap[pA]? = some (.cells #[.int .i64 x.day, .int .i64 x.clock, .int .i64 x.stone, .int .i64 x.ring, .int .i64 x.heap, .int .i64 x.rh, .int .i64 x.rn] 31 (0, 0)) from fun w0 h => below_blk h ST.out.ak)
        have hday : decide (x.day < y.x.n.day) = false := by have := LEY.out.1; simp; omega
        have hclk : decide (x.clock < y.x.n.clock) = false := by have := LEY.out.2; simp; omega
        have HDC := Lib.hid (And.intro hday hclk)
        clear hday hclk
        rcases Nat.eq_zero_or_pos k with hk0 | hk0
        · have k0a : decide ((0 : Int) < (k : Int)) = false := by simp; omega
          have HK0 := Lib.hid hk0
          clear hk0
          refine wp_region_quiet (C := fun w' : World => Below wt.heap.size wt w') (by kernel_rfl) (by kernel_rfl) hC0 ?_
          show wpQuiet _ _ _ _ (_ :: _) _
          go_big_quiet_want
          go_big_quiet_op
          go_big_quiet_on
          go_big_quiet_want
          refine ⟨.bool false, fun w0 hC => ?_, ?_⟩
          · clear hC
            go_simp
            first | done | exact HK0.out
          simp only [Act.put, List.setIfInBounds_toArray, List.set_cons_zero, List.set_cons_succ]
          go_big_quiet_on
          go_big_quiet_want
          go_big_quiet_op
          go_big_quiet_on
          go_big_quiet_skip
          go_big_quiet_skip
          go_big_quiet_skip
          go_big_quiet_skip
          go_big_quiet_skip
          go_big_quiet_skip
          go_big_quiet_skip
          go_big_quiet_skip
          go_big_quiet_skip
          go_big_quiet_skip
          go_big_quiet_want
          refine ⟨.bool false, fun w0 hC => ?_, ?_⟩
          · clear hC
            go_simp
          simp only [Act.put, List.setIfInBounds_toArray, List.set_cons_zero, List.set_cons_succ]
          go_big_quiet_on
          go_big_quiet_want
          go_big_quiet_op
          go_big_quiet_on
          go_big_quiet_want
          refine ⟨.pointer (some ⟨p12, 3, none⟩), fun w0 hC => ?_, ?_⟩
          · clear hC
            go_simp
          simp only [Act.put, List.setIfInBounds_toArray, List.set_cons_zero, List.set_cons_succ]
          go_big_quiet_on
          go_big_quiet_want
          refine ⟨.int .i64 y.x.n.day, fun w0 hC => ?_, ?_⟩
          · have c3 := cell_of (LY.out w0 hC) 3 (.int .i64 y.x.n.day) rfl
            clear hC
            go_simp
          simp only [Act.put, List.setIfInBounds_toArray, List.set_cons_zero, List.set_cons_succ]
          go_big_quiet_on
          go_big_quiet_want
          refine ⟨.pointer (some ⟨pA, 0, none⟩), fun w0 hC => ?_, ?_⟩
          · clear hC
            go_simp
          simp only [Act.put, List.setIfInBounds_toArray, List.set_cons_zero, List.set_cons_succ]
          go_big_quiet_on
          go_big_quiet_want
          refine ⟨.int .i64 x.day, fun w0 hC => ?_, ?_⟩
          · have c0 := cell_of (LA.out w0 hC) 0 (.int .i64 x.day) rfl
            clear hC
            go_simp
          simp only [Act.put, List.setIfInBounds_toArray, List.set_cons_zero, List.set_cons_succ]
          go_big_quiet_on
          go_big_quiet_want
          refine ⟨.bool false, fun w0 hC => ?_, ?_⟩
          · have h0 := HDC.out.1
            clear hC
            go_simp
          simp only [Act.put, List.setIfInBounds_toArray, List.set_cons_zero, List.set_cons_succ]
          go_big_quiet_on
          go_big_quiet_want
          refine ⟨.bool false, fun w0 hC => ?_, ?_⟩
          · clear hC
            go_simp
          simp only [Act.put, List.setIfInBounds_toArray, List.set_cons_zero, List.set_cons_succ]
          go_big_quiet_on
          go_big_quiet_want
          go_big_quiet_op
          go_big_quiet_on
          go_big_quiet_want
          refine ⟨.pointer (some ⟨p12, 2, none⟩), fun w0 hC => ?_, ?_⟩
          · clear hC
            go_simp
          simp only [Act.put, List.setIfInBounds_toArray, List.set_cons_zero, List.set_cons_succ]
          go_big_quiet_on
          go_big_quiet_want
          refine ⟨.int .i64 y.x.n.clock, fun w0 hC => ?_, ?_⟩
          · have c2 := cell_of (LY.out w0 hC) 2 (.int .i64 y.x.n.clock) rfl
            clear hC
            go_simp
          simp only [Act.put, List.setIfInBounds_toArray, List.set_cons_zero, List.set_cons_succ]
          go_big_quiet_on
          go_big_quiet_want
          refine ⟨.pointer (some ⟨pA, 1, none⟩), fun w0 hC => ?_, ?_⟩
          · clear hC
            go_simp
          simp only [Act.put, List.setIfInBounds_toArray, List.set_cons_zero, List.set_cons_succ]
          go_big_quiet_on
          go_big_quiet_want
          refine ⟨.int .i64 x.clock, fun w0 hC => ?_, ?_⟩
          · have c1 := cell_of (LA.out w0 hC) 1 (.int .i64 x.clock) rfl
            clear hC
            go_simp
          simp only [Act.put, List.setIfInBounds_toArray, List.set_cons_zero, List.set_cons_succ]
          go_big_quiet_on
          go_big_quiet_want
          refine ⟨.bool false, fun w0 hC => ?_, ?_⟩
          · have h0 := HDC.out.2
            clear hC
            go_simp
          simp only [Act.put, List.setIfInBounds_toArray, List.set_cons_zero, List.set_cons_succ]
          go_big_quiet_on
          go_big_quiet_want
          refine ⟨.bool false, fun w0 hC => ?_, ?_⟩
          · clear hC
            go_simp
          simp only [Act.put, List.setIfInBounds_toArray, List.set_cons_zero, List.set_cons_succ]
          go_big_quiet_on
          refine wpQuiet_nil ?_
          intro w' hC
          have S5 := Lib.hid (ST.out.below hC)
          have Y5 := Lib.hid (LY.out w' hC)
          clear hC ST LY LYR LR LA HEV
          have hkd := cell_of Y5.out 4 (.int .i64 y.x.n.kind) rfl
          by_cases hk2 : y.x.n.kind = 2
          · have t2 : (y.x.n.kind == 2) = true := by simp [hk2]
            have HK2 := Lib.hid hk2; clear hk2
            obtain ⟨kh, h, q1, q2, q3, q4⟩ := RG.out.pass y HYM.out HK2.out
            have HT := Lib.hid (RG.out.turns y HYM.out HK2.out)
            have HV : Hid (heapOfV hs y.x.n.refH y.x.n.refN = #[.int .i64 (kh : Int), .int .i64 0]) := Lib.hid (by rw [heapOfV, if_neg (by rw [q1]; omega), q1])
            have HQ2 := Lib.hid q2
            have HQ3 := Lib.hid q3
            have HQ4 := Lib.hid q4
            clear q1 q2 q3 q4
            have hkh : kh < hn := by rw [← hhn.out]; exact (List.getElem?_eq_some_iff.1 HQ2.out).1
            have hkt := cell_of Y5.out 7 (.int .i64 y.x.n.turns) rfl
            have d16 := cell_of Y5.out 16 (.int .i64 y.x.n.refH) rfl
            have d17 := cell_of Y5.out 17 (.int .i64 y.x.n.refN) rfl
            have g0 := cell_of S5.out.rg 0 (.slice ha hn hc) rfl
            have g1 := cell_of S5.out.rg 1 (.slice (some ⟨be, eo, none⟩) en ec) rfl
            have g2 := cell_of S5.out.rg 2 (.slice ca cn cc) rfl
            have hzb := TS.out
            have htb := HT.out
            go_upto_region 19 with (first
              | (go_at_call 12
                 refine (heapOf_any hs ha hn hc _ _ y.x.n.refH y.x.n.refN _ (RdEs.of_rd S5.out.r1)).mono ?_
                 rintro r W6 ⟨rfl, b6⟩
                 rw [HV.out]
                 have S6 := Lib.hid (S5.out.below b6)
                 have Y6 := Lib.hid (below_blk b6 Y5.out)
                 clear b6 S5 Y5
                 dsimp only)
              | fail)
            clear hkt d16 d17 g0 g1 g2 hkd t2
            try simp only [Act.put, List.setIfInBounds_toArray, List.set_cons_zero, List.set_cons_succ]
            obtain ⟨bh, ho, ha0, hat⟩ := (RdEs.of_rd S6.out.r1).at (by omega)
            subst ha0
            have HHA := Lib.hid (hat kh h HQ2.out)
            clear hat
            obtain ⟨oh, hoh⟩ : ∃ o, Hid (ho + kh * 21 = o) := ⟨_, Lib.hid rfl⟩
            rw [hoh.out] at HHA
            have HIH := Lib.hid (fun W => idx_off (W := W) (c := hc) (b := bh) Tryz.underlying24 J21 hkh hoh.out)
            have hC0 : Below W6.heap.size W6 W6.drew := (Below.refl _ _).drew
            have LY := Lib.hid (show ∀ w0, Below W6.heap.size W6 w0 → w0.heap[p12]? = some (.cells (noteA y.x.n y.x.sa y.x.sc) 51 (0, 0)) from fun w0 h => below_blk h Y6.out)
            have LYR := Lib.hid (show ∀ w0, Below W6.heap.size W6 w0 → w0.rangeAt p12 0 (y.x.n.cells y.x.sa y.x.sc) from fun w0 h => blk_note (LY.out w0 h))
            have LR := Lib.hid (show ∀ w0, Below W6.heap.size W6 w0 → w0.heap[pR]? = some (.cells #[.slice (some ⟨bh, ho, none⟩) hn hc, .slice (some ⟨be, eo, none⟩) en ec, .slice ca cn cc] 27 (0, 0)) from fun w0 h => below_blk h S6.out.rg)
            have LH0 := Lib.hid (show ∀ w0, Below W6.heap.size W6 w0 → w0.cell? ⟨bh, oh, none⟩ = some (.int .i64 y.x.n.refH) ∧ w0.cell? ⟨bh, oh + 1, none⟩ = some (.int .i64 y.x.n.refN) from fun w0 hw => by
              have h0 := rangeAt_below HHA.out hw 0 (.int .i64 h.nm.1) rfl
              have h1 := rangeAt_below HHA.out hw 1 (.int .i64 h.nm.2) rfl
              rw [HQ3.out] at h0 h1
              exact ⟨h0, h1⟩)
            have LHN := Lib.hid (show ∀ w0, Below W6.heap.size W6 w0 → w0.rangeAt bh (oh + 2) (h.x.n.cells h.x.sa h.x.sc) from fun w0 hw => rangeAt_below (ev_at HHA.out) hw)
            have CBH := Lib.hid (fun W => before_any h.x.n y.x.n h.x.sa h.x.sc y.x.sa y.x.sc W)
            rw [decide_eq_true HQ4.out] at CBH
            have HKB : Hid (decide ((kh : Int) < 0) = false ∧ decide ((hn : Int) ≤ (kh : Int)) = false) := Lib.hid ⟨by simp, by simp; omega⟩
            refine wp_region_quiet (C := fun w' : World => Below W6.heap.size W6 w') (by kernel_rfl) (by kernel_rfl) hC0 ?_
            show wpQuiet _ _ _ _ (_ :: _) _
            go_big_quiet_want
            go_big_quiet_op
            go_big_quiet_on
            go_big_quiet_want
            refine ⟨.bool false, fun w0 hC => ?_, ?_⟩
            · clear hC
              go_simp
            simp only [Act.put, List.setIfInBounds_toArray, List.set_cons_zero, List.set_cons_succ]
            go_big_quiet_on
            go_big_quiet_want
            go_big_quiet_op
            go_big_quiet_on
            go_big_quiet_want
            go_big_quiet_op
            go_big_quiet_on
            go_big_quiet_want
            refine ⟨.bool false, fun w0 hC => ?_, ?_⟩
            · have h0 := HKB.out.1
              clear hC
              go_simp
            simp only [Act.put, List.setIfInBounds_toArray, List.set_cons_zero, List.set_cons_succ]
            go_big_quiet_on
            go_big_quiet_want
            refine ⟨.bool false, fun w0 hC => ?_, ?_⟩
            · clear hC
              go_simp
            simp only [Act.put, List.setIfInBounds_toArray, List.set_cons_zero, List.set_cons_succ]
            go_big_quiet_on
            go_big_quiet_want
            go_big_quiet_op
            go_big_quiet_on
            go_big_quiet_want
            go_big_quiet_op
            go_big_quiet_on
            go_big_quiet_want
            refine ⟨.pointer (some ⟨pR, 0, none⟩), fun w0 hC => ?_, ?_⟩
            · clear hC
              go_simp
            simp only [Act.put, List.setIfInBounds_toArray, List.set_cons_zero, List.set_cons_succ]
            go_big_quiet_on
            go_big_quiet_want
            refine ⟨.slice (some ⟨bh, ho, none⟩) hn hc, fun w0 hC => ?_, ?_⟩
            · have c0 := cell_of (LR.out w0 hC) 0 (.slice (some ⟨bh, ho, none⟩) hn hc) rfl
              clear hC
              go_simp
            simp only [Act.put, List.setIfInBounds_toArray, List.set_cons_zero, List.set_cons_succ]
            go_big_quiet_on
            go_big_quiet_want
            refine ⟨.int .i64 (hn : Int), fun w0 hC => ?_, ?_⟩
            · clear hC
              go_simp
            simp only [Act.put, List.setIfInBounds_toArray, List.set_cons_zero, List.set_cons_succ]
            go_big_quiet_on
            go_big_quiet_want
            refine ⟨.bool false, fun w0 hC => ?_, ?_⟩
            · have h0 := HKB.out.2
              clear hC
              go_simp
            simp only [Act.put, List.setIfInBounds_toArray, List.set_cons_zero, List.set_cons_succ]
            go_big_quiet_on
            go_big_quiet_want
            refine ⟨.bool false, fun w0 hC => ?_, ?_⟩
            · clear hC
              go_simp
            simp only [Act.put, List.setIfInBounds_toArray, List.set_cons_zero, List.set_cons_succ]
            go_big_quiet_on
            go_big_quiet_want
            go_big_quiet_op
            go_big_quiet_on
            go_big_quiet_want
            refine ⟨.pointer (some ⟨pR, 0, none⟩), fun w0 hC => ?_, ?_⟩
            · clear hC
              go_simp
            simp only [Act.put, List.setIfInBounds_toArray, List.set_cons_zero, List.set_cons_succ]
            go_big_quiet_on
            go_big_quiet_want
            refine ⟨.slice (some ⟨bh, ho, none⟩) hn hc, fun w0 hC => ?_, ?_⟩
            · have c0 := cell_of (LR.out w0 hC) 0 (.slice (some ⟨bh, ho, none⟩) hn hc) rfl
              clear hC
              go_simp
            simp only [Act.put, List.setIfInBounds_toArray, List.set_cons_zero, List.set_cons_succ]
            go_big_quiet_on
            go_big_quiet_want
            go_big_quiet_op
            go_big_quiet_on
            go_big_quiet_want
            refine ⟨.pointer (some ⟨bh, oh, none⟩), fun w0 hC => ?_, ?_⟩
            · have hix := HIH.out w0
              clear hC
              go_simp
            simp only [Act.put, List.setIfInBounds_toArray, List.set_cons_zero, List.set_cons_succ]
            go_big_quiet_on
            go_big_quiet_want
            refine ⟨.pointer (some ⟨bh, oh, none⟩), fun w0 hC => ?_, ?_⟩
            · clear hC
              go_simp
            simp only [Act.put, List.setIfInBounds_toArray, List.set_cons_zero, List.set_cons_succ]
            go_big_quiet_on
            go_big_quiet_want
            refine ⟨.agg #[.int .i64 y.x.n.refH, .int .i64 y.x.n.refN], fun w0 hC => ?_, ?_⟩
            · have c0 := (LH0.out w0 hC).1
              have c1 := (LH0.out w0 hC).2
              clear hC
              go_simp
            simp only [Act.put, List.setIfInBounds_toArray, List.set_cons_zero, List.set_cons_succ]
            go_big_quiet_on
            go_big_quiet_want
            refine ⟨.pointer (some ⟨p12, 16, none⟩), fun w0 hC => ?_, ?_⟩
            · clear hC
              go_simp
            simp only [Act.put, List.setIfInBounds_toArray, List.set_cons_zero, List.set_cons_succ]
            go_big_quiet_on
            go_big_quiet_want
            refine ⟨.agg #[.int .i64 y.x.n.refH, .int .i64 y.x.n.refN], fun w0 hC => ?_, ?_⟩
            · have c16 := cell_of (LY.out w0 hC) 16 (.int .i64 y.x.n.refH) rfl
              have c17 := cell_of (LY.out w0 hC) 17 (.int .i64 y.x.n.refN) rfl
              clear hC
              go_simp
            simp only [Act.put, List.setIfInBounds_toArray, List.set_cons_zero, List.set_cons_succ]
            go_big_quiet_on
            go_big_quiet_want
            refine ⟨.bool false, fun w0 hC => ?_, ?_⟩
            · clear hC
              go_simp
              try simp
            simp only [Act.put, List.setIfInBounds_toArray, List.set_cons_zero, List.set_cons_succ]
            go_big_quiet_on
            go_big_quiet_want
            refine ⟨.bool false, fun w0 hC => ?_, ?_⟩
            · clear hC
              go_simp
            simp only [Act.put, List.setIfInBounds_toArray, List.set_cons_zero, List.set_cons_succ]
            go_big_quiet_on
            go_big_quiet_want
            go_big_quiet_op
            go_big_quiet_on
            go_big_quiet_want
            refine ⟨.pointer (some ⟨pR, 0, none⟩), fun w0 hC => ?_, ?_⟩
            · clear hC
              go_simp
            simp only [Act.put, List.setIfInBounds_toArray, List.set_cons_zero, List.set_cons_succ]
            go_big_quiet_on
            go_big_quiet_want
            refine ⟨.slice (some ⟨bh, ho, none⟩) hn hc, fun w0 hC => ?_, ?_⟩
            · have c0 := cell_of (LR.out w0 hC) 0 (.slice (some ⟨bh, ho, none⟩) hn hc) rfl
              clear hC
              go_simp
            simp only [Act.put, List.setIfInBounds_toArray, List.set_cons_zero, List.set_cons_succ]
            go_big_quiet_on
            go_big_quiet_want
            go_big_quiet_op
            go_big_quiet_on
            go_big_quiet_want
            refine ⟨.pointer (some ⟨bh, oh, none⟩), fun w0 hC => ?_, ?_⟩
            · have hix := HIH.out w0
              clear hC
              go_simp
            simp only [Act.put, List.setIfInBounds_toArray, List.set_cons_zero, List.set_cons_succ]
            go_big_quiet_on
            go_big_quiet_want
            refine ⟨.pointer (some ⟨bh, oh + 2, none⟩), fun w0 hC => ?_, ?_⟩
            · clear hC
              go_simp
            simp only [Act.put, List.setIfInBounds_toArray, List.set_cons_zero, List.set_cons_succ]
            go_big_quiet_on
            go_big_quiet_want
            refine ⟨.agg (noteA h.x.n h.x.sa h.x.sc), fun w0 hC => quiet_load_note (.tmp 141) rfl bh (oh + 2) rfl h.x.n h.x.sa h.x.sc (LHN.out w0 hC), ?_⟩
            simp only [Act.put, List.setIfInBounds_toArray, List.set_cons_zero, List.set_cons_succ]
            go_big_quiet_on
            go_big_quiet_want
            refine ⟨.agg (noteA y.x.n y.x.sa y.x.sc), fun w0 hC => quiet_load_note (.tmp 12) rfl p12 0 rfl y.x.n y.x.sa y.x.sc (LYR.out w0 hC), ?_⟩
            simp only [Act.put, List.setIfInBounds_toArray, List.set_cons_zero, List.set_cons_succ]
            go_big_quiet_on
            go_big_quiet_want
            refine ⟨.bool true, fun w0 hC => ?_, ?_⟩
            · go_simp
              refine (CBH.out w0).mono ?_
              rintro e w1 ⟨rfl, b1⟩
              exact ⟨rfl, hC.trans (b1.mono hC.size)⟩
            simp only [Act.put, List.setIfInBounds_toArray, List.set_cons_zero, List.set_cons_succ]
            go_big_quiet_on
            go_big_quiet_want
            refine ⟨.bool false, fun w0 hC => ?_, ?_⟩
            · clear hC
              go_simp
            simp only [Act.put, List.setIfInBounds_toArray, List.set_cons_zero, List.set_cons_succ]
            go_big_quiet_on
            go_big_quiet_want
            refine ⟨.bool false, fun w0 hC => ?_, ?_⟩
            · clear hC
              go_simp
            simp only [Act.put, List.setIfInBounds_toArray, List.set_cons_zero, List.set_cons_succ]
            go_big_quiet_on
            refine wpQuiet_nil ?_
            intro w' hC
            have S7 := Lib.hid (S6.out.below hC)
            clear hC
            go_wp2_with fail
            go_roundw
            case rel => exact ⟨k + 1, by go_num, by omega, by rw [TSN.out, if_pos HK2.out], S7⟩
            case measure => simp [intOf]; omega
          · have t2 : (y.x.n.kind == 2) = false := by simp [hk2]
            have HK2 := Lib.hid hk2; clear hk2
            go_wp2_with fail
            go_roundw
            case rel => exact ⟨k + 1, by go_num, by omega, by rw [TSN.out, if_neg HK2.out], S5⟩
            case measure => simp [intOf]; omega
        · have k0a : decide ((0 : Int) < (k : Int)) = true := by simp; omega
          have HK0 := Lib.hid hk0
          obtain ⟨j, hkj⟩ : ∃ j, k = j + 1 := ⟨k - 1, by omega⟩
          have hj1 : (k : Int) - 1 = (j : Int) := by omega
          have hjn : j < en := by omega
          have HWJ : Hid (IntKind.i64.wrap (j : Int) = (j : Int)) := Lib.hid (by first | (rw [IntKind.wrap_i64]; omega) | (rw [IntKind.wrap_i64]; unfold wrap64; omega))
          obtain ⟨z, hz⟩ : ∃ z, es[j]? = some z := ⟨_, List.getElem?_eq_getElem (by rw [hen.out]; omega)⟩
          have HZA := Lib.hid (ev_at (HEV.out j z hz))
          obtain ⟨oz, hoz⟩ : ∃ oz, Hid (eo + j * 21 = oz) := ⟨_, Lib.hid rfl⟩
          rw [hoz.out] at HZA
          have HIZ := Lib.hid (fun W => idx_off (W := W) (c := ec) (b := be) Tryz.underlying24 J21 hjn hoz.out)
          have LZ := Lib.hid (show ∀ w0, Below wt.heap.size wt w0 → w0.rangeAt be (oz + 2) (z.x.n.cells z.x.sa z.x.sc) from fun w0 hb => rangeAt_below HZA.out hb)
          have CBF := Lib.hid (fun W => before_any z.x.n y.x.n z.x.sa z.x.sc y.x.sa y.x.sc W)
          rw [decide_eq_true (RG.out.ord j z y hz (by rw [← hkj]; exact HYE.out))] at CBF
          clear hz hk0 hkj
          refine wp_region_quiet (C := fun w' : World => Below wt.heap.size wt w') (by kernel_rfl) (by kernel_rfl) hC0 ?_
          show wpQuiet _ _ _ _ (_ :: _) _
          go_big_quiet_want
          go_big_quiet_op
          go_big_quiet_on
          go_big_quiet_want
          refine ⟨.bool true, fun w0 hC => ?_, ?_⟩
          · clear hC
            go_simp
            first | done | exact HK0.out
          simp only [Act.put, List.setIfInBounds_toArray, List.set_cons_zero, List.set_cons_succ]
          go_big_quiet_on
          go_big_quiet_want
          go_big_quiet_op
          go_big_quiet_on
          go_big_quiet_want
          refine ⟨.pointer (some ⟨pR, 1, none⟩), fun w0 hC => ?_, ?_⟩
          · clear hC
            go_simp
          simp only [Act.put, List.setIfInBounds_toArray, List.set_cons_zero, List.set_cons_succ]
          go_big_quiet_on
          go_big_quiet_want
          refine ⟨.slice (some ⟨be, eo, none⟩) en ec, fun w0 hC => ?_, ?_⟩
          · have c1 := cell_of (LR.out w0 hC) 1 (.slice (some ⟨be, eo, none⟩) en ec) rfl
            clear hC
            go_simp
          simp only [Act.put, List.setIfInBounds_toArray, List.set_cons_zero, List.set_cons_succ]
          go_big_quiet_on
          go_big_quiet_want
          go_big_quiet_op
          go_big_quiet_on
          go_big_quiet_want
          refine ⟨.int .i64 (j : Int), fun w0 hC => ?_, ?_⟩
          · clear hC
            go_simp
            first | done | exact HWJ.out
          simp only [Act.put, List.setIfInBounds_toArray, List.set_cons_zero, List.set_cons_succ]
          go_big_quiet_on
          go_big_quiet_want
          refine ⟨.pointer (some ⟨be, oz, none⟩), fun w0 hC => ?_, ?_⟩
          · have hix := HIZ.out w0
            clear hC
            go_simp
          simp only [Act.put, List.setIfInBounds_toArray, List.set_cons_zero, List.set_cons_succ]
          go_big_quiet_on
          go_big_quiet_want
          refine ⟨.pointer (some ⟨be, oz + 2, none⟩), fun w0 hC => ?_, ?_⟩
          · clear hC
            go_simp
          simp only [Act.put, List.setIfInBounds_toArray, List.set_cons_zero, List.set_cons_succ]
          go_big_quiet_on
          go_big_quiet_want
          refine ⟨.agg (noteA z.x.n z.x.sa z.x.sc), fun w0 hC => quiet_load_note (.tmp 78) rfl be (oz + 2) rfl z.x.n z.x.sa z.x.sc (LZ.out w0 hC), ?_⟩
          simp only [Act.put, List.setIfInBounds_toArray, List.set_cons_zero, List.set_cons_succ]
          go_big_quiet_on
          go_big_quiet_want
          refine ⟨.agg (noteA y.x.n y.x.sa y.x.sc), fun w0 hC => quiet_load_note (.tmp 12) rfl p12 0 rfl y.x.n y.x.sa y.x.sc (LYR.out w0 hC), ?_⟩
          simp only [Act.put, List.setIfInBounds_toArray, List.set_cons_zero, List.set_cons_succ]
          go_big_quiet_on
          go_big_quiet_want
          refine ⟨.bool true, fun w0 hC => ?_, ?_⟩
          · go_simp
            refine (CBF.out w0).mono ?_
            rintro e w1 ⟨rfl, b1⟩
            exact ⟨rfl, hC.trans (b1.mono hC.size)⟩
          simp only [Act.put, List.setIfInBounds_toArray, List.set_cons_zero, List.set_cons_succ]
          go_big_quiet_on
          go_big_quiet_want
          refine ⟨.bool false, fun w0 hC => ?_, ?_⟩
          · clear hC
            go_simp
          simp only [Act.put, List.setIfInBounds_toArray, List.set_cons_zero, List.set_cons_succ]
          go_big_quiet_on
          go_big_quiet_want
          refine ⟨.bool false, fun w0 hC => ?_, ?_⟩
          · clear hC
            go_simp
          simp only [Act.put, List.setIfInBounds_toArray, List.set_cons_zero, List.set_cons_succ]
          go_big_quiet_on
          go_big_quiet_want
          go_big_quiet_op
          go_big_quiet_on
          go_big_quiet_want
          refine ⟨.pointer (some ⟨p12, 3, none⟩), fun w0 hC => ?_, ?_⟩
          · clear hC
            go_simp
          simp only [Act.put, List.setIfInBounds_toArray, List.set_cons_zero, List.set_cons_succ]
          go_big_quiet_on
          go_big_quiet_want
          refine ⟨.int .i64 y.x.n.day, fun w0 hC => ?_, ?_⟩
          · have c3 := cell_of (LY.out w0 hC) 3 (.int .i64 y.x.n.day) rfl
            clear hC
            go_simp
          simp only [Act.put, List.setIfInBounds_toArray, List.set_cons_zero, List.set_cons_succ]
          go_big_quiet_on
          go_big_quiet_want
          refine ⟨.pointer (some ⟨pA, 0, none⟩), fun w0 hC => ?_, ?_⟩
          · clear hC
            go_simp
          simp only [Act.put, List.setIfInBounds_toArray, List.set_cons_zero, List.set_cons_succ]
          go_big_quiet_on
          go_big_quiet_want
          refine ⟨.int .i64 x.day, fun w0 hC => ?_, ?_⟩
          · have c0 := cell_of (LA.out w0 hC) 0 (.int .i64 x.day) rfl
            clear hC
            go_simp
          simp only [Act.put, List.setIfInBounds_toArray, List.set_cons_zero, List.set_cons_succ]
          go_big_quiet_on
          go_big_quiet_want
          refine ⟨.bool false, fun w0 hC => ?_, ?_⟩
          · have h0 := HDC.out.1
            clear hC
            go_simp
          simp only [Act.put, List.setIfInBounds_toArray, List.set_cons_zero, List.set_cons_succ]
          go_big_quiet_on
          go_big_quiet_want
          refine ⟨.bool false, fun w0 hC => ?_, ?_⟩
          · clear hC
            go_simp
          simp only [Act.put, List.setIfInBounds_toArray, List.set_cons_zero, List.set_cons_succ]
          go_big_quiet_on
          go_big_quiet_want
          go_big_quiet_op
          go_big_quiet_on
          go_big_quiet_want
          refine ⟨.pointer (some ⟨p12, 2, none⟩), fun w0 hC => ?_, ?_⟩
          · clear hC
            go_simp
          simp only [Act.put, List.setIfInBounds_toArray, List.set_cons_zero, List.set_cons_succ]
          go_big_quiet_on
          go_big_quiet_want
          refine ⟨.int .i64 y.x.n.clock, fun w0 hC => ?_, ?_⟩
          · have c2 := cell_of (LY.out w0 hC) 2 (.int .i64 y.x.n.clock) rfl
            clear hC
            go_simp
          simp only [Act.put, List.setIfInBounds_toArray, List.set_cons_zero, List.set_cons_succ]
          go_big_quiet_on
          go_big_quiet_want
          refine ⟨.pointer (some ⟨pA, 1, none⟩), fun w0 hC => ?_, ?_⟩
          · clear hC
            go_simp
          simp only [Act.put, List.setIfInBounds_toArray, List.set_cons_zero, List.set_cons_succ]
          go_big_quiet_on
          go_big_quiet_want
          refine ⟨.int .i64 x.clock, fun w0 hC => ?_, ?_⟩
          · have c1 := cell_of (LA.out w0 hC) 1 (.int .i64 x.clock) rfl
            clear hC
            go_simp
          simp only [Act.put, List.setIfInBounds_toArray, List.set_cons_zero, List.set_cons_succ]
          go_big_quiet_on
          go_big_quiet_want
          refine ⟨.bool false, fun w0 hC => ?_, ?_⟩
          · have h0 := HDC.out.2
            clear hC
            go_simp
          simp only [Act.put, List.setIfInBounds_toArray, List.set_cons_zero, List.set_cons_succ]
          go_big_quiet_on
          go_big_quiet_want
          refine ⟨.bool false, fun w0 hC => ?_, ?_⟩
          · clear hC
            go_simp
          simp only [Act.put, List.setIfInBounds_toArray, List.set_cons_zero, List.set_cons_succ]
          go_big_quiet_on
          refine wpQuiet_nil ?_
          intro w' hC
          have S5 := Lib.hid (ST.out.below hC)
          have Y5 := Lib.hid (LY.out w' hC)
          clear hC ST LY LYR LR LA HEV
          have hkd := cell_of Y5.out 4 (.int .i64 y.x.n.kind) rfl
          by_cases hk2 : y.x.n.kind = 2
          · have t2 : (y.x.n.kind == 2) = true := by simp [hk2]
            have HK2 := Lib.hid hk2; clear hk2
            obtain ⟨kh, h, q1, q2, q3, q4⟩ := RG.out.pass y HYM.out HK2.out
            have HT := Lib.hid (RG.out.turns y HYM.out HK2.out)
            have HV : Hid (heapOfV hs y.x.n.refH y.x.n.refN = #[.int .i64 (kh : Int), .int .i64 0]) := Lib.hid (by rw [heapOfV, if_neg (by rw [q1]; omega), q1])
            have HQ2 := Lib.hid q2
            have HQ3 := Lib.hid q3
            have HQ4 := Lib.hid q4
            clear q1 q2 q3 q4
            have hkh : kh < hn := by rw [← hhn.out]; exact (List.getElem?_eq_some_iff.1 HQ2.out).1
            have hkt := cell_of Y5.out 7 (.int .i64 y.x.n.turns) rfl
            have d16 := cell_of Y5.out 16 (.int .i64 y.x.n.refH) rfl
            have d17 := cell_of Y5.out 17 (.int .i64 y.x.n.refN) rfl
            have g0 := cell_of S5.out.rg 0 (.slice ha hn hc) rfl
            have g1 := cell_of S5.out.rg 1 (.slice (some ⟨be, eo, none⟩) en ec) rfl
            have g2 := cell_of S5.out.rg 2 (.slice ca cn cc) rfl
            have hzb := TS.out
            have htb := HT.out
            go_upto_region 19 with (first
              | (go_at_call 12
                 refine (heapOf_any hs ha hn hc _ _ y.x.n.refH y.x.n.refN _ (RdEs.of_rd S5.out.r1)).mono ?_
                 rintro r W6 ⟨rfl, b6⟩
                 rw [HV.out]
                 have S6 := Lib.hid (S5.out.below b6)
                 have Y6 := Lib.hid (below_blk b6 Y5.out)
                 clear b6 S5 Y5
                 dsimp only)
              | fail)
            clear hkt d16 d17 g0 g1 g2 hkd t2
            try simp only [Act.put, List.setIfInBounds_toArray, List.set_cons_zero, List.set_cons_succ]
            obtain ⟨bh, ho, ha0, hat⟩ := (RdEs.of_rd S6.out.r1).at (by omega)
            subst ha0
            have HHA := Lib.hid (hat kh h HQ2.out)
            clear hat
            obtain ⟨oh, hoh⟩ : ∃ o, Hid (ho + kh * 21 = o) := ⟨_, Lib.hid rfl⟩
            rw [hoh.out] at HHA
            have HIH := Lib.hid (fun W => idx_off (W := W) (c := hc) (b := bh) Tryz.underlying24 J21 hkh hoh.out)
            have hC0 : Below W6.heap.size W6 W6.drew := (Below.refl _ _).drew
            have LY := Lib.hid (show ∀ w0, Below W6.heap.size W6 w0 → w0.heap[p12]? = some (.cells (noteA y.x.n y.x.sa y.x.sc) 51 (0, 0)) from fun w0 h => below_blk h Y6.out)
            have LYR := Lib.hid (show ∀ w0, Below W6.heap.size W6 w0 → w0.rangeAt p12 0 (y.x.n.cells y.x.sa y.x.sc) from fun w0 h => blk_note (LY.out w0 h))
            have LR := Lib.hid (show ∀ w0, Below W6.heap.size W6 w0 → w0.heap[pR]? = some (.cells #[.slice (some ⟨bh, ho, none⟩) hn hc, .slice (some ⟨be, eo, none⟩) en ec, .slice ca cn cc] 27 (0, 0)) from fun w0 h => below_blk h S6.out.rg)
            have LH0 := Lib.hid (show ∀ w0, Below W6.heap.size W6 w0 → w0.cell? ⟨bh, oh, none⟩ = some (.int .i64 y.x.n.refH) ∧ w0.cell? ⟨bh, oh + 1, none⟩ = some (.int .i64 y.x.n.refN) from fun w0 hw => by
              have h0 := rangeAt_below HHA.out hw 0 (.int .i64 h.nm.1) rfl
              have h1 := rangeAt_below HHA.out hw 1 (.int .i64 h.nm.2) rfl
              rw [HQ3.out] at h0 h1
              exact ⟨h0, h1⟩)
            have LHN := Lib.hid (show ∀ w0, Below W6.heap.size W6 w0 → w0.rangeAt bh (oh + 2) (h.x.n.cells h.x.sa h.x.sc) from fun w0 hw => rangeAt_below (ev_at HHA.out) hw)
            have CBH := Lib.hid (fun W => before_any h.x.n y.x.n h.x.sa h.x.sc y.x.sa y.x.sc W)
            rw [decide_eq_true HQ4.out] at CBH
            have HKB : Hid (decide ((kh : Int) < 0) = false ∧ decide ((hn : Int) ≤ (kh : Int)) = false) := Lib.hid ⟨by simp, by simp; omega⟩
            refine wp_region_quiet (C := fun w' : World => Below W6.heap.size W6 w') (by kernel_rfl) (by kernel_rfl) hC0 ?_
            show wpQuiet _ _ _ _ (_ :: _) _
            go_big_quiet_want
            go_big_quiet_op
            go_big_quiet_on
            go_big_quiet_want
            refine ⟨.bool false, fun w0 hC => ?_, ?_⟩
            · clear hC
              go_simp
            simp only [Act.put, List.setIfInBounds_toArray, List.set_cons_zero, List.set_cons_succ]
            go_big_quiet_on
            go_big_quiet_want
            go_big_quiet_op
            go_big_quiet_on
            go_big_quiet_want
            go_big_quiet_op
            go_big_quiet_on
            go_big_quiet_want
            refine ⟨.bool false, fun w0 hC => ?_, ?_⟩
            · have h0 := HKB.out.1
              clear hC
              go_simp
            simp only [Act.put, List.setIfInBounds_toArray, List.set_cons_zero, List.set_cons_succ]
            go_big_quiet_on
            go_big_quiet_want
            refine ⟨.bool false, fun w0 hC => ?_, ?_⟩
            · clear hC
              go_simp
            simp only [Act.put, List.setIfInBounds_toArray, List.set_cons_zero, List.set_cons_succ]
            go_big_quiet_on
            go_big_quiet_want
            go_big_quiet_op
            go_big_quiet_on
            go_big_quiet_want
            go_big_quiet_op
            go_big_quiet_on
            go_big_quiet_want
            refine ⟨.pointer (some ⟨pR, 0, none⟩), fun w0 hC => ?_, ?_⟩
            · clear hC
              go_simp
            simp only [Act.put, List.setIfInBounds_toArray, List.set_cons_zero, List.set_cons_succ]
            go_big_quiet_on
            go_big_quiet_want
            refine ⟨.slice (some ⟨bh, ho, none⟩) hn hc, fun w0 hC => ?_, ?_⟩
            · have c0 := cell_of (LR.out w0 hC) 0 (.slice (some ⟨bh, ho, none⟩) hn hc) rfl
              clear hC
              go_simp
            simp only [Act.put, List.setIfInBounds_toArray, List.set_cons_zero, List.set_cons_succ]
            go_big_quiet_on
            go_big_quiet_want
            refine ⟨.int .i64 (hn : Int), fun w0 hC => ?_, ?_⟩
            · clear hC
              go_simp
            simp only [Act.put, List.setIfInBounds_toArray, List.set_cons_zero, List.set_cons_succ]
            go_big_quiet_on
            go_big_quiet_want
            refine ⟨.bool false, fun w0 hC => ?_, ?_⟩
            · have h0 := HKB.out.2
              clear hC
              go_simp
            simp only [Act.put, List.setIfInBounds_toArray, List.set_cons_zero, List.set_cons_succ]
            go_big_quiet_on
            go_big_quiet_want
            refine ⟨.bool false, fun w0 hC => ?_, ?_⟩
            · clear hC
              go_simp
            simp only [Act.put, List.setIfInBounds_toArray, List.set_cons_zero, List.set_cons_succ]
            go_big_quiet_on
            go_big_quiet_want
            go_big_quiet_op
            go_big_quiet_on
            go_big_quiet_want
            refine ⟨.pointer (some ⟨pR, 0, none⟩), fun w0 hC => ?_, ?_⟩
            · clear hC
              go_simp
            simp only [Act.put, List.setIfInBounds_toArray, List.set_cons_zero, List.set_cons_succ]
            go_big_quiet_on
            go_big_quiet_want
            refine ⟨.slice (some ⟨bh, ho, none⟩) hn hc, fun w0 hC => ?_, ?_⟩
            · have c0 := cell_of (LR.out w0 hC) 0 (.slice (some ⟨bh, ho, none⟩) hn hc) rfl
              clear hC
              go_simp
            simp only [Act.put, List.setIfInBounds_toArray, List.set_cons_zero, List.set_cons_succ]
            go_big_quiet_on
            go_big_quiet_want
            go_big_quiet_op
            go_big_quiet_on
            go_big_quiet_want
            refine ⟨.pointer (some ⟨bh, oh, none⟩), fun w0 hC => ?_, ?_⟩
            · have hix := HIH.out w0
              clear hC
              go_simp
            simp only [Act.put, List.setIfInBounds_toArray, List.set_cons_zero, List.set_cons_succ]
            go_big_quiet_on
            go_big_quiet_want
            refine ⟨.pointer (some ⟨bh, oh, none⟩), fun w0 hC => ?_, ?_⟩
            · clear hC
              go_simp
            simp only [Act.put, List.setIfInBounds_toArray, List.set_cons_zero, List.set_cons_succ]
            go_big_quiet_on
            go_big_quiet_want
            refine ⟨.agg #[.int .i64 y.x.n.refH, .int .i64 y.x.n.refN], fun w0 hC => ?_, ?_⟩
            · have c0 := (LH0.out w0 hC).1
              have c1 := (LH0.out w0 hC).2
              clear hC
              go_simp
            simp only [Act.put, List.setIfInBounds_toArray, List.set_cons_zero, List.set_cons_succ]
            go_big_quiet_on
            go_big_quiet_want
            refine ⟨.pointer (some ⟨p12, 16, none⟩), fun w0 hC => ?_, ?_⟩
            · clear hC
              go_simp
            simp only [Act.put, List.setIfInBounds_toArray, List.set_cons_zero, List.set_cons_succ]
            go_big_quiet_on
            go_big_quiet_want
            refine ⟨.agg #[.int .i64 y.x.n.refH, .int .i64 y.x.n.refN], fun w0 hC => ?_, ?_⟩
            · have c16 := cell_of (LY.out w0 hC) 16 (.int .i64 y.x.n.refH) rfl
              have c17 := cell_of (LY.out w0 hC) 17 (.int .i64 y.x.n.refN) rfl
              clear hC
              go_simp
            simp only [Act.put, List.setIfInBounds_toArray, List.set_cons_zero, List.set_cons_succ]
            go_big_quiet_on
            go_big_quiet_want
            refine ⟨.bool false, fun w0 hC => ?_, ?_⟩
            · clear hC
              go_simp
              try simp
            simp only [Act.put, List.setIfInBounds_toArray, List.set_cons_zero, List.set_cons_succ]
            go_big_quiet_on
            go_big_quiet_want
            refine ⟨.bool false, fun w0 hC => ?_, ?_⟩
            · clear hC
              go_simp
            simp only [Act.put, List.setIfInBounds_toArray, List.set_cons_zero, List.set_cons_succ]
            go_big_quiet_on
            go_big_quiet_want
            go_big_quiet_op
            go_big_quiet_on
            go_big_quiet_want
            refine ⟨.pointer (some ⟨pR, 0, none⟩), fun w0 hC => ?_, ?_⟩
            · clear hC
              go_simp
            simp only [Act.put, List.setIfInBounds_toArray, List.set_cons_zero, List.set_cons_succ]
            go_big_quiet_on
            go_big_quiet_want
            refine ⟨.slice (some ⟨bh, ho, none⟩) hn hc, fun w0 hC => ?_, ?_⟩
            · have c0 := cell_of (LR.out w0 hC) 0 (.slice (some ⟨bh, ho, none⟩) hn hc) rfl
              clear hC
              go_simp
            simp only [Act.put, List.setIfInBounds_toArray, List.set_cons_zero, List.set_cons_succ]
            go_big_quiet_on
            go_big_quiet_want
            go_big_quiet_op
            go_big_quiet_on
            go_big_quiet_want
            refine ⟨.pointer (some ⟨bh, oh, none⟩), fun w0 hC => ?_, ?_⟩
            · have hix := HIH.out w0
              clear hC
              go_simp
            simp only [Act.put, List.setIfInBounds_toArray, List.set_cons_zero, List.set_cons_succ]
            go_big_quiet_on
            go_big_quiet_want
            refine ⟨.pointer (some ⟨bh, oh + 2, none⟩), fun w0 hC => ?_, ?_⟩
            · clear hC
              go_simp
            simp only [Act.put, List.setIfInBounds_toArray, List.set_cons_zero, List.set_cons_succ]
            go_big_quiet_on
            go_big_quiet_want
            refine ⟨.agg (noteA h.x.n h.x.sa h.x.sc), fun w0 hC => quiet_load_note (.tmp 141) rfl bh (oh + 2) rfl h.x.n h.x.sa h.x.sc (LHN.out w0 hC), ?_⟩
            simp only [Act.put, List.setIfInBounds_toArray, List.set_cons_zero, List.set_cons_succ]
            go_big_quiet_on
            go_big_quiet_want
            refine ⟨.agg (noteA y.x.n y.x.sa y.x.sc), fun w0 hC => quiet_load_note (.tmp 12) rfl p12 0 rfl y.x.n y.x.sa y.x.sc (LYR.out w0 hC), ?_⟩
            simp only [Act.put, List.setIfInBounds_toArray, List.set_cons_zero, List.set_cons_succ]
            go_big_quiet_on
            go_big_quiet_want
            refine ⟨.bool true, fun w0 hC => ?_, ?_⟩
            · go_simp
              refine (CBH.out w0).mono ?_
              rintro e w1 ⟨rfl, b1⟩
              exact ⟨rfl, hC.trans (b1.mono hC.size)⟩
            simp only [Act.put, List.setIfInBounds_toArray, List.set_cons_zero, List.set_cons_succ]
            go_big_quiet_on
            go_big_quiet_want
            refine ⟨.bool false, fun w0 hC => ?_, ?_⟩
            · clear hC
              go_simp
            simp only [Act.put, List.setIfInBounds_toArray, List.set_cons_zero, List.set_cons_succ]
            go_big_quiet_on
            go_big_quiet_want
            refine ⟨.bool false, fun w0 hC => ?_, ?_⟩
            · clear hC
              go_simp
            simp only [Act.put, List.setIfInBounds_toArray, List.set_cons_zero, List.set_cons_succ]
            go_big_quiet_on
            refine wpQuiet_nil ?_
            intro w' hC
            have S7 := Lib.hid (S6.out.below hC)
            clear hC
            go_wp2_with fail
            go_roundw
            case rel => exact ⟨k + 1, by go_num, by omega, by rw [TSN.out, if_pos HK2.out], S7⟩
            case measure => simp [intOf]; omega
          · have t2 : (y.x.n.kind == 2) = false := by simp [hk2]
            have HK2 := Lib.hid hk2; clear hk2
            go_wp2_with fail
            go_roundw
            case rel => exact ⟨k + 1, by go_num, by omega, by rw [TSN.out, if_neg HK2.out], S5⟩
            case measure => simp [intOf]; omega
      · have t0 : decide ((k : Int) < (en : Int)) = false := by simp; omega
        have TZ : Hid (turnsSum es = tz) := Lib.hid (by rw [← htz.out, List.take_of_length_le (by rw [hen.out]; omega)])
        go_wp2_with fail
        clear g0 g1 g2 t0
        go_loopw [10, 15] (fun nn i wr2 => ∃ j : Nat, i = .int .i64 j ∧ j ≤ hn ∧ nn = .int .i64 (tz - sumI ((hs.take j).map (fun h => passSum h.nm es))) ∧ Hid (HrAt w wr2 pA pR x ha hn hc ea en ec ca cn cc hs es cs)) (fun _ i _ => hn - (intOf i).toNat)
        case atStart => exact ⟨0, rfl, Nat.zero_le _, by simp [sumI], ST⟩
        case round =>
          clear ST
          obtain ⟨j, rfl, hj, rfl, ST⟩ := hrel
          have SM := Lib.hid (sums_small RG.out.h8 RG.out.e4 j)
          obtain ⟨sz, hsz⟩ : ∃ z, Hid (sumI ((hs.take j).map (fun h => passSum h.nm es)) = z) := ⟨_, Lib.hid rfl⟩
          rw [hsz.out] at SM ⊢
          have g0 := cell_of ST.out.rg 0 (.slice ha hn hc) rfl
          have g1 := cell_of ST.out.rg 1 (.slice ea en ec) rfl
          have g2 := cell_of ST.out.rg 2 (.slice ca cn cc) rfl
          by_cases hlj : j < hn
          · have t1 : decide ((j : Int) < (hn : Int)) = true := by simp; omega
            obtain ⟨h, Hh⟩ : ∃ h, hs[j]? = some h := ⟨_, List.getElem?_eq_getElem (by rw [hhn.out]; exact hlj)⟩
            obtain ⟨ps, hps⟩ : ∃ z, Hid (passSum h.nm es = z) := ⟨_, Lib.hid rfl⟩
            have PSB : Hid (0 ≤ ps ∧ ps ≤ 4000000) := Lib.hid (by rw [← hps.out]; exact passSum_small h.nm RG.out.e4)
            have SN : Hid (sumI ((hs.take (j + 1)).map (fun h => passSum h.nm es)) = sz + ps) := Lib.hid (by rw [take_snoc Hh, List.map_append, List.map_cons, List.map_nil, sumI_snoc, hsz.out, hps.out])
            have PV := Lib.hid (fun (W : World) a b => passes_any hs es ha hn hc ea en ec (.slice ca cn cc) j W a b)
            rw [passesV_at Hh RG.out.e4, hps.out] at PV
            have h1 := PSB.out
            have h2 := SM.out
            have h3 := TS.out
            clear Hh
            go_wp2_with (first
              | (go_at_call 14
                 refine (PV.out _ (RdEs.of_rd ST.out.r1) ST.out.r2).mono ?_
                 rintro r W6 ⟨rfl, hb⟩
                 replace ST := Lib.hid (ST.out.below hb)
                 clear hb
                 dsimp only)
              | fail)
            go_roundw
            case rel => exact ⟨j + 1, by go_num, by omega, by rw [SN.out]; simp only [Value.int.injEq, true_and]; omega, ST⟩
            case measure => simp [intOf]; omega
          · have t1 : decide ((j : Int) < (hn : Int)) = false := by simp; omega
            have hz0 : tz - sz = 0 := by
              have h1 := RG.out.sum
              rw [TZ.out] at h1
              rw [← hsz.out, List.take_of_length_le (by rw [hhn.out]; omega), h1]
              omega
            rw [hz0]
            go_wp2_with fail
            clear g0 g1 g2 t1
            go_loopw [18] (fun i wr3 => ∃ q : Nat, i = .int .i64 q ∧ 1 ≤ q ∧ q ≤ 400 + 1 ∧ Hid (HrAt w wr3 pA pR x ha hn hc ea en ec ca cn cc hs es cs)) (fun i _ => cn - (intOf i).toNat)
            case atStart => exact ⟨1, rfl, Nat.le_refl _, by omega, ST⟩
            case round =>
              clear ST
              obtain ⟨q, rfl, hq1, hq4, ST⟩ := hrel
              have g0 := cell_of ST.out.rg 0 (.slice ha hn hc) rfl
              have g1 := cell_of ST.out.rg 1 (.slice ea en ec) rfl
              have g2 := cell_of ST.out.rg 2 (.slice ca cn cc) rfl
              by_cases hlq : q < cn
              · have t1 : decide ((q : Int) < (cn : Int)) = true := by simp; omega
                obtain ⟨i, hqi⟩ : ∃ i, q = i + 1 := ⟨q - 1, by omega⟩
                have HQI := Lib.hid hqi
                obtain ⟨na, Hna⟩ : ∃ na, cs[i]? = some na := ⟨_, List.getElem?_eq_getElem (by rw [hcn.out]; omega)⟩
                obtain ⟨nb, Hnb⟩ : ∃ nb, cs[q]? = some nb := ⟨_, List.getElem?_eq_getElem (by rw [hcn.out]; omega)⟩
                have HLT := Lib.hid ((nmLt_iff na nb).1 (RG.out.cs i na nb Hna (by rw [← hqi]; exact Hnb)))
                obtain ⟨bc, oc, ca0, hat⟩ := rdNm_at ST.out.r3 (by omega)
                subst ca0
                obtain ⟨ia0, ia1⟩ := hat i na Hna
                obtain ⟨ib0, ib1⟩ := hat q nb Hnb
                obtain ⟨oa, hoa⟩ : ∃ o, Hid (oc + i * 2 = o) := ⟨_, Lib.hid rfl⟩
                obtain ⟨ob, hob⟩ : ∃ o, Hid (oc + q * 2 = o) := ⟨_, Lib.hid rfl⟩
                rw [hoa.out] at ia0 ia1
                rw [hob.out] at ib0 ib1
                have hia := fun W => idx_off (W := W) (c := cc) (b := bc) Tryz.underlying25 J2 (show i < cn by omega) hoa.out
                have hib := fun W => idx_off (W := W) (c := cc) (b := bc) Tryz.underlying25 J2 hlq hob.out
                have LA1 := Lib.hid (And.intro ia0 ia1)
                have LB1 := Lib.hid (And.intro ib0 ib1)
                have hc1 : (q : Int) - 1 = (i : Int) := by omega
                clear hqi
                have HNB := Lib.hid Hnb
                clear hat Hna Hnb ib0 ib1
                go_upto_region 32 with fail
                clear ia0 ia1 hia g0 g1 g2 t1
                have hb1 : Below wr.heap.size wr (wr.alloc (.cells #[.int .i64 na.1, .int .i64 na.2] 29)) := (Below.refl _ _).alloc (Nat.le_refl _) _
                have PA1 := Lib.hid (heap_last wr (.cells #[.int .i64 na.1, .int .i64 na.2] 29))
                replace ST := Lib.hid (ST.out.below hb1)
                clear hb1
                obtain ⟨p19, hp19⟩ : ∃ p, Hid (wr.heap.size = p) := ⟨_, Lib.hid rfl⟩
                rw [hp19.out] at PA1 ⊢
                generalize wr.alloc (.cells #[.int .i64 na.1, .int .i64 na.2] 29) = wa at *
                have g0 := cell_of ST.out.rg 0 (.slice ha hn hc) rfl
                have g1 := cell_of ST.out.rg 1 (.slice ea en ec) rfl
                have g2 := cell_of ST.out.rg 2 (.slice (some ⟨bc, oc, none⟩) cn cc) rfl
                obtain ⟨bc', oc', eca, hat⟩ := rdNm_at ST.out.r3 (by omega)
                cases eca
                obtain ⟨ib0, ib1⟩ := hat q nb HNB.out
                rw [hob.out] at ib0 ib1
                clear hat
                go_upto_region 33 with fail
                clear ib0 ib1 hib g0 g1 g2
                have hb1 : Below wa.heap.size wa (wa.alloc (.cells #[.int .i64 nb.1, .int .i64 nb.2] 29)) := (Below.refl _ _).alloc (Nat.le_refl _) _
                have PB1 := Lib.hid (heap_last wa (.cells #[.int .i64 nb.1, .int .i64 nb.2] 29))
                replace PA1 := Lib.hid (below_blk hb1 PA1.out)
                replace ST := Lib.hid (ST.out.below hb1)
                clear hb1
                obtain ⟨p20, hp20⟩ : ∃ p, Hid (wa.heap.size = p) := ⟨_, Lib.hid rfl⟩
                rw [hp20.out] at PB1 ⊢
                generalize wa.alloc (.cells #[.int .i64 nb.1, .int .i64 nb.2] 29) = wb at *
                have x0 := cell_of PA1.out 0 (.int .i64 na.1) rfl
                have x1 := cell_of PA1.out 1 (.int .i64 na.2) rfl
                have y0 := cell_of PB1.out 0 (.int .i64 nb.1) rfl
                have y1 := cell_of PB1.out 1 (.int .i64 nb.2) rfl
                have hq64 : (q : Int) + 1 ≤ 9223372036854775807 := by omega
                rcases HLT.out with hl | hl
                · have t2 : decide (nb.1 < na.1) = false := by simp; omega
                  have t3 : (na.1 == nb.1) = false := by simp; omega
                  have HL := Lib.hid hl; clear hl
                  go_wp2_with fail
                  go_roundw
                  case rel => exact ⟨q + 1, by go_num, by omega, by have := NC.out; omega, ST⟩
                  case measure => simp [intOf]; omega
                · have t2 : decide (nb.1 < na.1) = false := by simp; omega
                  have t3 : (na.1 == nb.1) = true := by simp; omega
                  have t4 : decide (nb.2 ≤ na.2) = false := by simp; omega
                  have HL := Lib.hid hl; clear hl
                  go_wp2_with fail
                  go_roundw
                  case rel => exact ⟨q + 1, by go_num, by omega, by have := NC.out; omega, ST⟩
                  case measure => simp [intOf]; omega
              · have t1 : decide ((q : Int) < (cn : Int)) = false := by simp; omega
                go_wp2_with fail
                go_ret
                exact ⟨rfl, ST.out.bel⟩
end Go.Proofs.YtpjiakgfegnmcaaGreat
namespace Go.Proofs.YtpjiakgfegnmcaaGreat
open Go.ChangeShapes Go.WideShapes Go.ChangeAt Go.RowKit

set_option maxRecDepth 100000 in
theorem historyRegisters_lifted (os : Os) (started : os.Started) (H : Type) (enc : TypeId × Value → H) :
    ReturnsInHanded {} Tryz.checked os 4 .any (Rows.historyRegistersSpec.pre6 enc Tryz.prog Tryz.f4 Rows.historyRegistersRow.domain false) (Rows.historyRegistersSpec.post enc Tryz.prog Tryz.f4 false true false false) := by
  refine returnsInHanded_of_change (C := Tryz.checked) Tryz.own started (by kernel_rfl) Tryz.func4
    (ChangeSpec.witness6 (enc := enc) (C := Tryz.checked) false ⟨#[], #[.agg #[.int .i64 0, .int .i64 0, .int .i64 0], .slice none 0 0, .agg #[.int .i64 0, .int .i64 0, .int .i64 0, .int .i64 0, .int .i64 0, .int .i64 0, .int .i64 0]], []⟩ 8 (by kernel_rfl) (by kernel_rfl) (by kernel_rfl) (by kernel_rfl)) ?_
  intro W base args ds gs before hval0 hW hcnd _
  have hval : ∀ (j : Nat) t v, Tryz.f4.params[j]? = some t → args[j]? = some v → Value.okWide Tryz.prog W .any base t v := hval0
  have hW' := hW
  obtain ⟨p, q, hA0, hV, rfl, hfz, hnd⟩ := hW
  have hA : DataW.TrodAll enc Tryz.prog W 0 (fun _ => true) true Tryz.f4.params.toList args.toList ds p := hA0
  have hA1 := hA
  rw [Tryz.params4] at hA hval
  obtain ⟨v0, v1, v2, d0, d1, d2, p0, p1, p2, rfl, rfl, rfl, h0, h1, h2⟩ := trodAll_three hA
  obtain ⟨rfl, rfl⟩ := trodVars_none hV
  obtain ⟨f, rfl⟩ := hopen_frame (hval 0 23 v0 rfl rfl) h0
  obtain ⟨a, n, c, l, rfl, r1, r2⟩ := open_notes (hval 1 43 v1 rfl rfl) h1
  obtain ⟨x, rfl, _⟩ := open_ask (hval 2 31 v2 rfl rfl) h2
  clear hA0 hval0
  simp only [List.append_nil] at hW'
  refine (hregs_any f a n c l x W r1 r2).mono fun e W' ⟨he, hb⟩ => ?_
  subst he
  exact ⟨_, rfl, post_of_law Tryz.laidOut Tryz.underlying4 rfl (by kernel_rfl) (by kernel_rfl) hW' hA1 rfl hb⟩

theorem historyRegisters_holds : Rows.HistoryRegistersSaid :=
  OpenClaim.holds_of_wide 4 Tryz.f4 rfl rfl rfl rfl rfl rfl rfl ⟨rfl, rfl, rfl, rfl, rfl⟩ rfl rfl rfl rfl rfl (by kernel_rfl) Tryz.func4 (by kernel_rfl)
    (of_decide_eq_true (by kernel_rfl)) (by unfold Func.isWrapper; first | (rw [if_pos (by decide +kernel)]; kernel_rfl) | (rw [if_neg (by decide +kernel)]; exact ⟨rfl, rfl⟩))
    (fun os started H enc _ => historyRegisters_lifted os started H enc)
#print axioms historyRegisters_holds
end Go.Proofs.YtpjiakgfegnmcaaGreat
