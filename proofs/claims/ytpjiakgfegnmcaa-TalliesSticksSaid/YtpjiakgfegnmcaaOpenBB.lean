/- A [][]byte that came in reads as some lists of bytes. -/
import Derived.Test.YtpjiakgfegnmcaaOpen
import Derived.Test.YtpjiakgfegnmcaaNotch
namespace Go.Proofs.Ytpjiakgfegnmcaa
open Go.ChangeShapes Go.WideShapes Go.ChangeAt Go.RowKit

theorem Try.cells22 : Try.prog.cellsOf 22 = 1 := by kernel_rfl

/-- One slice of bytes, as a reading finds it. -/
theorem open_rd1 {H : Type} {enc : TypeId × Value → H} {W : World} {fuel : Nat} {cs : List Value} {y : DataW H × List MemPlace}
    (h : DataW.trod enc Try.prog W 0 (fun _ => true) true fuel 22 cs = some y) : ∃ a n c l, cs = [.slice a n c] ∧ RdB W a n c l := by
  rcases open_ints Try.underlying22 Try.underlying5 Try.cells5 h with ⟨hcs, hx⟩ | ⟨a, n, c, zs, hcs, _, hl, hm, hz, hx, hcell, hwz⟩
  · exact ⟨none, 0, 0, [], hcs, RdA.nil _ _⟩
  · simp only [if_true] at hz
    refine ⟨some a, n, c, (zs.take n).map fun z => UInt8.ofNat z.toNat, hcs, by simp; omega, hl, hm, ?_⟩
    by_cases hc0 : c = 0
    · exact .inl hc0
    · obtain ⟨ab, ao, spot⟩ := a
      have hspot : spot = none := by simpa [Addr.add] using World.cell?_spot (hcell 0 (by omega))
      subst hspot
      refine .inr ⟨ab, ao, rfl, fun i x hx => ?_⟩
      rw [List.map_map, List.getElem?_map, List.getElem?_take] at hx
      split at hx
      · rename_i hi
        have hiz : i < zs.length := by omega
        rw [List.getElem?_eq_getElem hiz, Option.map_some] at hx
        simp only [Option.some.injEq] at hx
        subst hx
        have hc := hcell i hiz
        rw [Addr.add_lit] at hc
        rw [hc, List.getD_eq_getElem?_getD, List.getElem?_eq_getElem hiz]
        have hb := hwz _ (List.getElem_mem hiz)
        simp [Lit.wf, IntKind.min, IntKind.max, IntKind.signed, IntKind.bits] at hb
        simp only [Option.getD_some, Function.comp, byteV, UInt8.toNat_ofNat', Option.some.injEq, Value.int.injEq, true_and]
        omega
      · cases hx

set_option maxRecDepth 100000 in
theorem open_rdbb {H : Type} {enc : TypeId × Value → H} {W : World} {base : Nat} {v : Value} {d : DataW H} {p : List MemPlace} (hval : Value.okWide Try.prog W .any base 27 v)
    (h : DataW.Trod enc Try.prog W 0 (fun _ => true) true 27 v d p) : ∃ a n c ls, v = .slice a n c ∧ RdBB W a n c ls := by
  obtain ⟨a1, n, c, rfl⟩ := okWide_slice Try.underlying27 hval
  obtain ⟨fuel, hf⟩ := h
  rcases DataW.trod_slice Try.underlying27 hf with ⟨hcs, hx⟩ | ⟨a, len', cap', elems, rest, m, _, hcs, hx, hb, hl, hm, hlen, hel, hsp, hns⟩
  · simp [Value.cells] at hcs
    obtain ⟨rfl, rfl, rfl⟩ := hcs
    exact ⟨none, 0, 0, [], rfl, RdBB.nil _⟩
  · simp [Value.cells] at hcs
    obtain ⟨rfl, rfl, rfl⟩ := hcs
    have hspot : a.spot = none := by
      simp only [Value.okWide, Try.underlying27, Cell.okWide, Cell.ok] at hval
      exact hval.2.2.2.1
    obtain ⟨ab, ao, spot⟩ := a
    simp only at hspot
    subst hspot
    rw [Try.cells22] at hel
    have each : ∀ i, i < n → ∃ ai ni ci li, W.cell? ⟨ab, ao + i, none⟩ = some (.slice ai ni ci) ∧ RdB W ai ni ci li := by
      intro i hi
      have h1 := hel i hi
      rw [List.getElem?_eq_getElem (by omega)] at h1
      cases hcs : W.cells? 0 ((⟨ab, ao, none⟩ : Addr).add (i * 1)) 1 with
      | none => rw [hcs] at h1; cases h1
      | some cs =>
        rw [hcs] at h1
        obtain ⟨ai, ni, ci, li, rfl, hr⟩ := open_rd1 h1
        refine ⟨ai, ni, ci, li, ?_, hr⟩
        have h2 := (World.cells?_some hcs).2.2 0 (by omega)
        simpa [Addr.add_lit] using h2
    obtain ⟨f, hf⟩ : ∃ f : Nat → Option Addr × Nat × Nat × List UInt8, ∀ i, i < n → W.cell? ⟨ab, ao + i, none⟩ = some (.slice (f i).1 (f i).2.1 (f i).2.2.1) ∧ RdB W (f i).1 (f i).2.1 (f i).2.2.1 (f i).2.2.2 := by
      have h3 : ∀ i : Nat, ∃ y : Option Addr × Nat × Nat × List UInt8, i < n → W.cell? ⟨ab, ao + i, none⟩ = some (.slice y.1 y.2.1 y.2.2.1) ∧ RdB W y.1 y.2.1 y.2.2.1 y.2.2.2 := by
        intro i
        by_cases hi : i < n
        · obtain ⟨ai, ni, ci, li, h4, h5⟩ := each i hi
          exact ⟨(ai, ni, ci, li), fun _ => ⟨h4, h5⟩⟩
        · exact ⟨(none, 0, 0, []), fun h => absurd h hi⟩
      exact ⟨fun i => (h3 i).choose, fun i => (h3 i).choose_spec⟩
    refine ⟨_, n, c, (List.range n).map fun i => (f i).2.2.2, rfl, (List.range n).map (fun i => .slice (f i).1 (f i).2.1 (f i).2.2.1), ⟨by simp, hl, hm, .inr ⟨ab, ao, rfl, fun i x hx => ?_⟩⟩, by simp, fun i hi => ?_⟩
    · rw [List.getElem?_map] at hx
      by_cases hi : i < n
      · rw [List.getElem?_range hi, Option.map_some] at hx
        cases hx
        exact (hf i hi).1
      · rw [List.getElem?_eq_none (by simp; omega)] at hx
        cases hx
    · have h6 : ((List.range n).map fun i => (f i).2.2.2)[i]?.getD [] = (f i).2.2.2 := by rw [List.getElem?_map, List.getElem?_range hi]; rfl
      have h7 := (hf i hi).2
      rw [h6, h7.len, List.getElem?_map, List.getElem?_range hi]
      exact ⟨_, _, rfl, h7⟩
end Go.Proofs.Ytpjiakgfegnmcaa
