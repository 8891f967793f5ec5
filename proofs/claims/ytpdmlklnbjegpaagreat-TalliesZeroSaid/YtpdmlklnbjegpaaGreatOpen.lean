/- What every row of this work shares: a law of the template 'true whatever the input' holds where its call gives true and leaves all old memory; []byte arguments opened. -/
import Derived.Test.YtpdmlklnbjegpaaGreatRows
import Derived.ProofKit
import Derived.OpenShut
import Derived.Test.YtpdmlklnbjegpaaGreatBase
namespace Go.Proofs.YtpdmlklnbjegpaaGreat
open Go.ChangeShapes Go.WideShapes Go.ChangeAt Go.RowKit

theorem Tryz.own : ownKnob Tryz.prog.godebug = none := by kernel_rfl
theorem Tryz.laidOut : laidOutB Tryz.prog = true := by kernel_rfl

/-- All arguments read behind the call as before. -/
theorem below_trodAll {H : Type} {enc : TypeId × Value → H} {P : Program} (hl : laidOutB P = true) {W W' : World} (hb : Below W.heap.size W W') :
    ∀ (ts : List TypeId) {vs : List Value} {ds : List (DataW H)} {ps : List MemPlace}, ts.all (fun t => P.readableRec t && decide (t < P.types.size)) = true → (∀ x ∈ ps, x.block < W.heap.size) →
      DataW.TrodAll enc P W 0 (fun _ => true) true ts vs ds ps → DataW.TrodAll enc P W' 0 (fun b => decide (b < W.heap.size)) true ts vs ds ps
  | [], [], [], _, _, _, h => h
  | [], _ :: _, _, _, _, _, h => h.elim
  | [], [], _ :: _, _, _, _, h => h.elim
  | _ :: _, [], _, _, _, _, h => h.elim
  | _ :: _, _ :: _, [], _, _, _, h => h.elim
  | t :: ts, v :: vs, d :: ds, ps, hr, hlt, h => by
    obtain ⟨p, q, h1, h2, rfl⟩ := h
    simp only [List.all_cons, Bool.and_eq_true, decide_eq_true_eq] at hr
    exact ⟨p, q, Below.trod hl hr.1.1 hr.1.2 h1 hb (fun x hx => hlt x (List.mem_append_left _ hx)), below_trodAll hl hb ts hr.2 (fun x hx => hlt x (List.mem_append_right _ hx)) h2, rfl⟩

/-- The row's end: the value true; the arguments as they were. -/
theorem post_of_law {H : Type} {enc : TypeId × Value → H} {P : Program} (hl : laidOutB P = true) {t : TypeId} (ht : P.underlying t = some .bool) {f : Func} {s : ChangeSpec} {W W' : World} {args : Array Value} {ds : List (DataW H)} {ps : List MemPlace}
    (hv : s.vars = []) (hf : f.resultTypes = #[t]) (hr : f.params.toList.all (fun t => P.readableRec t && decide (t < P.types.size)) = true)
    (hW : DataW.Whole enc P f.params.toList s.vars false W args.toList ds [] ps) (hA : DataW.TrodAll enc P W 0 (fun _ => true) true f.params.toList args.toList ds ps)
    (hs : s.fn H (ds ++ []) = { results := [.lit (.bool true)], args := ds }) (hb : Below W.heap.size W W') : s.post enc P f false true false false W args (.bool true) W' := by
  refine ⟨ds, [], ps, [], ps, [], hW, ?_, ?_, ?_, hb.frame _, fun h => by cases h⟩
  · rw [hs, hf]
    exact trodAll_mk1 (shut_bool ht _)
  · rw [hs]
    exact below_trodAll hl hb _ hr hW.lt hA
  · rw [hs, hv]
    rfl

theorem Tryz.cells5 : Tryz.prog.cellsOf 5 = 1 := by kernel_rfl

set_option maxRecDepth 100000 in
/-- A []byte that came in reads as some bytes. -/
theorem open_rd {H : Type} {enc : TypeId × Value → H} {W : World} {base : Nat} {v : Value} {d : DataW H} {p : List MemPlace} (hval : Value.okWide Tryz.prog W .any base 41 v)
    (h : DataW.Trod enc Tryz.prog W 0 (fun _ => true) true 41 v d p) : ∃ a n c l, v = .slice a n c ∧ RdB W a n c l := by
  obtain ⟨a1, n, c, rfl⟩ := okWide_slice Tryz.underlying41 hval
  refine ⟨a1, n, c, ?_⟩
  obtain ⟨fuel, hf⟩ := h
  rcases open_ints Tryz.underlying41 Tryz.underlying5 Tryz.cells5 hf with ⟨hcs, hx⟩ | ⟨a, len', cap', zs, hcs, _, hl, hm, hz, hx, hcell, hwz⟩
  · simp [Value.cells] at hcs
    obtain ⟨rfl, rfl, rfl⟩ := hcs
    exact ⟨[], rfl, RdA.nil _ _⟩
  · simp [Value.cells] at hcs
    obtain ⟨rfl, rfl, rfl⟩ := hcs
    simp only [if_true] at hz
    have hspot : a.spot = none := by
      simp only [Value.okWide, Tryz.underlying41, Cell.okWide, Cell.ok] at hval
      exact hval.2.2.2.1
    obtain ⟨ab, ao, spot⟩ := a
    simp only at hspot
    subst hspot
    have hlen : ((zs.take n).map fun z => UInt8.ofNat z.toNat).length = n := by simp; omega
    refine ⟨(zs.take n).map fun z => UInt8.ofNat z.toNat, rfl, by simp; omega, hl, hm, .inr ⟨ab, ao, rfl, fun i x hx => ?_⟩⟩
    rw [List.map_map, List.getElem?_map, List.getElem?_take] at hx
    split at hx
    · rename_i hi
      have hiz : i < zs.length := by omega
      rw [List.getElem?_eq_getElem hiz, Option.map_some] at hx
      simp only [Option.some.injEq] at hx
      subst hx
      have hc := hcell i hiz
      rw [Addr.add_lit] at hc
      rw [hc, List.getD_eq_getElem?_getD, List.getElem?_eq_getElem hiz]
      have hb := hwz _ (List.getElem_mem hiz)
      simp [Lit.wf, IntKind.min, IntKind.max, IntKind.signed, IntKind.bits] at hb
      simp only [Option.getD_some, Function.comp, byteV, UInt8.toNat_ofNat', Option.some.injEq, Value.int.injEq, true_and]
      omega
    · cases hx
end Go.Proofs.YtpdmlklnbjegpaaGreat
