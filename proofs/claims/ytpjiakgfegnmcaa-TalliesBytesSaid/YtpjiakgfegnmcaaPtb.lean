/- The given row TalliesBytes, proved: whatever the input, true, and the input reads as it did. -/
import Derived.Test.YtpjiakgfegnmcaaTb
import Derived.Test.YtpjiakgfegnmcaaOpenNote
import Derived.Deep.Strs
namespace Go.Proofs.Ytpjiakgfegnmcaa
open Go.ChangeShapes Go.WideShapes Go.ChangeAt Go.RowKit

theorem Try.cells61 : Try.prog.cellsOf 61 = 3 := by kernel_rfl
set_option maxRecDepth 100000 in
theorem open_frame {H : Type} {enc : TypeId × Value → H} {W : World} {base : Nat} {v : Value} {d : DataW H} {p : List MemPlace} (hval : Value.okWide Try.prog W .any base 61 v)
    (h : DataW.Trod enc Try.prog W 0 (fun _ => true) true 61 v d p) : ∃ f : FrV, v = f.val := by
  obtain ⟨cs, rfl, hsz⟩ := okWide_struct Try.underlying61 hval
  obtain ⟨fuel, hf⟩ := h
  obtain ⟨y0, y1, y2, n, _, hl, g0, g1, g2⟩ := Go.Deep.trod_struct3 Try.underlying61 hf
  rw [Try.cells61] at hsz
  obtain ⟨l⟩ := cs
  match l, hsz with
  | [c0, c1, c2], _ =>
    have g0' : DataW.trod enc Try.prog W 0 (fun _ => true) true n 3 (([c0, c1, c2].drop 0).take (Try.prog.cellsOf 3)) = some y0 := g0
    have g1' : DataW.trod enc Try.prog W 0 (fun _ => true) true n 3 (([c0, c1, c2].drop 1).take (Try.prog.cellsOf 3)) = some y1 := g1
    have g2' : DataW.trod enc Try.prog W 0 (fun _ => true) true n 3 (([c0, c1, c2].drop 2).take (Try.prog.cellsOf 3)) = some y2 := g2
    rw [Try.cells3] at g0' g1' g2'
    obtain ⟨x0, a0, _, _⟩ := DataW.trod_int Try.underlying3 g0'
    obtain ⟨x1, a1, _, _⟩ := DataW.trod_int Try.underlying3 g1'
    obtain ⟨x2, a2, _, _⟩ := DataW.trod_int Try.underlying3 g2'
    simp at a0 a1 a2
    exact ⟨⟨x0, x1, x2⟩, by rw [a0, a1, a2]; rfl⟩
set_option maxRecDepth 100000 in
theorem open_note {H : Type} {enc : TypeId × Value → H} {W : World} {base : Nat} {v : Value} {d : DataW H} {p : List MemPlace} (hval : Value.okWide Try.prog W .any base 43 v)
    (h : DataW.Trod enc Try.prog W 0 (fun _ => true) true 43 v d p) : ∃ (n : NoteV) (sa : Option Addr) (sc : Nat), v = .agg (noteA n sa sc) ∧ RdI W sa n.strokes.length sc n.strokes := by
  obtain ⟨cs, rfl, _⟩ := okWide_struct Try.underlying43 hval
  obtain ⟨fuel, hf⟩ := h
  obtain ⟨n, sa, sc, h1, h2, _⟩ := open_note1 hf
  have h1' : cs.toList = n.cells sa sc := h1
  exact ⟨n, sa, sc, by rw [noteA, ← h1'], h2⟩
set_option maxRecDepth 100000 in
theorem talliesBytes_lifted (os : Os) (started : os.Started) (H : Type) (enc : TypeId × Value → H) :
    ReturnsInHanded {} Try.checked os 6 .any (Rows.talliesBytesSpec.pre6 enc Try.prog Try.f6 Rows.talliesBytesRow.domain false) (Rows.talliesBytesSpec.post enc Try.prog Try.f6 false true false false) := by
  refine returnsInHanded_of_change (C := Try.checked) Try.own started (by kernel_rfl) Try.func6
    (ChangeSpec.witness6 (enc := enc) (C := Try.checked) false ⟨#[], #[.agg #[.int .i64 0, .int .i64 0, .int .i64 0], .agg #[.int .i64 0, .int .i64 0, .int .i64 0, .int .i64 0, .int .i64 0, .int .i64 0, .int .i64 0, .int .i64 0, .int .i64 0, .int .i64 0, .int .i64 0, .int .i64 0, .int .i64 0, .int .i64 0, .int .i64 0, .slice none 0 0, .int .i64 0, .int .i64 0, .int .i64 0], .slice none 0 0], []⟩ 8 (by kernel_rfl) (by kernel_rfl) (by kernel_rfl) (by kernel_rfl)) ?_
  intro W base args ds gs before hval0 hW hcnd _
  have hval : ∀ (j : Nat) t v, Try.f6.params[j]? = some t → args[j]? = some v → Value.okWide Try.prog W .any base t v := hval0
  have hW' := hW
  obtain ⟨p, q, hA0, hV, rfl, hfz, hnd⟩ := hW
  have hA : DataW.TrodAll enc Try.prog W 0 (fun _ => true) true Try.f6.params.toList args.toList ds p := hA0
  have hA1 := hA
  rw [Try.params6] at hA hval
  obtain ⟨v0, v1, v2, d0, d1, d2, p0, p1, p2, rfl, rfl, rfl, h0, h1, h2⟩ := trodAll_three hA
  obtain ⟨rfl, rfl⟩ := trodVars_none hV
  obtain ⟨f, rfl⟩ := open_frame (hval 0 61 v0 rfl rfl) h0
  obtain ⟨n, sa, sc, rfl, r1⟩ := open_note (hval 1 43 v1 rfl rfl) h1
  obtain ⟨a2, n2, c2, l2, rfl, r2⟩ := open_rd (hval 2 22 v2 rfl rfl) h2
  clear hA0 hval0
  simp only [List.append_nil] at hW'
  refine (tbytes_any f n sa sc a2 n2 c2 l2 W r1 r2).mono fun e W' ⟨he, hb⟩ => ?_
  subst he
  exact ⟨_, rfl, post_of_law Try.laidOut Try.underlying4 rfl (by kernel_rfl) (by kernel_rfl) hW' hA1 rfl hb⟩

theorem talliesBytes_holds : Rows.TalliesBytesSaid :=
  OpenClaim.holds_of_wide 6 Try.f6 rfl rfl rfl rfl rfl rfl rfl ⟨rfl, rfl, rfl, rfl, rfl⟩ rfl rfl rfl rfl rfl (by kernel_rfl) Try.func6 (by kernel_rfl)
    (of_decide_eq_true (by kernel_rfl)) (by unfold Func.isWrapper; first | (rw [if_pos (by decide +kernel)]; kernel_rfl) | (rw [if_neg (by decide +kernel)]; exact ⟨rfl, rfl⟩))
    (fun os started H enc _ => talliesBytes_lifted os started H enc)
#print axioms talliesBytes_holds
end Go.Proofs.Ytpjiakgfegnmcaa
