/- The given card StonesBack, proved: the law returns true at every input, and its arguments read as before; the listed variables are tied to the program's text. -/
import Derived.ChangeMaps5
import Derived.Test.YtimmadkbkimonaaGreatDoorCards
import Derived.Test.YtimmadkbkimonaaGreatDoorTie
import Derived.Deep.DeepHandedRow
import Derived.LaidMore
import Derived.Lay
import Derived.SevenTiedAt
import Derived.Stop.Joined
import Derived.Test.YtimmadkbkimonaaGreatDoorKPsk6
set_option linter.unusedSimpArgs false
set_option linter.unusedVariables false
open List renaming getElem_toArray → lq0, getElem_cons_succ → lq1, getElem_cons_zero → lq2, setIfInBounds_toArray → lq3, set_cons_zero → lq4, set_cons_succ → lq5
namespace Go.Proofs.YtimmadkbkimonaaGreatDoor
open Go.ChangeShapes Go.WideShapes Go.ChangeAt Go.RowKit

set_option maxRecDepth 100000 in
theorem stonesBack_lifted (os : Os) (started : os.Started) (H : Type) (enc : TypeId × Value → H) (F : Stop.Interp) :
    ReturnsInHanded {} Tryz.checked os 9 .any ((OpenSpec.ofChange Rows.stonesBackSpec).preRow enc Tryz.prog Tryz.f9 Rows.stonesBackRow.domain false Rows.stonesBackRow.laid) (((OpenSpec.ofChange Rows.stonesBackSpec).at F).post enc Tryz.prog Tryz.f9 false true false false) := by
  refine returnsInHanded_of_row (C := Tryz.checked) (s := OpenSpec.ofChange Rows.stonesBackSpec) Tryz.own started (by kernel_rfl) Tryz.func9
    (ChangeSpec.witness_shaped (enc := enc) (C := Tryz.checked) (os := os) (X := fun w _ => laidMetH Tryz.prog Rows.stonesBackRow.laid w) false (World.laidAll Tryz.prog os Rows.stonesBackRow.laid) #[.agg #[.int .i64 0, .int .i64 0, .int .i64 0, .slice none 0 0], .string ⟨#[]⟩, .string ⟨#[]⟩] 8 (World.laidAll_os _ _ _)
      (World.shaped_of_ZipB (by kernel_rfl) (by kernel_rfl)) (by kernel_rfl) (by kernel_rfl) (by kernel_rfl)
      (by rw [MakeChecks.laidMetH_plain _ _ _ (by kernel_rfl)]; exact laidMet_laidAll _ (by kernel_rfl) (by kernel_rfl))) ?_
  intro W base args ds gs before hval0 hW hcnd _ _ hL hsh _
  have hval : ∀ (j : Nat) t v, Tryz.f9.params[j]? = some t → args[j]? = some v → Value.okWide Tryz.prog W .any base t v := hval0
  have hW' := hW
  obtain ⟨p, q, hA0, hV, rfl, hfz, hnd⟩ := hW
  have hA : DataW.TrodAll enc Tryz.prog W 0 (fun _ => true) true Tryz.f9.params.toList args.toList ds p := hA0
  have hA1 := hA
  rw [Tryz.params9] at hA hval
  obtain ⟨v0, v1, v2, d0, d1, d2, p0, p1, p2, rfl, rfl, rfl, h0, h1, h2⟩ := trodAll_three hA
  obtain ⟨rfl, rfl⟩ := trodVars_none hV
  obtain ⟨f, fa, fn, rfl, fr⟩ := open_face (hval 0 28 v0 rfl rfl) h0
  obtain ⟨s, rfl, _, _, sw⟩ := Go.ChangeMaps.open_string Tryz.underlying9 (hval 1 9 v1 rfl rfl) h1
  obtain ⟨more, rfl, _, _, morew⟩ := Go.ChangeMaps.open_string Tryz.underlying9 (hval 2 9 v2 rfl rfl) h2
  clear hA0 hval0
  simp only [List.append_nil] at hW'
  refine (back_any f fa fn s more W (env_of hL hsh) fr).mono fun e W' ⟨he, hb⟩ => ?_
  subst he
  exact ⟨_, rfl, post_of_law Tryz.laidOut Tryz.underlying4 rfl (by kernel_rfl) (by kernel_rfl) hW' hA1 rfl hb⟩
theorem stonesBack_said : Rows.StonesBackSaid :=
  OpenClaim.holds_of_cond 9 Tryz.f9 rfl rfl rfl rfl rfl rfl rfl ⟨rfl, rfl, rfl, rfl, rfl⟩ rfl rfl rfl rfl rfl (by kernel_rfl) Tryz.func9 (by kernel_rfl)
    (of_decide_eq_true (by kernel_rfl)) (by unfold Func.isWrapper; first | (rw [if_pos (by decide +kernel)]; kernel_rfl) | (rw [if_neg (by decide +kernel)]; exact ⟨rfl, rfl⟩))
    (fun os started H enc _ F => by rw [OpenClaim.pre_eq_preRow]; exact stonesBack_lifted os started H enc F)
theorem stonesBack_plain (f : FuncId) (fn : Func) (hf : Tryz.pinned.checked.prog.funcNamed "millrind/millrindlaw01.StonesBack" = some f) (hfn : Tryz.pinned.checked.prog.funcs[f]? = some fn) :
    true = Tryz.pinned.checked.prog.looks [] ∧ ∀ (j : Nat) t, fn.params[j]? = some t → Tryz.pinned.checked.prog.wantsStandIn t = false := by
  obtain rfl : f = 9 := Option.some.inj ((show Tryz.prog.funcNamed "millrind/millrindlaw01.StonesBack" = some 9 by kernel_rfl).symm.trans hf) |>.symm
  obtain rfl : fn = Tryz.f9 := (Option.some.inj (Tryz.func9.symm.trans hfn)).symm
  refine ⟨by kernel_rfl, fun j t ht => ?_⟩
  rw [Tryz.params9] at ht
  have hm := Array.mem_of_getElem? ht
  have hall : (#[28, 9, 9] : Array TypeId).all (fun t => Tryz.prog.wantsStandIn t == false) = true := by kernel_rfl
  have := Array.all_eq_true'.1 hall t hm
  have h2 : Tryz.prog.wantsStandIn t = false := by simpa using this
  exact h2
theorem stonesBack_holds : Rows.StonesBackCardSaid :=
  Claim7.holds_tied_plain_at .later [] _ _ _ _ stonesBack_said (fun _ h => by cases h) (by kernel_rfl) (fun _ h => by cases h) stonesBack_row_tie rfl ⟨rfl, rfl⟩ (by kernel_rfl) rfl stonesBack_plain (by kernel_rfl)
#print axioms stonesBack_holds
end Go.Proofs.YtimmadkbkimonaaGreatDoor
