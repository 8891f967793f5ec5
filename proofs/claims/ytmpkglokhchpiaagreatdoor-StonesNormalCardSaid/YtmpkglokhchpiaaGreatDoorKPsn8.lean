/- Parts of the proof, in this order: StonesPatterns is true; A pattern out of a reading; StonesNormal is true. -/
import Derived.Test.YtmpkglokhchpiaaGreatDoorKPsn7
set_option linter.unusedSimpArgs false
set_option linter.unusedVariables false
open List renaming getElem_toArray → lq0, getElem_cons_succ → lq1, getElem_cons_zero → lq2, setIfInBounds_toArray → lq3, set_cons_zero → lq4, set_cons_succ → lq5
namespace Go.Proofs.YtmpkglokhchpiaaGreatDoor
set_option linter.unusedSimpArgs false
set_option linter.unusedVariables false
open Go.RowKit

def gT (x : FurV) : Bool := decide (x.lean ≤ x.leans * (x.steep + x.feather - 1)) && decide (-(x.leans * (x.steep + x.feather - 1)) ≤ x.lean)
def gK (p : PatV) (k : Nat) : Bool := (p.furs.take k).all gT
theorem gK_succ (p : PatV) {k : Nat} {x : FurV} (h : p.furs[k]? = some x) : gK p (k + 1) = (gK p k && gT x) := by
  unfold gK
  rw [List.take_add_one, h, List.all_append]
  simp
theorem gK_all (p : PatV) : gK p p.furs.length = gentleB p := by
  unfold gK gentleB
  rw [List.take_length]
  rfl
theorem rdfu_at {W : World} {b off n c k : Nat} {l : List FurV} {x : FurV} (h : RdFu W (some ⟨b, off, none⟩) n c l) (hx : l[k]? = some x) : W.cell? ⟨b, off + k * 6, none⟩ = some (.int .i64 x.at_) ∧ W.cell? ⟨b, off + k * 6 + 1, none⟩ = some (.int .i64 x.from_) ∧ W.cell? ⟨b, off + k * 6 + 2, none⟩ = some (.int .i64 x.lean) ∧ W.cell? ⟨b, off + k * 6 + 3, none⟩ = some (.int .i64 x.leans) ∧ W.cell? ⟨b, off + k * 6 + 4, none⟩ = some (.int .i64 x.steep) ∧ W.cell? ⟨b, off + k * 6 + 5, none⟩ = some (.int .i64 x.feather) := by
  obtain ⟨b2, o2, e, h2⟩ := h.get hx
  simp only [Option.some.injEq, Addr.mk.injEq, and_true] at e
  rw [e.1, e.2]
  exact h2
theorem qsizeU : (Tryz.prog.info? 67).map (·.size) = some 6 := by kernel_rfl
theorem qoneU (x : FurV) : (furA x).all (·.oneCell') = true := by simp [furA, Value.oneCell']
set_option maxHeartbeats 4000000 in
set_option maxRecDepth 100000 in
theorem patterns_any (p : PatV) (fa : Option Addr) (fn : Nat) (w : World) (he : EnvW w) (hr : RdFu w fa p.furs.length fn p.furs) :
    Calls Tryz.prog 11 #[.agg (patA p fa fn)] w fun e w' => e = .returned (.bool true) ∧ Below w.heap.size w w' := by
  have EV := Lib.hid (fun W (hb : Below w.heap.size w W) => he.below hb)
  have HR := Lib.hid hr
  clear he hr
  have AL := Lib.hid (al1 w (.cells (patA p fa fn) 24))
  go_enter Tryz.func11, Tryz.ntmps11
  go_upto_region 1 with fail
  obtain ⟨q, hq⟩ : ∃ q, Hid (w.heap.size = q) := ⟨_, Lib.hid rfl⟩
  rw [hq.out] at AL ⊢
  generalize (w.alloc (.cells (patA p fa fn) 24)) = W0 at *
  have BF : Hid (Below w.heap.size w W0) := Lib.hid (by rw [hq.out]; exact AL.out.1)
  have XP : Hid (W0.heap[q]? = some (.cells (patA p fa fn) 24 (0, 0))) := Lib.hid AL.out.2
  clear AL
  have c0 := qcell XP.out 0 (.int .i64 p.eye) rfl
  have c1 := qcell XP.out 1 (.int .i64 p.rings) rfl
  have c2 := qcell XP.out 2 (.int .i64 p.harps) rfl
  have c3 := qcell XP.out 3 (.int .i64 p.wide) rfl
  have c4 := qcell XP.out 4 (.slice fa p.furs.length fn) rfl
  clear c0 c1 c2 c3 c4
  replace HR := Lib.hid (HR.out.below BF.out)
  go_upto_region 1 with fail
  refine yB ?_
  refine yR (fun K hK => ?_)
  go_simp
  refine (awake_any _ (EV.out _ BF.out)).mono ?_
  rintro e U1 ⟨rfl, b⟩
  replace BF := Lib.hid (BF.out.trans (b.mono BF.out.size))
  replace HR := Lib.hid (HR.out.below b)
  replace XP := Lib.hid (qblk b XP.out)
  clear b
  try dsimp only
  refine yK hK ?_
  clear hK K
  refine yM (.bool true) ?_
  refine yE ?_
  go_upto_region 2 with fail
  refine yB ?_
  refine yW (.pointer (some ⟨q, 4, none⟩)) ?_
  refine yW (.slice fa p.furs.length fn) ?_ (.inl ⟨by kernel_rfl, by intro W hW; rw [hW]; have c := qcell XP.out 4 (.slice fa p.furs.length fn) rfl; go_simp⟩)
  refine yW (.int .i64 (p.furs.length : Int)) ?_
  cases h1 : decide ((100 : Int) < (p.furs.length : Int))
  · refine yW (.bool false) ?_ 
    refine yE ?_
    cases hv : p.valid
    · have PD : Hid (dressP p = (zeroF, 12)) := Lib.hid (by unfold dressP; rw [if_neg (by rw [hv]; decide)])
      go_upto_region 4 with fail
      refine yB ?_
      refine yW (.agg (patA p fa fn)) ?_ (qyrow (by kernel_rfl) 24 _ rfl q rfl _ 24 (0, 0) _ (fun W hW => by rw [hW]; exact XP.out) Tryz.underlying24 rfl (by exact (qJP p fa fn)))
      refine yR (fun K hK => ?_)
      go_simp
      refine (dressP_any p fa fn _ HR.out).mono ?_
      rintro e U2 ⟨⟨b1, m1, rfl, own⟩, b⟩
      rw [PD.out] at own ⊢
      dsimp only at own
      have R1 := Lib.hid own.rd
      clear own
      replace BF := Lib.hid (BF.out.trans (b.mono BF.out.size))
      replace HR := Lib.hid (HR.out.below b)
      replace XP := Lib.hid (qblk b XP.out)
      clear b
      try dsimp only
      refine yK hK ?_
      clear hK K
      refine yM (.tuple #[.agg (zeroF.cells b1 m1), .int .i64 12]) ?_
      refine yM (.agg (zeroF.cells b1 m1)) ?_
      refine yM (.int .i64 12) ?_
      refine yR (fun K hK => ?_)
      refine qbuild (w' := U2.alloc (.cells #[.int .i64 0, .int .i64 0, .int .i64 0, .slice none 0 0] 28)) (.pointer (some ⟨U2.heap.size, 0, none⟩)) (by kernel_rfl) ?_
      obtain ⟨x4, hx4⟩ : ∃ x, Hid (U2.heap.size = x) := ⟨_, Lib.hid rfl⟩
      have AL := Lib.hid (al1 U2 (.cells #[.int .i64 0, .int .i64 0, .int .i64 0, .slice none 0 0] 28))
      rw [hx4.out] at AL ⊢
      refine yK hK ?_
      clear hK K
      refine yR (fun K hK => ?_)
      refine qstore 28 _ _ rfl x4 #[.int .i64 0, .int .i64 0, .int .i64 0, .slice none 0 0] (zeroF.cells b1 m1) 28 rfl rfl AL.out.2 (by exact qJF zeroF b1 m1) rfl (qone zeroF b1 m1) ?_
      intro U3 h8 hg8 hs8
      have b : Below U2.heap.size U2 U3 := qstep (by have h1 := AL.out.1; rw [← hx4.out] at h1; exact h1) hg8 (Nat.le_of_eq hx4.out)
      replace BF := Lib.hid (BF.out.trans (b.mono BF.out.size))
      replace HR := Lib.hid (HR.out.below b)
      replace R1 := Lib.hid (R1.out.below b)
      replace XP := Lib.hid (qblk b XP.out)
      clear b
      have Xx4 := Lib.hid h8
      clear h8 hg8 hs8 AL
      refine yK hK ?_
      clear hK K
      refine yM (.int .i64 12) ?_
      refine yE ?_
      go_upto_region 5 with fail
      refine yB ?_
      refine yM (.int .i64 12) ?_
      refine yW (.bool true) ?_
      refine yE ?_
      go_upto_region 6 with fail
      refine yB ?_
      refine yM (.bool true) ?_
      refine yM (.bool true) ?_
      refine yW (.agg (patA p fa fn)) ?_ (qyrow (by kernel_rfl) 24 _ rfl q rfl _ 24 (0, 0) _ (fun W hW => by rw [hW]; exact XP.out) Tryz.underlying24 rfl (by exact (qJP p fa fn)))
      refine yR (fun K hK => ?_)
      go_simp
      refine (validP_any p fa fn _ HR.out).mono ?_
      rintro e U4 ⟨rfl, b⟩
      rw [hv]
      replace BF := Lib.hid (BF.out.trans (b.mono BF.out.size))
      replace HR := Lib.hid (HR.out.below b)
      replace R1 := Lib.hid (R1.out.below b)
      replace XP := Lib.hid (qblk b XP.out)
      replace Xx4 := Lib.hid (qblk b Xx4.out)
      clear b
      try dsimp only
      refine yK hK ?_
      clear hK K
      refine yM (.bool true) ?_
      refine yM (.bool true) ?_
      refine yM (.bool true) ?_
      refine yE ?_
      go_wp2_with fail
      go_ret
      exact ⟨rfl, BF.out⟩
    · have HV := Lib.hid hv
      have PD : Hid (dressP p = (dressF p, 0)) := Lib.hid (by unfold dressP; rw [if_pos hv])
      clear hv
      have DV := Lib.hid (dress_valid HV.out)
      have DT := Lib.hid (dress_turn HV.out)
      go_upto_region 4 with fail
      refine yB ?_
      refine yW (.agg (patA p fa fn)) ?_ (qyrow (by kernel_rfl) 24 _ rfl q rfl _ 24 (0, 0) _ (fun W hW => by rw [hW]; exact XP.out) Tryz.underlying24 rfl (by exact (qJP p fa fn)))
      refine yR (fun K hK => ?_)
      go_simp
      refine (dressP_any p fa fn _ HR.out).mono ?_
      rintro e U2 ⟨⟨b1, m1, rfl, own⟩, b⟩
      rw [PD.out] at own ⊢
      dsimp only at own
      have R1 := Lib.hid own.rd
      clear own
      replace BF := Lib.hid (BF.out.trans (b.mono BF.out.size))
      replace HR := Lib.hid (HR.out.below b)
      replace XP := Lib.hid (qblk b XP.out)
      clear b
      try dsimp only
      refine yK hK ?_
      clear hK K
      refine yM (.tuple #[.agg ((dressF p).cells b1 m1), .int .i64 0]) ?_
      refine yM (.agg ((dressF p).cells b1 m1)) ?_
      refine yM (.int .i64 0) ?_
      refine yR (fun K hK => ?_)
      refine qbuild (w' := U2.alloc (.cells #[.int .i64 0, .int .i64 0, .int .i64 0, .slice none 0 0] 28)) (.pointer (some ⟨U2.heap.size, 0, none⟩)) (by kernel_rfl) ?_
      obtain ⟨x4, hx4⟩ : ∃ x, Hid (U2.heap.size = x) := ⟨_, Lib.hid rfl⟩
      have AL := Lib.hid (al1 U2 (.cells #[.int .i64 0, .int .i64 0, .int .i64 0, .slice none 0 0] 28))
      rw [hx4.out] at AL ⊢
      refine yK hK ?_
      clear hK K
      refine yR (fun K hK => ?_)
      refine qstore 28 _ _ rfl x4 #[.int .i64 0, .int .i64 0, .int .i64 0, .slice none 0 0] ((dressF p).cells b1 m1) 28 rfl rfl AL.out.2 (by exact qJF (dressF p) b1 m1) rfl (qone (dressF p) b1 m1) ?_
      intro U3 h8 hg8 hs8
      have b : Below U2.heap.size U2 U3 := qstep (by have h1 := AL.out.1; rw [← hx4.out] at h1; exact h1) hg8 (Nat.le_of_eq hx4.out)
      replace BF := Lib.hid (BF.out.trans (b.mono BF.out.size))
      replace HR := Lib.hid (HR.out.below b)
      replace R1 := Lib.hid (R1.out.below b)
      replace XP := Lib.hid (qblk b XP.out)
      clear b
      have Xx4 := Lib.hid h8
      clear h8 hg8 hs8 AL
      refine yK hK ?_
      clear hK K
      refine yM (.int .i64 0) ?_
      refine yE ?_
      go_upto_region 5 with fail
      refine yB ?_
      refine yM (.int .i64 0) ?_
      refine yW (.bool false) ?_
      refine yE ?_
      go_upto_region 7 with fail
      refine yB ?_
      refine yW (.agg ((dressF p).cells b1 m1)) ?_ (qyrow (by kernel_rfl) 28 _ rfl x4 rfl _ 28 (0, 0) _ (fun W hW => by rw [hW]; exact Xx4.out) Tryz.underlying28 rfl (by exact (qJF (dressF p) b1 m1)))
      refine yW (.pointer (some ⟨q, 3, none⟩)) ?_
      refine yW (.int .i64 p.wide) ?_ (.inl ⟨by kernel_rfl, by intro W hW; rw [hW]; have c := qcell XP.out 3 (.int .i64 p.wide) rfl; go_simp⟩)
      refine yR (fun K hK => ?_)
      go_simp
      refine (turnP_any (dressF p) b1 m1 p.wide _ R1.out).mono ?_
      rintro e U4 ⟨⟨b2, m2, rfl, own⟩, b⟩
      rw [show turnP (dressF p) p.wide = ((dressF p), 0) by unfold turnP; rw [DV.out, DT.out]; rfl] at own ⊢
      dsimp only at own
      have R2 := Lib.hid own.rd
      clear own
      replace BF := Lib.hid (BF.out.trans (b.mono BF.out.size))
      replace HR := Lib.hid (HR.out.below b)
      replace R1 := Lib.hid (R1.out.below b)
      replace XP := Lib.hid (qblk b XP.out)
      replace Xx4 := Lib.hid (qblk b Xx4.out)
      clear b
      try dsimp only
      refine yK hK ?_
      clear hK K
      refine yM (.tuple #[.agg ((dressF p).cells b2 m2), .int .i64 0]) ?_
      refine yM (.agg ((dressF p).cells b2 m2)) ?_
      refine yM (.int .i64 0) ?_
      refine yR (fun K hK => ?_)
      refine qbuild (w' := U4.alloc (.cells #[.int .i64 0, .int .i64 0, .int .i64 0, .slice none 0 0] 28)) (.pointer (some ⟨U4.heap.size, 0, none⟩)) (by kernel_rfl) ?_
      obtain ⟨x6, hx6⟩ : ∃ x, Hid (U4.heap.size = x) := ⟨_, Lib.hid rfl⟩
      have AL := Lib.hid (al1 U4 (.cells #[.int .i64 0, .int .i64 0, .int .i64 0, .slice none 0 0] 28))
      rw [hx6.out] at AL ⊢
      refine yK hK ?_
      clear hK K
      refine yR (fun K hK => ?_)
      refine qstore 28 _ _ rfl x6 #[.int .i64 0, .int .i64 0, .int .i64 0, .slice none 0 0] ((dressF p).cells b2 m2) 28 rfl rfl AL.out.2 (by exact qJF (dressF p) b2 m2) rfl (qone (dressF p) b2 m2) ?_
      intro U5 h8 hg8 hs8
      have b : Below U4.heap.size U4 U5 := qstep (by have h1 := AL.out.1; rw [← hx6.out] at h1; exact h1) hg8 (Nat.le_of_eq hx6.out)
      replace BF := Lib.hid (BF.out.trans (b.mono BF.out.size))
      replace HR := Lib.hid (HR.out.below b)
      replace R1 := Lib.hid (R1.out.below b)
      replace R2 := Lib.hid (R2.out.below b)
      replace XP := Lib.hid (qblk b XP.out)
      replace Xx4 := Lib.hid (qblk b Xx4.out)
      clear b
      have Xx6 := Lib.hid h8
      clear h8 hg8 hs8 AL
      refine yK hK ?_
      clear hK K
      refine yM (.int .i64 0) ?_
      refine yE ?_
      go_upto_region 8 with fail
      refine yB ?_
      refine yW (.agg ((dressF p).cells b1 m1)) ?_ (qyrow (by kernel_rfl) 28 _ rfl x4 rfl _ 28 (0, 0) _ (fun W hW => by rw [hW]; exact Xx4.out) Tryz.underlying28 rfl (by exact (qJF (dressF p) b1 m1)))
      refine yR (fun K hK => ?_)
      go_simp
      refine (drainsP_any (dressF p) b1 m1 _ R1.out).mono ?_
      rintro e U6 ⟨rfl, b⟩
      rw [show (deadP (dressF p)).2 = 0 by unfold deadP; rw [if_pos DV.out]]
      replace BF := Lib.hid (BF.out.trans (b.mono BF.out.size))
      replace HR := Lib.hid (HR.out.below b)
      replace R1 := Lib.hid (R1.out.below b)
      replace R2 := Lib.hid (R2.out.below b)
      replace XP := Lib.hid (qblk b XP.out)
      replace Xx4 := Lib.hid (qblk b Xx4.out)
      replace Xx6 := Lib.hid (qblk b Xx6.out)
      clear b
      obtain ⟨dr, hdr⟩ : ∃ x, Hid (drainsB (dressF p) = x) := ⟨_, Lib.hid rfl⟩
      rw [hdr.out]
      have GD : Hid (gentleB p = true → dr = true) := Lib.hid (fun h => by
        rw [← hdr.out]
        unfold drainsB deadP
        rw [if_pos DV.out, dress_drains HV.out h]
        rfl)
      try dsimp only
      refine yK hK ?_
      clear hK K
      refine yM (.tuple #[.bool dr, .int .i64 0]) ?_
      refine yM (.bool dr) ?_
      refine yM (.int .i64 0) ?_
      refine yM (.bool dr) ?_
      refine yM (.int .i64 0) ?_
      refine yE ?_
      go_upto_region 9 with fail
      refine yB ?_
      refine yW (.agg ((dressF p).cells b1 m1)) ?_ (qyrow (by kernel_rfl) 28 _ rfl x4 rfl _ 28 (0, 0) _ (fun W hW => by rw [hW]; exact Xx4.out) Tryz.underlying28 rfl (by exact (qJF (dressF p) b1 m1)))
      refine yR (fun K hK => ?_)
      go_simp
      refine (periodP_any (dressF p) b1 m1 _ R1.out).mono ?_
      rintro e U7 ⟨rfl, b⟩
      rw [show periodP (dressF p) = ((periodF (dressF p) : Int), 0) by unfold periodP; rw [if_pos DV.out]]
      replace BF := Lib.hid (BF.out.trans (b.mono BF.out.size))
      replace HR := Lib.hid (HR.out.below b)
      replace R1 := Lib.hid (R1.out.below b)
      replace R2 := Lib.hid (R2.out.below b)
      replace XP := Lib.hid (qblk b XP.out)
      replace Xx4 := Lib.hid (qblk b Xx4.out)
      replace Xx6 := Lib.hid (qblk b Xx6.out)
      clear b
      obtain ⟨pe, hpe⟩ : ∃ x, Hid ((periodF (dressF p) : Int) = x) := ⟨_, Lib.hid rfl⟩
      try dsimp only
      rw [hpe.out]
      have PE : Hid (p.wide % pe = 0 ∧ 1 ≤ pe) := Lib.hid (by rw [← hpe.out]; exact ⟨(fix_iff DV.out p.wide).1 DT.out, by have := period_spec DV.out; omega⟩)
      have PV := Lib.hid (PatV.valid_iff.1 HV.out)
      have RM := Lib.hid (show p.wide.tmod pe = 0 by rw [Int.tmod_eq_emod_of_nonneg (by have := PV.out.1; omega)]; exact PE.out.1)
      have NPE := Lib.hid (show ¬ pe = 0 by have := PE.out.2; omega)
      try dsimp only
      refine yK hK ?_
      clear hK K
      refine yM (.tuple #[.int .i64 pe, .int .i64 0]) ?_
      refine yM (.int .i64 pe) ?_
      refine yM (.int .i64 0) ?_
      refine yM (.int .i64 pe) ?_
      refine yM (.int .i64 0) ?_
      refine yE ?_
      go_upto_region 10 with fail
      refine yB ?_
      refine yW (.agg (patA p fa fn)) ?_ (qyrow (by kernel_rfl) 24 _ rfl q rfl _ 24 (0, 0) _ (fun W hW => by rw [hW]; exact XP.out) Tryz.underlying24 rfl (by exact (qJP p fa fn)))
      refine yR (fun K hK => ?_)
      go_simp
      refine (validP_any p fa fn _ HR.out).mono ?_
      rintro e U8 ⟨rfl, b⟩
      rw [HV.out]
      replace BF := Lib.hid (BF.out.trans (b.mono BF.out.size))
      replace HR := Lib.hid (HR.out.below b)
      replace R1 := Lib.hid (R1.out.below b)
      replace R2 := Lib.hid (R2.out.below b)
      replace XP := Lib.hid (qblk b XP.out)
      replace Xx4 := Lib.hid (qblk b Xx4.out)
      replace Xx6 := Lib.hid (qblk b Xx6.out)
      clear b
      try dsimp only
      refine yK hK ?_
      clear hK K
      refine yM (.bool false) ?_
      refine yM (.bool false) ?_
      refine yW (.agg ((dressF p).cells b1 m1)) ?_ (qyrow (by kernel_rfl) 28 _ rfl x4 rfl _ 28 (0, 0) _ (fun W hW => by rw [hW]; exact Xx4.out) Tryz.underlying28 rfl (by exact (qJF (dressF p) b1 m1)))
      refine yR (fun K hK => ?_)
      go_simp
      refine (valid2_any (dressF p) b1 m1 _ R1.out).mono ?_
      rintro e U9 ⟨rfl, b⟩
      rw [DV.out]
      replace BF := Lib.hid (BF.out.trans (b.mono BF.out.size))
      replace HR := Lib.hid (HR.out.below b)
      replace R1 := Lib.hid (R1.out.below b)
      replace R2 := Lib.hid (R2.out.below b)
      replace XP := Lib.hid (qblk b XP.out)
      replace Xx4 := Lib.hid (qblk b Xx4.out)
      replace Xx6 := Lib.hid (qblk b Xx6.out)
      clear b
      try dsimp only
      refine yK hK ?_
      clear hK K
      refine yM (.bool false) ?_
      refine yM (.bool false) ?_
      refine yM (.bool false) ?_
      refine yM (.int .i64 0) ?_
      refine yW (.bool false) ?_
      refine yM (.bool false) ?_
      refine yM (.bool false) ?_
      refine yM (.int .i64 0) ?_
      refine yW (.bool false) ?_
      refine yM (.bool false) ?_
      refine yM (.bool false) ?_
      refine yM (.int .i64 0) ?_
      refine yW (.bool false) ?_
      refine yM (.bool false) ?_
      refine yM (.bool false) ?_
      refine yW (.agg ((dressF p).cells b1 m1)) ?_ (qyrow (by kernel_rfl) 28 _ rfl x4 rfl _ 28 (0, 0) _ (fun W hW => by rw [hW]; exact Xx4.out) Tryz.underlying28 rfl (by exact (qJF (dressF p) b1 m1)))
      refine yW (.agg ((dressF p).cells b2 m2)) ?_ (qyrow (by kernel_rfl) 28 _ rfl x6 rfl _ 28 (0, 0) _ (fun W hW => by rw [hW]; exact Xx6.out) Tryz.underlying28 rfl (by exact (qJF (dressF p) b2 m2)))
      refine yR (fun K hK => ?_)
      go_simp
      refine (same_any (dressF p) (dressF p) b1 b2 m1 m2 _ R1.out R2.out).mono ?_
      rintro e U10 ⟨rfl, b⟩
      rw [show sameF (dressF p) (dressF p) = true from decide_eq_true rfl]
      replace BF := Lib.hid (BF.out.trans (b.mono BF.out.size))
      replace HR := Lib.hid (HR.out.below b)
      replace R1 := Lib.hid (R1.out.below b)
      replace R2 := Lib.hid (R2.out.below b)
      replace XP := Lib.hid (qblk b XP.out)
      replace Xx4 := Lib.hid (qblk b Xx4.out)
      replace Xx6 := Lib.hid (qblk b Xx6.out)
      clear b
      try dsimp only
      refine yK hK ?_
      clear hK K
      refine yM (.bool false) ?_
      refine yM (.bool false) ?_
      refine yM (.bool false) ?_
      refine yW (.pointer (some ⟨q, 3, none⟩)) ?_
      refine yW (.int .i64 p.wide) ?_ (.inl ⟨by kernel_rfl, by intro W hW; rw [hW]; have c := qcell XP.out 3 (.int .i64 p.wide) rfl; go_simp⟩)
      refine yM (.int .i64 pe) ?_
      refine yW (.int .i64 0) ?_ (.inl ⟨by kernel_rfl, by intro W hW; rw [hW]; go_simp; rw [if_neg NPE.out, RM.out]⟩)
      refine yW (.bool false) ?_
      refine yM (.bool false) ?_
      refine yE ?_
      have FL := Lib.hid (show p.furs.length ≤ 16 from PV.out.1.2.2.2.2.2)
      go_wp2_with fail
      go_loopw [12, 13] (fun g v wr => ∃ k : Nat, v = .int .i64 (k : Int) ∧ g = .bool (gK p k) ∧ k ≤ p.furs.length ∧ Hid (Below w.heap.size w wr) ∧ Hid (RdFu wr fa p.furs.length fn p.furs) ∧ Hid (RdI wr b1 (dressF p).kinds.length m1 (dressF p).kinds) ∧ Hid (wr.heap[q]? = some (.cells (patA p fa fn) 24 (0, 0))) ∧ Hid (wr.heap[x4]? = some (.cells ((dressF p).cells b1 m1) 28 (0, 0))) ∧ Hid (wr.heap[x6]? = some (.cells ((dressF p).cells b2 m2) 28 (0, 0)))) (fun _ v _ => p.furs.length - (intOf v).toNat)
      case atStart => exact ⟨0, rfl, rfl, Nat.zero_le _, BF, HR, R1, XP, Xx4, Xx6⟩
      case round =>
        clear BF HR R1 XP Xx4 Xx6
        obtain ⟨k, rfl, rfl, hk, BF, HR, R1, XP, Xx4, Xx6⟩ := hrel
        have c4 := qcell XP.out 4 (.slice fa p.furs.length fn) rfl
        by_cases hkn : k < p.furs.length
        · cases hg : gK p k
          · have t0 : decide ((k : Int) < (p.furs.length : Int)) = true := by simp; omega
            have HK64 : Hid ((k : Int) + 1 ≤ 9223372036854775807) := Lib.hid (by have := FL.out; omega)
            obtain ⟨x, hx⟩ : ∃ x, p.furs[k]? = some x := ⟨_, List.getElem?_eq_getElem hkn⟩
            have HX := Lib.hid hx
            have GS := Lib.hid (gK_succ p hx)
            have XB := Lib.hid (PV.out.2 x (List.mem_of_getElem? hx))
            obtain ⟨gb, ob, ha, _⟩ := HR.out.get hx
            subst ha
            obtain ⟨m, hm⟩ : ∃ m, Hid (ob + k * 6 = m) := ⟨_, Lib.hid rfl⟩
            have hi := fun W => qidx (W := W) (c := fn) (b := gb) Tryz.underlying22 qsizeU hkn hm.out
            clear hx
            go_upto_region 16 with fail
            clear t0 c4
            refine yB ?_
            refine yW (.pointer (some ⟨q, 4, none⟩)) ?_
            refine yW (.slice (some ⟨gb, ob, none⟩) p.furs.length fn) ?_ (.inl ⟨by kernel_rfl, by intro W hW; rw [hW]; have c := qcell XP.out 4 (.slice (some ⟨gb, ob, none⟩) p.furs.length fn) rfl; go_simp⟩)
            refine yM (.int .i64 (k : Int)) ?_
            refine yW (.pointer (some ⟨gb, m, none⟩)) ?_
            refine yW (.agg (furA x)) ?_ (.inl ⟨by kernel_rfl, by intro W hW; rw [hW]; obtain ⟨y0, y1, y2, y3, y4, y5⟩ := rdfu_at HR.out HX.out; rw [hm.out] at y0 y1 y2 y3 y4 y5; go_simp; (try rfl)⟩)
            refine yR (fun K hK => ?_)
            refine qbuild (w' := wr.alloc (.cells #[.int .i64 0, .int .i64 0, .int .i64 0, .int .i64 0, .int .i64 0, .int .i64 0] 67)) (.pointer (some ⟨wr.heap.size, 0, none⟩)) (by kernel_rfl) ?_
            obtain ⟨x14, hx14⟩ : ∃ x, Hid (wr.heap.size = x) := ⟨_, Lib.hid rfl⟩
            have AL := Lib.hid (al1 wr (.cells #[.int .i64 0, .int .i64 0, .int .i64 0, .int .i64 0, .int .i64 0, .int .i64 0] 67))
            rw [hx14.out] at AL ⊢
            refine yK hK ?_
            clear hK K
            refine yR (fun K hK => ?_)
            refine qstore 67 _ _ rfl x14 #[.int .i64 0, .int .i64 0, .int .i64 0, .int .i64 0, .int .i64 0, .int .i64 0] (furA x) 67 rfl rfl AL.out.2 (by exact qJU x) rfl (qoneU x) ?_
            intro U11 h8 hg8 hs8
            have b : Below wr.heap.size wr U11 := qstep (by have h1 := AL.out.1; rw [← hx14.out] at h1; exact h1) hg8 (Nat.le_of_eq hx14.out)
            replace BF := Lib.hid (BF.out.trans (b.mono BF.out.size))
            replace HR := Lib.hid (HR.out.below b)
            replace R1 := Lib.hid (R1.out.below b)
            replace XP := Lib.hid (qblk b XP.out)
            replace Xx4 := Lib.hid (qblk b Xx4.out)
            replace Xx6 := Lib.hid (qblk b Xx6.out)
            clear b
            have XU := Lib.hid h8
            clear h8 hg8 hs8 AL
            refine yK hK ?_
            clear hK K
            refine yE ?_
            clear hi
            obtain ⟨M1, hM1⟩ : ∃ M1, Hid (x.steep + x.feather - 1 = M1) := ⟨_, Lib.hid rfl⟩
            obtain ⟨M, hM⟩ : ∃ M, Hid (x.leans * M1 = M) := ⟨_, Lib.hid rfl⟩
            have MB : Hid (0 ≤ M ∧ M ≤ 96 * 200) := Lib.hid (by have h1 := XB.out; have h2 := PV.out.1; have h3 := hM1.out; rw [← hM.out]; exact ⟨Int.mul_nonneg (by omega) (by omega), Int.mul_le_mul (by omega) (by omega) (by omega) (by omega)⟩)
            have W1 := Lib.hid (show wrap64 (x.steep + x.feather) = x.steep + x.feather by have h1 := XB.out; have h2 := PV.out.1; unfold wrap64; omega)
            have W2 := Lib.hid (show wrap64 (x.steep + x.feather - 1) = M1 by have h1 := XB.out; have h2 := PV.out.1; have h3 := hM1.out; unfold wrap64; omega)
            have W3 := Lib.hid (show wrap64 (x.leans * M1) = M by have := hM.out; have := MB.out; unfold wrap64; omega)
            have W4 := Lib.hid (show wrap64 (-M) = -M by have := MB.out; unfold wrap64; omega)
            have GT : Hid (gT x = (decide (x.lean ≤ M) && decide (-M ≤ x.lean))) := Lib.hid (by unfold gT; rw [hM1.out, hM.out])
            go_upto_region 17 with fail
            refine yB ?_
            refine yW (.pointer (some ⟨x14, 3, none⟩)) ?_
            refine yW (.int .i64 x.leans) ?_ (.inl ⟨by kernel_rfl, by intro W hW; rw [hW]; have c := qcell XU.out 3 (.int .i64 x.leans) rfl; go_simp⟩)
            refine yW (.pointer (some ⟨x14, 4, none⟩)) ?_
            refine yW (.int .i64 x.steep) ?_ (.inl ⟨by kernel_rfl, by intro W hW; rw [hW]; have c := qcell XU.out 4 (.int .i64 x.steep) rfl; go_simp⟩)
            refine yW (.pointer (some ⟨x14, 5, none⟩)) ?_
            refine yW (.int .i64 x.feather) ?_ (.inl ⟨by kernel_rfl, by intro W hW; rw [hW]; have c := qcell XU.out 5 (.int .i64 x.feather) rfl; go_simp⟩)
            refine yW (.int .i64 (x.steep + x.feather)) ?_ (.inl ⟨by kernel_rfl, by intro W hW; rw [hW]; go_simp; exact (IntWalk.i64_left _).trans W1.out⟩)
            refine yW (.int .i64 M1) ?_ (.inl ⟨by kernel_rfl, by intro W hW; rw [hW]; go_simp; exact (IntWalk.i64_left _).trans W2.out⟩)
            refine yW (.int .i64 M) ?_ (.inl ⟨by kernel_rfl, by intro W hW; rw [hW]; go_simp; exact (IntWalk.i64_left _).trans W3.out⟩)
            refine yM (.int .i64 M) ?_
            refine yE ?_
            go_upto_region 18 with fail
            refine yB ?_
            refine yM (.bool false) ?_
            refine yM (.bool false) ?_
            refine yN ?_
            refine yN ?_
            refine yN ?_
            refine yN ?_
            refine yM (.bool false) ?_
            refine yM (.bool false) ?_
            refine yN ?_
            refine yN ?_
            refine yN ?_
            refine yN ?_
            refine yN ?_
            refine yM (.bool false) ?_
            refine yM (.bool false) ?_
            refine yE ?_
            have GN : Hid (gK p (k + 1) = false) := Lib.hid (by rw [GS.out, GT.out]; simp only [hg]; rfl)
            go_upto_region 15 with fail
            have hk64 := HK64.out
            go_wp2_with fail
            go_roundw
            case rel => exact ⟨k + 1, by simp, by rw [GN.out] <;> rfl, by omega, BF, HR, R1, XP, Xx4, Xx6⟩
            case measure => simp [intOf]; omega
          · have t0 : decide ((k : Int) < (p.furs.length : Int)) = true := by simp; omega
            have HK64 : Hid ((k : Int) + 1 ≤ 9223372036854775807) := Lib.hid (by have := FL.out; omega)
            obtain ⟨x, hx⟩ : ∃ x, p.furs[k]? = some x := ⟨_, List.getElem?_eq_getElem hkn⟩
            have HX := Lib.hid hx
            have GS := Lib.hid (gK_succ p hx)
            have XB := Lib.hid (PV.out.2 x (List.mem_of_getElem? hx))
            obtain ⟨gb, ob, ha, _⟩ := HR.out.get hx
            subst ha
            obtain ⟨m, hm⟩ : ∃ m, Hid (ob + k * 6 = m) := ⟨_, Lib.hid rfl⟩
            have hi := fun W => qidx (W := W) (c := fn) (b := gb) Tryz.underlying22 qsizeU hkn hm.out
            clear hx
            go_upto_region 16 with fail
            clear t0 c4
            refine yB ?_
            refine yW (.pointer (some ⟨q, 4, none⟩)) ?_
            refine yW (.slice (some ⟨gb, ob, none⟩) p.furs.length fn) ?_ (.inl ⟨by kernel_rfl, by intro W hW; rw [hW]; have c := qcell XP.out 4 (.slice (some ⟨gb, ob, none⟩) p.furs.length fn) rfl; go_simp⟩)
            refine yM (.int .i64 (k : Int)) ?_
            refine yW (.pointer (some ⟨gb, m, none⟩)) ?_
            refine yW (.agg (furA x)) ?_ (.inl ⟨by kernel_rfl, by intro W hW; rw [hW]; obtain ⟨y0, y1, y2, y3, y4, y5⟩ := rdfu_at HR.out HX.out; rw [hm.out] at y0 y1 y2 y3 y4 y5; go_simp; (try rfl)⟩)
            refine yR (fun K hK => ?_)
            refine qbuild (w' := wr.alloc (.cells #[.int .i64 0, .int .i64 0, .int .i64 0, .int .i64 0, .int .i64 0, .int .i64 0] 67)) (.pointer (some ⟨wr.heap.size, 0, none⟩)) (by kernel_rfl) ?_
            obtain ⟨x14, hx14⟩ : ∃ x, Hid (wr.heap.size = x) := ⟨_, Lib.hid rfl⟩
            have AL := Lib.hid (al1 wr (.cells #[.int .i64 0, .int .i64 0, .int .i64 0, .int .i64 0, .int .i64 0, .int .i64 0] 67))
            rw [hx14.out] at AL ⊢
            refine yK hK ?_
            clear hK K
            refine yR (fun K hK => ?_)
            refine qstore 67 _ _ rfl x14 #[.int .i64 0, .int .i64 0, .int .i64 0, .int .i64 0, .int .i64 0, .int .i64 0] (furA x) 67 rfl rfl AL.out.2 (by exact qJU x) rfl (qoneU x) ?_
            intro U11 h8 hg8 hs8
            have b : Below wr.heap.size wr U11 := qstep (by have h1 := AL.out.1; rw [← hx14.out] at h1; exact h1) hg8 (Nat.le_of_eq hx14.out)
            replace BF := Lib.hid (BF.out.trans (b.mono BF.out.size))
            replace HR := Lib.hid (HR.out.below b)
            replace R1 := Lib.hid (R1.out.below b)
            replace XP := Lib.hid (qblk b XP.out)
            replace Xx4 := Lib.hid (qblk b Xx4.out)
            replace Xx6 := Lib.hid (qblk b Xx6.out)
            clear b
            have XU := Lib.hid h8
            clear h8 hg8 hs8 AL
            refine yK hK ?_
            clear hK K
            refine yE ?_
            clear hi
            obtain ⟨M1, hM1⟩ : ∃ M1, Hid (x.steep + x.feather - 1 = M1) := ⟨_, Lib.hid rfl⟩
            obtain ⟨M, hM⟩ : ∃ M, Hid (x.leans * M1 = M) := ⟨_, Lib.hid rfl⟩
            have MB : Hid (0 ≤ M ∧ M ≤ 96 * 200) := Lib.hid (by have h1 := XB.out; have h2 := PV.out.1; have h3 := hM1.out; rw [← hM.out]; exact ⟨Int.mul_nonneg (by omega) (by omega), Int.mul_le_mul (by omega) (by omega) (by omega) (by omega)⟩)
            have W1 := Lib.hid (show wrap64 (x.steep + x.feather) = x.steep + x.feather by have h1 := XB.out; have h2 := PV.out.1; unfold wrap64; omega)
            have W2 := Lib.hid (show wrap64 (x.steep + x.feather - 1) = M1 by have h1 := XB.out; have h2 := PV.out.1; have h3 := hM1.out; unfold wrap64; omega)
            have W3 := Lib.hid (show wrap64 (x.leans * M1) = M by have := hM.out; have := MB.out; unfold wrap64; omega)
            have W4 := Lib.hid (show wrap64 (-M) = -M by have := MB.out; unfold wrap64; omega)
            have GT : Hid (gT x = (decide (x.lean ≤ M) && decide (-M ≤ x.lean))) := Lib.hid (by unfold gT; rw [hM1.out, hM.out])
            go_upto_region 17 with fail
            refine yB ?_
            refine yW (.pointer (some ⟨x14, 3, none⟩)) ?_
            refine yW (.int .i64 x.leans) ?_ (.inl ⟨by kernel_rfl, by intro W hW; rw [hW]; have c := qcell XU.out 3 (.int .i64 x.leans) rfl; go_simp⟩)
            refine yW (.pointer (some ⟨x14, 4, none⟩)) ?_
            refine yW (.int .i64 x.steep) ?_ (.inl ⟨by kernel_rfl, by intro W hW; rw [hW]; have c := qcell XU.out 4 (.int .i64 x.steep) rfl; go_simp⟩)
            refine yW (.pointer (some ⟨x14, 5, none⟩)) ?_
            refine yW (.int .i64 x.feather) ?_ (.inl ⟨by kernel_rfl, by intro W hW; rw [hW]; have c := qcell XU.out 5 (.int .i64 x.feather) rfl; go_simp⟩)
            refine yW (.int .i64 (x.steep + x.feather)) ?_ (.inl ⟨by kernel_rfl, by intro W hW; rw [hW]; go_simp; exact (IntWalk.i64_left _).trans W1.out⟩)
            refine yW (.int .i64 M1) ?_ (.inl ⟨by kernel_rfl, by intro W hW; rw [hW]; go_simp; exact (IntWalk.i64_left _).trans W2.out⟩)
            refine yW (.int .i64 M) ?_ (.inl ⟨by kernel_rfl, by intro W hW; rw [hW]; go_simp; exact (IntWalk.i64_left _).trans W3.out⟩)
            refine yM (.int .i64 M) ?_
            refine yE ?_
            go_upto_region 18 with fail
            refine yB ?_
            refine yM (.bool true) ?_
            refine yM (.bool true) ?_
            refine yW (.pointer (some ⟨x14, 2, none⟩)) ?_
            refine yW (.int .i64 x.lean) ?_ (.inl ⟨by kernel_rfl, by intro W hW; rw [hW]; have c := qcell XU.out 2 (.int .i64 x.lean) rfl; go_simp⟩)
            refine yM (.int .i64 M) ?_
            cases k1 : decide (x.lean ≤ M)
            · refine yW (.bool false) ?_ 
              refine yM (.bool false) ?_
              refine yM (.bool false) ?_
              refine yN ?_
              refine yN ?_
              refine yN ?_
              refine yN ?_
              refine yN ?_
              refine yM (.bool false) ?_
              refine yM (.bool false) ?_
              refine yE ?_
              have GN : Hid (gK p (k + 1) = false) := Lib.hid (by rw [GS.out, GT.out]; simp only [hg, k1]; rfl)
              go_upto_region 15 with fail
              have hk64 := HK64.out
              go_wp2_with fail
              go_roundw
              case rel => exact ⟨k + 1, by simp, by rw [GN.out] <;> rfl, by omega, BF, HR, R1, XP, Xx4, Xx6⟩
              case measure => simp [intOf]; omega
            · refine yW (.bool true) ?_ 
              refine yM (.bool true) ?_
              refine yM (.bool true) ?_
              refine yW (.pointer (some ⟨x14, 2, none⟩)) ?_
              refine yW (.int .i64 x.lean) ?_ (.inl ⟨by kernel_rfl, by intro W hW; rw [hW]; have c := qcell XU.out 2 (.int .i64 x.lean) rfl; go_simp⟩)
              refine yM (.int .i64 M) ?_
              refine yW (.int .i64 (-M)) ?_ (.inl ⟨by kernel_rfl, by intro W hW; rw [hW]; go_simp; exact (IntWalk.i64_left _).trans W4.out⟩)
              cases k2 : decide (-M ≤ x.lean)
              · refine yW (.bool false) ?_ 
                refine yM (.bool false) ?_
                refine yM (.bool false) ?_
                refine yE ?_
                have GN : Hid (gK p (k + 1) = false) := Lib.hid (by rw [GS.out, GT.out]; simp only [hg, k1, k2]; rfl)
                go_upto_region 15 with fail
                have hk64 := HK64.out
                go_wp2_with fail
                go_roundw
                case rel => exact ⟨k + 1, by simp, by rw [GN.out] <;> rfl, by omega, BF, HR, R1, XP, Xx4, Xx6⟩
                case measure => simp [intOf]; omega
              · refine yW (.bool true) ?_ 
                refine yM (.bool true) ?_
                refine yM (.bool true) ?_
                refine yE ?_
                have GN : Hid (gK p (k + 1) = true) := Lib.hid (by rw [GS.out, GT.out]; simp only [hg, k1, k2]; rfl)
                go_upto_region 15 with fail
                have hk64 := HK64.out
                go_wp2_with fail
                go_roundw
                case rel => exact ⟨k + 1, by simp, by rw [GN.out] <;> rfl, by omega, BF, HR, R1, XP, Xx4, Xx6⟩
                case measure => simp [intOf]; omega
        · have t0 : decide ((k : Int) < (p.furs.length : Int)) = false := by simp; omega
          have e : k = p.furs.length := by omega
          have GA : Hid (gK p k = gentleB p) := Lib.hid (by rw [e]; exact gK_all p)
          have WH := Lib.hid (show wrap64 (p.harps * p.wide) = p.harps * p.wide by have := PV.out.1; unfold wrap64; omega)
          have DS : Hid (((p.harps * p.wide : Int) == p.harps * p.wide) = true) := Lib.hid (by simp)
          cases hg : gK p k
          · cases dr
            · go_upto_region 19 with fail
              refine yB ?_
              refine yM (.bool true) ?_
              refine yM (.bool true) ?_
              refine yM (.bool false) ?_
              refine yM (.bool false) ?_
              refine yM (.bool false) ?_
              refine yM (.bool true) ?_
              refine yM (.bool true) ?_
              refine yM (.bool true) ?_
              refine yM (.bool true) ?_
              refine yW (.pointer (some ⟨x4, 2, none⟩)) ?_
              refine yW (.int .i64 (p.harps * p.wide)) ?_ (.inl ⟨by kernel_rfl, by intro W hW; rw [hW]; have c := qcell Xx4.out 2 (.int .i64 (p.harps * p.wide)) rfl; go_simp⟩)
              refine yW (.pointer (some ⟨q, 2, none⟩)) ?_
              refine yW (.int .i64 p.harps) ?_ (.inl ⟨by kernel_rfl, by intro W hW; rw [hW]; have c := qcell XP.out 2 (.int .i64 p.harps) rfl; go_simp⟩)
              refine yW (.pointer (some ⟨q, 3, none⟩)) ?_
              refine yW (.int .i64 p.wide) ?_ (.inl ⟨by kernel_rfl, by intro W hW; rw [hW]; have c := qcell XP.out 3 (.int .i64 p.wide) rfl; go_simp⟩)
              refine yW (.int .i64 (p.harps * p.wide)) ?_ (.inl ⟨by kernel_rfl, by intro W hW; rw [hW]; go_simp; first | done | exact (IntWalk.i64_left _).trans WH.out⟩)
              refine yW (.bool true) ?_ (.inl ⟨by kernel_rfl, by intro W hW; rw [hW]; have e9 := DS.out; go_simp⟩)
              refine yM (.bool true) ?_
              refine yM (.bool true) ?_
              refine yE ?_
              go_wp2_with fail
              go_ret
              exact ⟨rfl, BF.out⟩
            · go_upto_region 19 with fail
              refine yB ?_
              refine yM (.bool true) ?_
              refine yM (.bool true) ?_
              refine yM (.bool true) ?_
              refine yM (.bool true) ?_
              go_skip
              refine yM (.bool true) ?_
              refine yM (.bool true) ?_
              refine yM (.bool true) ?_
              refine yW (.pointer (some ⟨x4, 2, none⟩)) ?_
              refine yW (.int .i64 (p.harps * p.wide)) ?_ (.inl ⟨by kernel_rfl, by intro W hW; rw [hW]; have c := qcell Xx4.out 2 (.int .i64 (p.harps * p.wide)) rfl; go_simp⟩)
              refine yW (.pointer (some ⟨q, 2, none⟩)) ?_
              refine yW (.int .i64 p.harps) ?_ (.inl ⟨by kernel_rfl, by intro W hW; rw [hW]; have c := qcell XP.out 2 (.int .i64 p.harps) rfl; go_simp⟩)
              refine yW (.pointer (some ⟨q, 3, none⟩)) ?_
              refine yW (.int .i64 p.wide) ?_ (.inl ⟨by kernel_rfl, by intro W hW; rw [hW]; have c := qcell XP.out 3 (.int .i64 p.wide) rfl; go_simp⟩)
              refine yW (.int .i64 (p.harps * p.wide)) ?_ (.inl ⟨by kernel_rfl, by intro W hW; rw [hW]; go_simp; first | done | exact (IntWalk.i64_left _).trans WH.out⟩)
              refine yW (.bool true) ?_ (.inl ⟨by kernel_rfl, by intro W hW; rw [hW]; have e9 := DS.out; go_simp⟩)
              refine yM (.bool true) ?_
              refine yM (.bool true) ?_
              refine yE ?_
              go_wp2_with fail
              go_ret
              exact ⟨rfl, BF.out⟩
          · have dt := GD.out (by rw [← GA.out]; exact hg)
            subst dt
            go_upto_region 19 with fail
            refine yB ?_
            refine yM (.bool true) ?_
            refine yM (.bool true) ?_
            refine yM (.bool true) ?_
            refine yM (.bool true) ?_
            go_skip
            refine yM (.bool true) ?_
            refine yM (.bool true) ?_
            refine yM (.bool true) ?_
            refine yW (.pointer (some ⟨x4, 2, none⟩)) ?_
            refine yW (.int .i64 (p.harps * p.wide)) ?_ (.inl ⟨by kernel_rfl, by intro W hW; rw [hW]; have c := qcell Xx4.out 2 (.int .i64 (p.harps * p.wide)) rfl; go_simp⟩)
            refine yW (.pointer (some ⟨q, 2, none⟩)) ?_
            refine yW (.int .i64 p.harps) ?_ (.inl ⟨by kernel_rfl, by intro W hW; rw [hW]; have c := qcell XP.out 2 (.int .i64 p.harps) rfl; go_simp⟩)
            refine yW (.pointer (some ⟨q, 3, none⟩)) ?_
            refine yW (.int .i64 p.wide) ?_ (.inl ⟨by kernel_rfl, by intro W hW; rw [hW]; have c := qcell XP.out 3 (.int .i64 p.wide) rfl; go_simp⟩)
            refine yW (.int .i64 (p.harps * p.wide)) ?_ (.inl ⟨by kernel_rfl, by intro W hW; rw [hW]; go_simp; first | done | exact (IntWalk.i64_left _).trans WH.out⟩)
            refine yW (.bool true) ?_ (.inl ⟨by kernel_rfl, by intro W hW; rw [hW]; have e9 := DS.out; go_simp⟩)
            refine yM (.bool true) ?_
            refine yM (.bool true) ?_
            refine yE ?_
            go_wp2_with fail
            go_ret
            exact ⟨rfl, BF.out⟩
  · refine yW (.bool true) ?_ 
    refine yE ?_
    go_wp2_with fail
    go_ret
    exact ⟨rfl, BF.out⟩
end Go.Proofs.YtmpkglokhchpiaaGreatDoor
namespace Go.Proofs.YtmpkglokhchpiaaGreatDoor
set_option linter.constructorNameAsVariable false
set_option linter.unusedSimpArgs false
set_option linter.unusedVariables false
open Go.ChangeShapes Go.WideShapes Go.ChangeAt Go.RowKit

theorem Tryz.cells67 : Tryz.prog.cellsOf 67 = 6 := by kernel_rfl
theorem Tryz.cells24 : Tryz.prog.cellsOf 24 = 5 := by kernel_rfl
theorem Tryz.cells22 : Tryz.prog.cellsOf 22 = 1 := by kernel_rfl
section
variable {H : Type} {enc : TypeId × Value → H} {W : World}
theorem sp_spot {a : Addr} {n : Nat} {cs : List Value} (hn : 0 < n) (h : W.cells? 0 a n = some cs) : a.spot = none := by
  have h2 := World.cells?_some h
  have h3 := h2.2.2 0 (by have := h2.1; omega)
  rw [List.getElem?_eq_getElem (by have := h2.1; omega)] at h3
  simpa [Addr.add] using World.cell?_spot h3
theorem sp_rows {fuel : Nat} {cs : List Value} {y : DataW H × List MemPlace} {t e : TypeId} {k : Nat} (ht : Tryz.prog.underlying t = some (.slice e)) (hc : Tryz.prog.cellsOf e = k) (hk : 0 < k)
    (h : DataW.trod enc Tryz.prog W 0 (fun _ => true) true fuel t cs = some y) :
    ∃ a n c, cs = [.slice a n c] ∧ n ≤ c ∧ c ≤ maxLen ∧ (c = 0 ∨ ∃ b off, a = some ⟨b, off, none⟩ ∧ ∀ i, i < n → ∃ es m z, DataW.trod enc Tryz.prog W 0 (fun _ => true) true m e es = some z ∧ W.rangeAt b (off + i * k) es) := by
  rcases DataW.trod_slice ht h with ⟨hcs, hx⟩ | ⟨a, len', cap', elems, rest, m, _, hcs, hx, hb, hl, hm, hlen, hel, hsp, hns⟩
  · exact ⟨none, 0, 0, hcs, Nat.le_refl _, Nat.zero_le _, .inl rfl⟩
  · rw [hc] at hel hsp
    refine ⟨some a, len', cap', hcs, hl, hm, ?_⟩
    rcases Nat.eq_zero_or_pos cap' with h0 | h0
    · exact .inl h0
    · have hspot : a.spot = none := by
        rcases Nat.eq_zero_or_pos len' with h1 | h1
        · obtain ⟨h2, h3⟩ := hsp rfl
          have h4 := h3 0 (by omega)
          rw [List.getElem?_eq_getElem (by omega)] at h4
          cases hq : W.cells? 0 (a.add ((len' + 0) * k)) k with
          | none => rw [hq] at h4; cases h4
          | some cs => rw [show (len' + 0) * k = 0 by rw [h1]; simp] at hq; have := sp_spot hk hq; simpa [Addr.add] using this
        · have h4 := hel 0 h1
          rw [List.getElem?_eq_getElem (by omega)] at h4
          cases hq : W.cells? 0 (a.add (0 * k)) k with
          | none => rw [hq] at h4; cases h4
          | some cs => rw [Nat.zero_mul] at hq; have := sp_spot hk hq; simpa [Addr.add] using this
      obtain ⟨ab, ao, spot⟩ := a
      simp only at hspot
      subst hspot
      refine .inr ⟨ab, ao, rfl, fun i hi => ?_⟩
      have h1 := hel i hi
      rw [List.getElem?_eq_getElem (by omega)] at h1
      cases hcs : W.cells? 0 ((⟨ab, ao, none⟩ : Addr).add (i * k)) k with
      | none => rw [hcs] at h1; cases h1
      | some es =>
        rw [hcs] at h1
        have h2 := World.cells?_some hcs
        refine ⟨es, m, _, h1, fun j v hv => ?_⟩
        have hj : j < es.length := (List.getElem?_eq_some_iff.1 hv).1
        have h3 := h2.2.2 j (by have := h2.1; omega)
        rw [hv] at h3
        simpa [Addr.add_lit] using h3
theorem sp_choose {α : Type} {n : Nat} {P : Nat → α → Prop} (h : ∀ i, i < n → ∃ x, P i x) : ∃ l : List α, l.length = n ∧ ∀ i x, l[i]? = some x → P i x := by
  induction n with
  | zero => exact ⟨[], rfl, by simp⟩
  | succ n ih =>
    obtain ⟨l, h1, h2⟩ := ih (fun i hi => h i (by omega))
    obtain ⟨x, hx⟩ := h n (by omega)
    refine ⟨l ++ [x], by simp [h1], fun i y hy => ?_⟩
    rcases Nat.lt_or_ge i l.length with hi | hi
    · rw [List.getElem?_append_left hi] at hy; exact h2 i y hy
    · rw [List.getElem?_append_right hi] at hy
      have : i - l.length = 0 := by
        rcases Nat.eq_zero_or_pos (i - l.length) with h0 | h0
        · exact h0
        · rw [List.getElem?_eq_none (by simp; omega)] at hy; cases hy
      rw [this] at hy
      simp at hy
      subst hy
      have : i = n := by omega
      rw [this]; exact hx
set_option maxRecDepth 100000 in
theorem open_fur1 {fuel : Nat} {cs : List Value} {y : DataW H × List MemPlace} (h : DataW.trod enc Tryz.prog W 0 (fun _ => true) true fuel 67 cs = some y) : ∃ x : FurV, cs = (furA x).toList := by
  obtain ⟨xs, m, _, _, hl, hlen, hf⟩ := DataW.trod_struct Tryz.underlying67 h
  rw [Tryz.cells67] at hl
  match cs, hl with
  | [c0, c1, c2, c3, c4, c5], _ =>
    obtain ⟨y0, e0⟩ := get_some hlen (i := 0) (by decide)
    have g0 : DataW.trod enc Tryz.prog W 0 (fun _ => true) true m 3 (([c0, c1, c2, c3, c4, c5].drop 0).take (Tryz.prog.cellsOf 3)) = some y0 := (hf 0 _ rfl).trans e0
    rw [Tryz.cells3] at g0
    obtain ⟨x0, a0, _, _⟩ := DataW.trod_int Tryz.underlying3 g0
    simp at a0
    clear e0 g0
    obtain ⟨y1, e1⟩ := get_some hlen (i := 1) (by decide)
    have g1 : DataW.trod enc Tryz.prog W 0 (fun _ => true) true m 3 (([c0, c1, c2, c3, c4, c5].drop 1).take (Tryz.prog.cellsOf 3)) = some y1 := (hf 1 _ rfl).trans e1
    rw [Tryz.cells3] at g1
    obtain ⟨x1, a1, _, _⟩ := DataW.trod_int Tryz.underlying3 g1
    simp at a1
    clear e1 g1
    obtain ⟨y2, e2⟩ := get_some hlen (i := 2) (by decide)
    have g2 : DataW.trod enc Tryz.prog W 0 (fun _ => true) true m 3 (([c0, c1, c2, c3, c4, c5].drop 2).take (Tryz.prog.cellsOf 3)) = some y2 := (hf 2 _ rfl).trans e2
    rw [Tryz.cells3] at g2
    obtain ⟨x2, a2, _, _⟩ := DataW.trod_int Tryz.underlying3 g2
    simp at a2
    clear e2 g2
    obtain ⟨y3, e3⟩ := get_some hlen (i := 3) (by decide)
    have g3 : DataW.trod enc Tryz.prog W 0 (fun _ => true) true m 3 (([c0, c1, c2, c3, c4, c5].drop 3).take (Tryz.prog.cellsOf 3)) = some y3 := (hf 3 _ rfl).trans e3
    rw [Tryz.cells3] at g3
    obtain ⟨x3, a3, _, _⟩ := DataW.trod_int Tryz.underlying3 g3
    simp at a3
    clear e3 g3
    obtain ⟨y4, e4⟩ := get_some hlen (i := 4) (by decide)
    have g4 : DataW.trod enc Tryz.prog W 0 (fun _ => true) true m 3 (([c0, c1, c2, c3, c4, c5].drop 4).take (Tryz.prog.cellsOf 3)) = some y4 := (hf 4 _ rfl).trans e4
    rw [Tryz.cells3] at g4
    obtain ⟨x4, a4, _, _⟩ := DataW.trod_int Tryz.underlying3 g4
    simp at a4
    clear e4 g4
    obtain ⟨y5, e5⟩ := get_some hlen (i := 5) (by decide)
    have g5 : DataW.trod enc Tryz.prog W 0 (fun _ => true) true m 3 (([c0, c1, c2, c3, c4, c5].drop 5).take (Tryz.prog.cellsOf 3)) = some y5 := (hf 5 _ rfl).trans e5
    rw [Tryz.cells3] at g5
    obtain ⟨x5, a5, _, _⟩ := DataW.trod_int Tryz.underlying3 g5
    simp at a5
    clear e5 g5
    exact ⟨⟨x0, x1, x2, x3, x4, x5⟩, by rw [a0, a1, a2, a3, a4, a5]; rfl⟩
set_option maxRecDepth 100000 in
theorem open_furs1 {fuel : Nat} {cs : List Value} {y : DataW H × List MemPlace} (h : DataW.trod enc Tryz.prog W 0 (fun _ => true) true fuel 22 cs = some y) : ∃ a c l, cs = [.slice a l.length c] ∧ RdFu W a l.length c l := by
  obtain ⟨a, n, c, rfl, h1, h2, h3⟩ := sp_rows Tryz.underlying22 Tryz.cells67 (by decide) h
  rcases h3 with h3 | ⟨b, off, rfl, h3⟩
  · have hn : n = 0 := by omega
    subst hn
    exact ⟨a, c, [], rfl, by rfl, h1, h2, .inl h3⟩
  · obtain ⟨l, h4, h5⟩ := sp_choose (P := fun i (x : FurV) => W.rangeAt b (off + i * 6) (furA x).toList) (fun i hi => by
      obtain ⟨es, m, z, h6, h7⟩ := h3 i hi
      obtain ⟨x, rfl⟩ := open_fur1 h6
      exact ⟨x, h7⟩)
    subst h4
    refine ⟨_, c, l, rfl, fursV_len l, h1, h2, .inr ⟨b, off, rfl, fun i x hx => ?_⟩⟩
    have hi := (List.getElem?_eq_some_iff.1 hx).1
    rw [fursV_len] at hi
    have hk : i / 6 < l.length := by omega
    have e : i = i / 6 * 6 + i % 6 := by omega
    have hj : i % 6 < 6 := Nat.mod_lt _ (by omega)
    have hr := h5 (i / 6) _ (List.getElem?_eq_getElem hk)
    rw [e, fursV_at l (i / 6) _ (List.getElem?_eq_getElem hk) (i % 6) hj] at hx
    have := hr (i % 6) x (by rw [← hx]; simp)
    rw [Nat.add_assoc] at this
    rw [e]
    exact this
set_option maxRecDepth 100000 in
theorem open_pat {base : Nat} {v : Value} {d : DataW H} {p : List MemPlace} (hval : Value.okWide Tryz.prog W .any base 24 v)
    (h : DataW.Trod enc Tryz.prog W 0 (fun _ => true) true 24 v d p) : ∃ (q : PatV) (a : Option Addr) (n : Nat), v = .agg (patA q a n) ∧ RdFu W a q.furs.length n q.furs := by
  obtain ⟨cs, rfl, hsz⟩ := okWide_struct Tryz.underlying24 hval
  obtain ⟨fuel, hf0⟩ := h
  obtain ⟨xs, m, _, _, hl, hlen, hf⟩ := DataW.trod_struct Tryz.underlying24 hf0
  rw [Tryz.cells24] at hsz
  obtain ⟨l⟩ := cs
  match l, hsz with
  | [c0, c1, c2, c3, c4], _ =>
    obtain ⟨y0, e0⟩ := get_some hlen (i := 0) (by decide)
    have g0 : DataW.trod enc Tryz.prog W 0 (fun _ => true) true m 3 (([c0, c1, c2, c3, c4].drop 0).take (Tryz.prog.cellsOf 3)) = some y0 := (hf 0 _ rfl).trans e0
    rw [Tryz.cells3] at g0
    obtain ⟨x0, a0, _, _⟩ := DataW.trod_int Tryz.underlying3 g0
    simp at a0
    clear e0 g0
    obtain ⟨y1, e1⟩ := get_some hlen (i := 1) (by decide)
    have g1 : DataW.trod enc Tryz.prog W 0 (fun _ => true) true m 3 (([c0, c1, c2, c3, c4].drop 1).take (Tryz.prog.cellsOf 3)) = some y1 := (hf 1 _ rfl).trans e1
    rw [Tryz.cells3] at g1
    obtain ⟨x1, a1, _, _⟩ := DataW.trod_int Tryz.underlying3 g1
    simp at a1
    clear e1 g1
    obtain ⟨y2, e2⟩ := get_some hlen (i := 2) (by decide)
    have g2 : DataW.trod enc Tryz.prog W 0 (fun _ => true) true m 3 (([c0, c1, c2, c3, c4].drop 2).take (Tryz.prog.cellsOf 3)) = some y2 := (hf 2 _ rfl).trans e2
    rw [Tryz.cells3] at g2
    obtain ⟨x2, a2, _, _⟩ := DataW.trod_int Tryz.underlying3 g2
    simp at a2
    clear e2 g2
    obtain ⟨y3, e3⟩ := get_some hlen (i := 3) (by decide)
    have g3 : DataW.trod enc Tryz.prog W 0 (fun _ => true) true m 3 (([c0, c1, c2, c3, c4].drop 3).take (Tryz.prog.cellsOf 3)) = some y3 := (hf 3 _ rfl).trans e3
    rw [Tryz.cells3] at g3
    obtain ⟨x3, a3, _, _⟩ := DataW.trod_int Tryz.underlying3 g3
    simp at a3
    clear e3 g3
    obtain ⟨y4, e4⟩ := get_some hlen (i := 4) (by decide)
    have g4 : DataW.trod enc Tryz.prog W 0 (fun _ => true) true m 22 (([c0, c1, c2, c3, c4].drop 4).take (Tryz.prog.cellsOf 22)) = some y4 := (hf 4 _ rfl).trans e4
    rw [Tryz.cells22] at g4
    obtain ⟨a, c, l, a4, hr⟩ := open_furs1 g4
    simp at a4
    exact ⟨⟨x0, x1, x2, x3, l⟩, a, c, by rw [a0, a1, a2, a3, a4]; rfl, hr⟩
end
end Go.Proofs.YtmpkglokhchpiaaGreatDoor
namespace Go.Proofs.YtmpkglokhchpiaaGreatDoor
set_option linter.unusedSimpArgs false
set_option linter.unusedVariables false
open Go.RowKit

theorem cut_w4 {A1 A2 A3 A4 : Type} {P T : A1 → A2 → A3 → A4 → Prop} {G : Prop} (h1 : (∀ x1 x2 x3 x4, P x1 x2 x3 x4 → T x1 x2 x3 x4) → G) (h2 : ∀ x1 x2 x3 x4, P x1 x2 x3 x4 → T x1 x2 x3 x4) : G := h1 h2
theorem rdn_at {W : World} {b off n c k : Nat} {l : List Int} {x : Int} (h : RdI W (some ⟨b, off, none⟩) n c l) (hx : l[k]? = some x) : W.cell? ⟨b, off + k, none⟩ = some (.int .i64 x) := by
  obtain ⟨b2, o2, e, h2⟩ := h.get hx
  simp only [Option.some.injEq, Addr.mk.injEq, and_true] at e
  rw [e.1, e.2]
  exact h2
def turnsI (f g : FaceV) : List Int := (turnsF f g).map fun (b : Nat) => (b : Int)
theorem turnsI_at {f g : FaceV} {k : Nat} (h : k < (turnsF f g).length) : ∃ b : Nat, (turnsF f g)[k]? = some b ∧ (turnsI f g)[k]? = some (b : Int) := by
  refine ⟨_, List.getElem?_eq_getElem h, ?_⟩
  unfold turnsI
  rw [List.getElem?_map, List.getElem?_eq_getElem h]
  rfl
theorem norm_same {f : FaceV} (hf : f.valid = true) (g : FaceV) (hg : g.valid = true) : sameF (normalF f) (normalF g) = decide (0 < (turnsF f g).length) := by
  unfold sameF
  rw [decide_eq_decide, ← normal_iff hf hg, List.length_pos_iff]
theorem norm_own {f : FaceV} (hf : f.valid = true) : 0 < (turnsF f (normalF f)).length := by
  have h := normal_spec hf
  obtain ⟨a, e, _⟩ := h
  exact List.length_pos_iff.2 (turns_some hf e.symm)
set_option maxHeartbeats 4000000 in
set_option maxRecDepth 100000 in
theorem normal_any (f g : FaceV) (a ga : Option Addr) (n gn : Nat) (by_ : Int) (w : World) (he : EnvW w) (hr : RdI w a f.kinds.length n f.kinds) (hg : RdI w ga g.kinds.length gn g.kinds) :
    Calls Tryz.prog 9 #[.agg (f.cells a n), .agg (g.cells ga gn), .int .i64 by_] w fun e w' => e = .returned (.bool true) ∧ Below w.heap.size w w' := by
  have EV := Lib.hid (fun W (hb : Below w.heap.size w W) => he.below hb)
  have HR := Lib.hid hr
  have HG := Lib.hid hg
  clear he hr hg
  have AL := Lib.hid (al2 w (.cells (f.cells a n) 28) (.cells (g.cells ga gn) 28))
  go_enter Tryz.func9, Tryz.ntmps9
  go_upto_region 1 with fail
  obtain ⟨p, hp⟩ : ∃ p, Hid (w.heap.size = p) := ⟨_, Lib.hid rfl⟩
  obtain ⟨q, hq⟩ : ∃ q, Hid (w.heap.size + 1 = q) := ⟨_, Lib.hid rfl⟩
  rw [hq.out] at AL ⊢
  rw [hp.out] at AL ⊢
  generalize ((w.alloc (.cells (f.cells a n) 28)).alloc (.cells (g.cells ga gn) 28)) = W0 at *
  have BF : Hid (Below w.heap.size w W0) := Lib.hid (by rw [hp.out]; exact AL.out.1)
  have XF : Hid (W0.heap[p]? = some (.cells (f.cells a n) 28 (0, 0))) := Lib.hid AL.out.2.1
  have XG : Hid (W0.heap[q]? = some (.cells (g.cells ga gn) 28 (0, 0))) := Lib.hid AL.out.2.2
  clear AL
  have c0 := qcell XF.out 0 (.int .i64 f.eye) rfl
  have c1 := qcell XF.out 1 (.int .i64 f.rings) rfl
  have c2 := qcell XF.out 2 (.int .i64 f.sectors) rfl
  have c3 := qcell XF.out 3 (.slice a f.kinds.length n) rfl
  have d0 := qcell XG.out 0 (.int .i64 g.eye) rfl
  have d1 := qcell XG.out 1 (.int .i64 g.rings) rfl
  have d2 := qcell XG.out 2 (.int .i64 g.sectors) rfl
  have d3 := qcell XG.out 3 (.slice ga g.kinds.length gn) rfl
  clear c0 c1 c2 c3 d0 d1 d2 d3
  replace HR := Lib.hid (HR.out.below BF.out)
  replace HG := Lib.hid (HG.out.below BF.out)
  go_upto_region 1 with fail
  refine yB ?_
  refine yR (fun K hK => ?_)
  go_simp
  refine (awake_any _ (EV.out _ BF.out)).mono ?_
  rintro e U1 ⟨rfl, b⟩
  replace BF := Lib.hid (BF.out.trans (b.mono BF.out.size))
  replace HR := Lib.hid (HR.out.below b)
  replace HG := Lib.hid (HG.out.below b)
  replace XF := Lib.hid (qblk b XF.out)
  replace XG := Lib.hid (qblk b XG.out)
  clear b
  try dsimp only
  refine yK hK ?_
  clear hK K
  refine yM (.bool true) ?_
  refine yE ?_
  go_upto_region 2 with fail
  refine yB ?_
  refine yW (.agg (f.cells a n)) ?_ (qyrow (by kernel_rfl) 28 _ rfl p rfl _ 28 (0, 0) _ (fun W hW => by rw [hW]; exact XF.out) Tryz.underlying28 rfl (by exact (qJF f a n)))
  refine yR (fun K hK => ?_)
  go_simp
  refine (short_any f a n _).mono ?_
  rintro e wr ⟨rfl, b⟩
  replace BF := Lib.hid (BF.out.trans (b.mono BF.out.size))
  replace HR := Lib.hid (HR.out.below b)
  replace HG := Lib.hid (HG.out.below b)
  replace XF := Lib.hid (qblk b XF.out)
  replace XG := Lib.hid (qblk b XG.out)
  clear b
  cases s1 : decide (f.kinds.length ≤ 3000)
  · try dsimp only
    refine yK hK ?_
    clear hK K
    refine yM (.bool true) ?_
    refine yM (.bool true) ?_
    go_skip
    refine yM (.bool true) ?_
    refine yM (.bool true) ?_
    go_skip
    refine yM (.bool true) ?_
    refine yM (.bool true) ?_
    go_skip
    refine yM (.bool true) ?_
    refine yE ?_
    go_wp2_with fail
    go_ret
    exact ⟨rfl, BF.out⟩
  · try dsimp only
    refine yK hK ?_
    clear hK K
    refine yM (.bool false) ?_
    refine yM (.bool false) ?_
    refine yW (.agg (g.cells ga gn)) ?_ (qyrow (by kernel_rfl) 28 _ rfl q rfl _ 28 (0, 0) _ (fun W hW => by rw [hW]; exact XG.out) Tryz.underlying28 rfl (by exact (qJF g ga gn)))
    refine yR (fun K hK => ?_)
    go_simp
    refine (short_any g ga gn _).mono ?_
    rintro e wr ⟨rfl, b⟩
    replace BF := Lib.hid (BF.out.trans (b.mono BF.out.size))
    replace HR := Lib.hid (HR.out.below b)
    replace HG := Lib.hid (HG.out.below b)
    replace XF := Lib.hid (qblk b XF.out)
    replace XG := Lib.hid (qblk b XG.out)
    clear b
    cases s2 : decide (g.kinds.length ≤ 3000)
    · try dsimp only
      refine yK hK ?_
      clear hK K
      refine yM (.bool true) ?_
      refine yM (.bool true) ?_
      refine yM (.bool true) ?_
      go_skip
      refine yM (.bool true) ?_
      refine yM (.bool true) ?_
      go_skip
      refine yM (.bool true) ?_
      refine yE ?_
      go_wp2_with fail
      go_ret
      exact ⟨rfl, BF.out⟩
    · try dsimp only
      refine yK hK ?_
      clear hK K
      refine yM (.bool false) ?_
      refine yM (.bool false) ?_
      refine yM (.bool false) ?_
      refine yW (.agg (f.cells a n)) ?_ (qyrow (by kernel_rfl) 28 _ rfl p rfl _ 28 (0, 0) _ (fun W hW => by rw [hW]; exact XF.out) Tryz.underlying28 rfl (by exact (qJF f a n)))
      refine yR (fun K hK => ?_)
      go_simp
      refine (valid2_any f a n _ HR.out).mono ?_
      rintro e wr ⟨rfl, b⟩
      replace BF := Lib.hid (BF.out.trans (b.mono BF.out.size))
      replace HR := Lib.hid (HR.out.below b)
      replace HG := Lib.hid (HG.out.below b)
      replace XF := Lib.hid (qblk b XF.out)
      replace XG := Lib.hid (qblk b XG.out)
      clear b
      cases hv : f.valid
      · try dsimp only
        refine yK hK ?_
        clear hK K
        refine yM (.bool true) ?_
        refine yM (.bool true) ?_
        refine yM (.bool true) ?_
        go_skip
        refine yM (.bool true) ?_
        refine yE ?_
        go_wp2_with fail
        go_ret
        exact ⟨rfl, BF.out⟩
      · have HV := Lib.hid hv
        clear hv
        try dsimp only
        refine yK hK ?_
        clear hK K
        refine yM (.bool false) ?_
        refine yM (.bool false) ?_
        refine yM (.bool false) ?_
        refine yW (.agg (g.cells ga gn)) ?_ (qyrow (by kernel_rfl) 28 _ rfl q rfl _ 28 (0, 0) _ (fun W hW => by rw [hW]; exact XG.out) Tryz.underlying28 rfl (by exact (qJF g ga gn)))
        refine yR (fun K hK => ?_)
        go_simp
        refine (valid2_any g ga gn _ HG.out).mono ?_
        rintro e wr ⟨rfl, b⟩
        replace BF := Lib.hid (BF.out.trans (b.mono BF.out.size))
        replace HR := Lib.hid (HR.out.below b)
        replace HG := Lib.hid (HG.out.below b)
        replace XF := Lib.hid (qblk b XF.out)
        replace XG := Lib.hid (qblk b XG.out)
        clear b
        cases hw : g.valid
        · try dsimp only
          refine yK hK ?_
          clear hK K
          refine yM (.bool true) ?_
          refine yM (.bool true) ?_
          refine yE ?_
          go_wp2_with fail
          go_ret
          exact ⟨rfl, BF.out⟩
        · have HW := Lib.hid hw
          clear hw
          try dsimp only
          refine yK hK ?_
          clear hK K
          refine yM (.bool false) ?_
          refine yM (.bool false) ?_
          refine yE ?_
          have VX := Lib.hid (turn_valid HV.out by_)
          have VA := Lib.hid (normal_valid HV.out)
          go_upto_region 4 with fail
          refine yB ?_
          refine yW (.agg (f.cells a n)) ?_ (qyrow (by kernel_rfl) 28 _ rfl p rfl _ 28 (0, 0) _ (fun W hW => by rw [hW]; exact XF.out) Tryz.underlying28 rfl (by exact (qJF f a n)))
          refine yM (.int .i64 by_) ?_
          refine yR (fun K hK => ?_)
          go_simp
          refine (turnP_any f a n by_ _ HR.out).mono ?_
          rintro e U6 ⟨⟨b1, m1, rfl, own⟩, b⟩
          rw [show turnP f by_ = ((turnF f by_), 0) by unfold turnP; rw [HV.out]; rfl] at own ⊢
          dsimp only at own
          have R1 := Lib.hid own.rd
          clear own
          replace BF := Lib.hid (BF.out.trans (b.mono BF.out.size))
          replace HR := Lib.hid (HR.out.below b)
          replace HG := Lib.hid (HG.out.below b)
          replace XF := Lib.hid (qblk b XF.out)
          replace XG := Lib.hid (qblk b XG.out)
          clear b
          try dsimp only
          refine yK hK ?_
          clear hK K
          refine yM (.tuple #[.agg ((turnF f by_).cells b1 m1), .int .i64 0]) ?_
          refine yM (.agg ((turnF f by_).cells b1 m1)) ?_
          refine yM (.int .i64 0) ?_
          refine yR (fun K hK => ?_)
          refine qbuild (w' := U6.alloc (.cells #[.int .i64 0, .int .i64 0, .int .i64 0, .slice none 0 0] 28)) (.pointer (some ⟨U6.heap.size, 0, none⟩)) (by kernel_rfl) ?_
          obtain ⟨x8, hx8⟩ : ∃ x, Hid (U6.heap.size = x) := ⟨_, Lib.hid rfl⟩
          have AL := Lib.hid (al1 U6 (.cells #[.int .i64 0, .int .i64 0, .int .i64 0, .slice none 0 0] 28))
          rw [hx8.out] at AL ⊢
          refine yK hK ?_
          clear hK K
          refine yR (fun K hK => ?_)
          refine qstore 28 _ _ rfl x8 #[.int .i64 0, .int .i64 0, .int .i64 0, .slice none 0 0] ((turnF f by_).cells b1 m1) 28 rfl rfl AL.out.2 (by exact qJF (turnF f by_) b1 m1) rfl (qone (turnF f by_) b1 m1) ?_
          intro U7 h8 hg8 hs8
          have b : Below U6.heap.size U6 U7 := qstep (by have h1 := AL.out.1; rw [← hx8.out] at h1; exact h1) hg8 (Nat.le_of_eq hx8.out)
          replace BF := Lib.hid (BF.out.trans (b.mono BF.out.size))
          replace HR := Lib.hid (HR.out.below b)
          replace HG := Lib.hid (HG.out.below b)
          replace R1 := Lib.hid (R1.out.below b)
          replace XF := Lib.hid (qblk b XF.out)
          replace XG := Lib.hid (qblk b XG.out)
          clear b
          have Xx8 := Lib.hid h8
          clear h8 hg8 hs8 AL
          refine yK hK ?_
          clear hK K
          refine yM (.int .i64 0) ?_
          refine yE ?_
          go_upto_region 5 with fail
          refine yB ?_
          refine yW (.agg (f.cells a n)) ?_ (qyrow (by kernel_rfl) 28 _ rfl p rfl _ 28 (0, 0) _ (fun W hW => by rw [hW]; exact XF.out) Tryz.underlying28 rfl (by exact (qJF f a n)))
          refine yR (fun K hK => ?_)
          go_simp
          refine (normalP_any f a n _ HR.out).mono ?_
          rintro e U8 ⟨⟨b2, m2, rfl, own⟩, b⟩
          rw [show normalP f = ((normalF f), 0) by unfold normalP; rw [if_pos HV.out]] at own ⊢
          dsimp only at own
          have R2 := Lib.hid own.rd
          clear own
          replace BF := Lib.hid (BF.out.trans (b.mono BF.out.size))
          replace HR := Lib.hid (HR.out.below b)
          replace HG := Lib.hid (HG.out.below b)
          replace R1 := Lib.hid (R1.out.below b)
          replace XF := Lib.hid (qblk b XF.out)
          replace XG := Lib.hid (qblk b XG.out)
          replace Xx8 := Lib.hid (qblk b Xx8.out)
          clear b
          try dsimp only
          refine yK hK ?_
          clear hK K
          refine yM (.tuple #[.agg ((normalF f).cells b2 m2), .int .i64 0]) ?_
          refine yM (.agg ((normalF f).cells b2 m2)) ?_
          refine yM (.int .i64 0) ?_
          refine yR (fun K hK => ?_)
          refine qbuild (w' := U8.alloc (.cells #[.int .i64 0, .int .i64 0, .int .i64 0, .slice none 0 0] 28)) (.pointer (some ⟨U8.heap.size, 0, none⟩)) (by kernel_rfl) ?_
          obtain ⟨x10, hx10⟩ : ∃ x, Hid (U8.heap.size = x) := ⟨_, Lib.hid rfl⟩
          have AL := Lib.hid (al1 U8 (.cells #[.int .i64 0, .int .i64 0, .int .i64 0, .slice none 0 0] 28))
          rw [hx10.out] at AL ⊢
          refine yK hK ?_
          clear hK K
          refine yR (fun K hK => ?_)
          refine qstore 28 _ _ rfl x10 #[.int .i64 0, .int .i64 0, .int .i64 0, .slice none 0 0] ((normalF f).cells b2 m2) 28 rfl rfl AL.out.2 (by exact qJF (normalF f) b2 m2) rfl (qone (normalF f) b2 m2) ?_
          intro U9 h8 hg8 hs8
          have b : Below U8.heap.size U8 U9 := qstep (by have h1 := AL.out.1; rw [← hx10.out] at h1; exact h1) hg8 (Nat.le_of_eq hx10.out)
          replace BF := Lib.hid (BF.out.trans (b.mono BF.out.size))
          replace HR := Lib.hid (HR.out.below b)
          replace HG := Lib.hid (HG.out.below b)
          replace R1 := Lib.hid (R1.out.below b)
          replace R2 := Lib.hid (R2.out.below b)
          replace XF := Lib.hid (qblk b XF.out)
          replace XG := Lib.hid (qblk b XG.out)
          replace Xx8 := Lib.hid (qblk b Xx8.out)
          clear b
          have Xx10 := Lib.hid h8
          clear h8 hg8 hs8 AL
          refine yK hK ?_
          clear hK K
          refine yM (.int .i64 0) ?_
          refine yE ?_
          go_upto_region 6 with fail
          refine yB ?_
          refine yW (.agg ((turnF f by_).cells b1 m1)) ?_ (qyrow (by kernel_rfl) 28 _ rfl x8 rfl _ 28 (0, 0) _ (fun W hW => by rw [hW]; exact Xx8.out) Tryz.underlying28 rfl (by exact (qJF (turnF f by_) b1 m1)))
          refine yR (fun K hK => ?_)
          go_simp
          refine (normalP_any (turnF f by_) b1 m1 _ R1.out).mono ?_
          rintro e U10 ⟨⟨b3, m3, rfl, own⟩, b⟩
          rw [show normalP (turnF f by_) = ((normalF f), 0) by unfold normalP; rw [if_pos VX.out, normal_turn HV.out]] at own ⊢
          dsimp only at own
          have R3 := Lib.hid own.rd
          clear own
          replace BF := Lib.hid (BF.out.trans (b.mono BF.out.size))
          replace HR := Lib.hid (HR.out.below b)
          replace HG := Lib.hid (HG.out.below b)
          replace R1 := Lib.hid (R1.out.below b)
          replace R2 := Lib.hid (R2.out.below b)
          replace XF := Lib.hid (qblk b XF.out)
          replace XG := Lib.hid (qblk b XG.out)
          replace Xx8 := Lib.hid (qblk b Xx8.out)
          replace Xx10 := Lib.hid (qblk b Xx10.out)
          clear b
          try dsimp only
          refine yK hK ?_
          clear hK K
          refine yM (.tuple #[.agg ((normalF f).cells b3 m3), .int .i64 0]) ?_
          refine yM (.agg ((normalF f).cells b3 m3)) ?_
          refine yM (.int .i64 0) ?_
          refine yR (fun K hK => ?_)
          refine qbuild (w' := U10.alloc (.cells #[.int .i64 0, .int .i64 0, .int .i64 0, .slice none 0 0] 28)) (.pointer (some ⟨U10.heap.size, 0, none⟩)) (by kernel_rfl) ?_
          obtain ⟨x12, hx12⟩ : ∃ x, Hid (U10.heap.size = x) := ⟨_, Lib.hid rfl⟩
          have AL := Lib.hid (al1 U10 (.cells #[.int .i64 0, .int .i64 0, .int .i64 0, .slice none 0 0] 28))
          rw [hx12.out] at AL ⊢
          refine yK hK ?_
          clear hK K
          refine yR (fun K hK => ?_)
          refine qstore 28 _ _ rfl x12 #[.int .i64 0, .int .i64 0, .int .i64 0, .slice none 0 0] ((normalF f).cells b3 m3) 28 rfl rfl AL.out.2 (by exact qJF (normalF f) b3 m3) rfl (qone (normalF f) b3 m3) ?_
          intro U11 h8 hg8 hs8
          have b : Below U10.heap.size U10 U11 := qstep (by have h1 := AL.out.1; rw [← hx12.out] at h1; exact h1) hg8 (Nat.le_of_eq hx12.out)
          replace BF := Lib.hid (BF.out.trans (b.mono BF.out.size))
          replace HR := Lib.hid (HR.out.below b)
          replace HG := Lib.hid (HG.out.below b)
          replace R1 := Lib.hid (R1.out.below b)
          replace R2 := Lib.hid (R2.out.below b)
          replace R3 := Lib.hid (R3.out.below b)
          replace XF := Lib.hid (qblk b XF.out)
          replace XG := Lib.hid (qblk b XG.out)
          replace Xx8 := Lib.hid (qblk b Xx8.out)
          replace Xx10 := Lib.hid (qblk b Xx10.out)
          clear b
          have Xx12 := Lib.hid h8
          clear h8 hg8 hs8 AL
          refine yK hK ?_
          clear hK K
          refine yM (.int .i64 0) ?_
          refine yE ?_
          go_upto_region 7 with fail
          refine yB ?_
          refine yW (.agg (g.cells ga gn)) ?_ (qyrow (by kernel_rfl) 28 _ rfl q rfl _ 28 (0, 0) _ (fun W hW => by rw [hW]; exact XG.out) Tryz.underlying28 rfl (by exact (qJF g ga gn)))
          refine yR (fun K hK => ?_)
          go_simp
          refine (normalP_any g ga gn _ HG.out).mono ?_
          rintro e U12 ⟨⟨b4, m4, rfl, own⟩, b⟩
          rw [show normalP g = ((normalF g), 0) by unfold normalP; rw [if_pos HW.out]] at own ⊢
          dsimp only at own
          have R4 := Lib.hid own.rd
          clear own
          replace BF := Lib.hid (BF.out.trans (b.mono BF.out.size))
          replace HR := Lib.hid (HR.out.below b)
          replace HG := Lib.hid (HG.out.below b)
          replace R1 := Lib.hid (R1.out.below b)
          replace R2 := Lib.hid (R2.out.below b)
          replace R3 := Lib.hid (R3.out.below b)
          replace XF := Lib.hid (qblk b XF.out)
          replace XG := Lib.hid (qblk b XG.out)
          replace Xx8 := Lib.hid (qblk b Xx8.out)
          replace Xx10 := Lib.hid (qblk b Xx10.out)
          replace Xx12 := Lib.hid (qblk b Xx12.out)
          clear b
          try dsimp only
          refine yK hK ?_
          clear hK K
          refine yM (.tuple #[.agg ((normalF g).cells b4 m4), .int .i64 0]) ?_
          refine yM (.agg ((normalF g).cells b4 m4)) ?_
          refine yM (.int .i64 0) ?_
          refine yR (fun K hK => ?_)
          refine qbuild (w' := U12.alloc (.cells #[.int .i64 0, .int .i64 0, .int .i64 0, .slice none 0 0] 28)) (.pointer (some ⟨U12.heap.size, 0, none⟩)) (by kernel_rfl) ?_
          obtain ⟨x14, hx14⟩ : ∃ x, Hid (U12.heap.size = x) := ⟨_, Lib.hid rfl⟩
          have AL := Lib.hid (al1 U12 (.cells #[.int .i64 0, .int .i64 0, .int .i64 0, .slice none 0 0] 28))
          rw [hx14.out] at AL ⊢
          refine yK hK ?_
          clear hK K
          refine yR (fun K hK => ?_)
          refine qstore 28 _ _ rfl x14 #[.int .i64 0, .int .i64 0, .int .i64 0, .slice none 0 0] ((normalF g).cells b4 m4) 28 rfl rfl AL.out.2 (by exact qJF (normalF g) b4 m4) rfl (qone (normalF g) b4 m4) ?_
          intro U13 h8 hg8 hs8
          have b : Below U12.heap.size U12 U13 := qstep (by have h1 := AL.out.1; rw [← hx14.out] at h1; exact h1) hg8 (Nat.le_of_eq hx14.out)
          replace BF := Lib.hid (BF.out.trans (b.mono BF.out.size))
          replace HR := Lib.hid (HR.out.below b)
          replace HG := Lib.hid (HG.out.below b)
          replace R1 := Lib.hid (R1.out.below b)
          replace R2 := Lib.hid (R2.out.below b)
          replace R3 := Lib.hid (R3.out.below b)
          replace R4 := Lib.hid (R4.out.below b)
          replace XF := Lib.hid (qblk b XF.out)
          replace XG := Lib.hid (qblk b XG.out)
          replace Xx8 := Lib.hid (qblk b Xx8.out)
          replace Xx10 := Lib.hid (qblk b Xx10.out)
          replace Xx12 := Lib.hid (qblk b Xx12.out)
          clear b
          have Xx14 := Lib.hid h8
          clear h8 hg8 hs8 AL
          refine yK hK ?_
          clear hK K
          refine yM (.int .i64 0) ?_
          refine yE ?_
          go_upto_region 8 with fail
          refine yB ?_
          refine yW (.agg (f.cells a n)) ?_ (qyrow (by kernel_rfl) 28 _ rfl p rfl _ 28 (0, 0) _ (fun W hW => by rw [hW]; exact XF.out) Tryz.underlying28 rfl (by exact (qJF f a n)))
          refine yW (.agg ((normalF f).cells b2 m2)) ?_ (qyrow (by kernel_rfl) 28 _ rfl x10 rfl _ 28 (0, 0) _ (fun W hW => by rw [hW]; exact Xx10.out) Tryz.underlying28 rfl (by exact (qJF (normalF f) b2 m2)))
          refine yR (fun K hK => ?_)
          go_simp
          refine (turnsP_any f (normalF f) a b2 n m2 _ HR.out R2.out).mono ?_
          rintro e U14 ⟨⟨b5, m5, rfl, own⟩, b⟩
          clear own
          rw [show turnsP f (normalF f) = (turnsF f (normalF f), 0) by unfold turnsP; rw [if_pos ⟨HV.out, VA.out⟩]]
          try dsimp only
          replace BF := Lib.hid (BF.out.trans (b.mono BF.out.size))
          replace HR := Lib.hid (HR.out.below b)
          replace HG := Lib.hid (HG.out.below b)
          replace R1 := Lib.hid (R1.out.below b)
          replace R2 := Lib.hid (R2.out.below b)
          replace R3 := Lib.hid (R3.out.below b)
          replace R4 := Lib.hid (R4.out.below b)
          replace XF := Lib.hid (qblk b XF.out)
          replace XG := Lib.hid (qblk b XG.out)
          replace Xx8 := Lib.hid (qblk b Xx8.out)
          replace Xx10 := Lib.hid (qblk b Xx10.out)
          replace Xx12 := Lib.hid (qblk b Xx12.out)
          replace Xx14 := Lib.hid (qblk b Xx14.out)
          clear b
          obtain ⟨NO, hNO⟩ : ∃ x, Hid ((turnsF f (normalF f)).length = x) := ⟨_, Lib.hid rfl⟩
          rw [hNO.out]
          try dsimp only
          refine yK hK ?_
          clear hK K
          refine yM (.tuple #[.slice b5 NO m5, .int .i64 0]) ?_
          refine yM (.slice b5 NO m5) ?_
          refine yM (.int .i64 0) ?_
          refine yM (.slice b5 NO m5) ?_
          refine yM (.int .i64 0) ?_
          refine yE ?_
          go_upto_region 9 with fail
          refine yB ?_
          refine yW (.agg (f.cells a n)) ?_ (qyrow (by kernel_rfl) 28 _ rfl p rfl _ 28 (0, 0) _ (fun W hW => by rw [hW]; exact XF.out) Tryz.underlying28 rfl (by exact (qJF f a n)))
          refine yW (.agg (g.cells ga gn)) ?_ (qyrow (by kernel_rfl) 28 _ rfl q rfl _ 28 (0, 0) _ (fun W hW => by rw [hW]; exact XG.out) Tryz.underlying28 rfl (by exact (qJF g ga gn)))
          refine yR (fun K hK => ?_)
          go_simp
          refine (turnsP_any f g a ga n gn _ HR.out HG.out).mono ?_
          rintro e U15 ⟨⟨b6, m6, rfl, own⟩, b⟩
          rw [show turnsP f g = (turnsF f g, 0) by unfold turnsP; rw [if_pos ⟨HV.out, HW.out⟩]] at own ⊢
          try dsimp only at own ⊢
          have RL : Hid (RdI U15 b6 (turnsF f g).length m6 (turnsI f g)) := Lib.hid (RdA.of_own own)
          clear own
          replace BF := Lib.hid (BF.out.trans (b.mono BF.out.size))
          replace HR := Lib.hid (HR.out.below b)
          replace HG := Lib.hid (HG.out.below b)
          replace R1 := Lib.hid (R1.out.below b)
          replace R2 := Lib.hid (R2.out.below b)
          replace R3 := Lib.hid (R3.out.below b)
          replace R4 := Lib.hid (R4.out.below b)
          replace XF := Lib.hid (qblk b XF.out)
          replace XG := Lib.hid (qblk b XG.out)
          replace Xx8 := Lib.hid (qblk b Xx8.out)
          replace Xx10 := Lib.hid (qblk b Xx10.out)
          replace Xx12 := Lib.hid (qblk b Xx12.out)
          replace Xx14 := Lib.hid (qblk b Xx14.out)
          clear b
          obtain ⟨NL, hNL⟩ : ∃ x, Hid ((turnsF f g).length = x) := ⟨_, Lib.hid rfl⟩
          rw [hNL.out] at RL ⊢
          try dsimp only
          refine yK hK ?_
          clear hK K
          refine yM (.tuple #[.slice b6 NL m6, .int .i64 0]) ?_
          refine yM (.slice b6 NL m6) ?_
          refine yM (.int .i64 0) ?_
          refine yM (.slice b6 NL m6) ?_
          refine yM (.int .i64 0) ?_
          refine yE ?_
          go_upto_region 10 with fail
          refine yB ?_
          refine yW (.agg (f.cells a n)) ?_ (qyrow (by kernel_rfl) 28 _ rfl p rfl _ 28 (0, 0) _ (fun W hW => by rw [hW]; exact XF.out) Tryz.underlying28 rfl (by exact (qJF f a n)))
          refine yR (fun K hK => ?_)
          go_simp
          refine (periodP_any f a n _ HR.out).mono ?_
          rintro e U16 ⟨rfl, b⟩
          rw [show periodP f = ((periodF f : Int), 0) by unfold periodP; rw [if_pos HV.out]]
          replace BF := Lib.hid (BF.out.trans (b.mono BF.out.size))
          replace HR := Lib.hid (HR.out.below b)
          replace HG := Lib.hid (HG.out.below b)
          replace R1 := Lib.hid (R1.out.below b)
          replace R2 := Lib.hid (R2.out.below b)
          replace R3 := Lib.hid (R3.out.below b)
          replace R4 := Lib.hid (R4.out.below b)
          replace RL := Lib.hid (RL.out.below b)
          replace XF := Lib.hid (qblk b XF.out)
          replace XG := Lib.hid (qblk b XG.out)
          replace Xx8 := Lib.hid (qblk b Xx8.out)
          replace Xx10 := Lib.hid (qblk b Xx10.out)
          replace Xx12 := Lib.hid (qblk b Xx12.out)
          replace Xx14 := Lib.hid (qblk b Xx14.out)
          clear b
          obtain ⟨pe, hpe⟩ : ∃ x, Hid (periodF f = x) := ⟨_, Lib.hid rfl⟩
          try dsimp only
          rw [hpe.out]
          try dsimp only
          refine yK hK ?_
          clear hK K
          refine yM (.tuple #[.int .i64 (pe : Int), .int .i64 0]) ?_
          refine yM (.int .i64 (pe : Int)) ?_
          refine yM (.int .i64 0) ?_
          refine yM (.int .i64 (pe : Int)) ?_
          refine yM (.int .i64 0) ?_
          refine yE ?_
          go_upto_region 11 with fail
          refine yB ?_
          refine yM (.int .i64 0) ?_
          refine yW (.bool false) ?_
          refine yM (.bool false) ?_
          refine yM (.int .i64 0) ?_
          refine yW (.bool false) ?_
          refine yM (.bool false) ?_
          refine yM (.bool false) ?_
          refine yM (.int .i64 0) ?_
          refine yW (.bool false) ?_
          refine yM (.bool false) ?_
          refine yM (.bool false) ?_
          refine yM (.int .i64 0) ?_
          refine yW (.bool false) ?_
          refine yM (.bool false) ?_
          refine yM (.bool false) ?_
          refine yM (.int .i64 0) ?_
          refine yW (.bool false) ?_
          refine yM (.bool false) ?_
          refine yM (.bool false) ?_
          refine yM (.int .i64 0) ?_
          refine yW (.bool false) ?_
          refine yM (.bool false) ?_
          refine yM (.bool false) ?_
          refine yM (.int .i64 0) ?_
          refine yW (.bool false) ?_
          refine yM (.bool false) ?_
          refine yE ?_
          have NV := Lib.hid (FaceV.nat HV.out)
          have PS := Lib.hid (period_spec HV.out)
          have PDv := Lib.hid (period_dvd HV.out)
          have NS := Lib.hid (norm_same HV.out g HW.out)
          have NOP := Lib.hid (norm_own HV.out)
          rw [hNO.out] at NOP
          rw [hNL.out] at NS
          rw [hpe.out] at PS PDv
          obtain ⟨pI, hpI⟩ : ∃ x, Hid ((pe : Int) = x) := ⟨_, Lib.hid rfl⟩
          obtain ⟨sI, hsI⟩ : ∃ x, Hid (f.sectors = x) := ⟨_, Lib.hid rfl⟩
          rw [hpI.out]
          have RM := Lib.hid (show sI.tmod pI = 0 by
            have h1 := NV.out.2.1
            rw [← hsI.out, ← hpI.out, h1, Int.tmod_eq_emod_of_nonneg (by omega)]
            exact_mod_cast PDv.out)
          have NP0 := Lib.hid (show ¬ pI = 0 by have := PS.out.1; have := hpI.out; omega)
          have n1 : decide (pI < 1) = false := by have := PS.out.1; have := hpI.out; simp; omega
          have n0 : ((NO : Int) == 0) = false := by have := NOP.out; rw [beq_eq_false_iff_ne]; omega
          have LP : Hid (NL ≤ 96) := Lib.hid (by
            have h1 := hNL.out
            rcases Nat.eq_zero_or_pos NL with h | h
            · omega
            · have h2 := turns_len HV.out (List.length_pos_iff.1 (by rw [h1]; exact h))
              have h3 : f.S / periodF f ≤ f.S := Nat.div_le_self _ _
              have := NV.out
              omega)
          rcases Nat.eq_zero_or_pos NL with hz | hz
          · have n2 : decide ((0 : Int) < (NL : Int)) = false := by simp; omega
            have n2n : decide (0 < NL) = false := by simp; omega
            have NS2 : Hid (sameF (normalF f) (normalF g) = false) := Lib.hid (by rw [NS.out]; simp; omega)
            have HZ := Lib.hid hz
            clear hz
            go_upto_region 13 with fail
            refine yB ?_
            refine yW (.agg ((normalF f).cells b2 m2)) ?_ (qyrow (by kernel_rfl) 28 _ rfl x10 rfl _ 28 (0, 0) _ (fun W hW => by rw [hW]; exact Xx10.out) Tryz.underlying28 rfl (by exact (qJF (normalF f) b2 m2)))
            refine yW (.agg ((normalF f).cells b3 m3)) ?_ (qyrow (by kernel_rfl) 28 _ rfl x12 rfl _ 28 (0, 0) _ (fun W hW => by rw [hW]; exact Xx12.out) Tryz.underlying28 rfl (by exact (qJF (normalF f) b3 m3)))
            refine yR (fun K hK => ?_)
            go_simp
            refine (same_any (normalF f) (normalF f) b2 b3 m2 m3 _ R2.out R3.out).mono ?_
            rintro e U17 ⟨rfl, b⟩
            rw [show sameF (normalF f) (normalF f) = true from decide_eq_true rfl]
            replace BF := Lib.hid (BF.out.trans (b.mono BF.out.size))
            replace HR := Lib.hid (HR.out.below b)
            replace HG := Lib.hid (HG.out.below b)
            replace R1 := Lib.hid (R1.out.below b)
            replace R2 := Lib.hid (R2.out.below b)
            replace R3 := Lib.hid (R3.out.below b)
            replace R4 := Lib.hid (R4.out.below b)
            replace RL := Lib.hid (RL.out.below b)
            replace XF := Lib.hid (qblk b XF.out)
            replace XG := Lib.hid (qblk b XG.out)
            replace Xx8 := Lib.hid (qblk b Xx8.out)
            replace Xx10 := Lib.hid (qblk b Xx10.out)
            replace Xx12 := Lib.hid (qblk b Xx12.out)
            replace Xx14 := Lib.hid (qblk b Xx14.out)
            clear b
            try dsimp only
            refine yK hK ?_
            clear hK K
            refine yM (.bool false) ?_
            refine yM (.bool false) ?_
            refine yM (.slice b5 NO m5) ?_
            refine yW (.int .i64 (NO : Int)) ?_
            refine yW (.bool false) ?_
            refine yM (.bool false) ?_
            refine yM (.bool false) ?_
            refine yM (.slice b6 NL m6) ?_
            refine yW (.int .i64 (NL : Int)) ?_
            refine yW (.bool false) ?_ (.inl ⟨by kernel_rfl, by intro W hW; rw [hW]; have c := n2; have c2 := n2n; go_simp⟩)
            refine yW (.agg ((normalF f).cells b2 m2)) ?_ (qyrow (by kernel_rfl) 28 _ rfl x10 rfl _ 28 (0, 0) _ (fun W hW => by rw [hW]; exact Xx10.out) Tryz.underlying28 rfl (by exact (qJF (normalF f) b2 m2)))
            refine yW (.agg ((normalF g).cells b4 m4)) ?_ (qyrow (by kernel_rfl) 28 _ rfl x14 rfl _ 28 (0, 0) _ (fun W hW => by rw [hW]; exact Xx14.out) Tryz.underlying28 rfl (by exact (qJF (normalF g) b4 m4)))
            refine yR (fun K hK => ?_)
            go_simp
            refine (same_any (normalF f) (normalF g) b2 b4 m2 m4 _ R2.out R4.out).mono ?_
            rintro e U18 ⟨rfl, b⟩
            rw [NS2.out]
            replace BF := Lib.hid (BF.out.trans (b.mono BF.out.size))
            replace HR := Lib.hid (HR.out.below b)
            replace HG := Lib.hid (HG.out.below b)
            replace R1 := Lib.hid (R1.out.below b)
            replace R2 := Lib.hid (R2.out.below b)
            replace R3 := Lib.hid (R3.out.below b)
            replace R4 := Lib.hid (R4.out.below b)
            replace RL := Lib.hid (RL.out.below b)
            replace XF := Lib.hid (qblk b XF.out)
            replace XG := Lib.hid (qblk b XG.out)
            replace Xx8 := Lib.hid (qblk b Xx8.out)
            replace Xx10 := Lib.hid (qblk b Xx10.out)
            replace Xx12 := Lib.hid (qblk b Xx12.out)
            replace Xx14 := Lib.hid (qblk b Xx14.out)
            clear b
            try dsimp only
            refine yK hK ?_
            clear hK K
            refine yW (.bool false) ?_
            refine yM (.bool false) ?_
            refine yM (.bool false) ?_
            refine yM (.int .i64 pI) ?_
            refine yW (.bool false) ?_
            refine yM (.bool false) ?_
            refine yM (.bool false) ?_
            refine yW (.pointer (some ⟨p, 2, none⟩)) ?_
            refine yW (.int .i64 sI) ?_ (.inl ⟨by kernel_rfl, by intro W hW; rw [hW]; have c := qcell XF.out 2 (.int .i64 sI) (by rw [← hsI.out]; rfl); go_simp⟩)
            refine yM (.int .i64 pI) ?_
            refine yW (.int .i64 0) ?_ (.inl ⟨by kernel_rfl, by intro W hW; rw [hW]; go_simp; rw [if_neg NP0.out, RM.out]⟩)
            refine yW (.bool false) ?_
            refine yM (.bool false) ?_
            refine yE ?_
            go_upto_region 15 with fail
            refine yB ?_
            refine yM (.slice b6 NL m6) ?_
            refine yW (.int .i64 (NL : Int)) ?_
            refine yW (.bool true) ?_ (.inl ⟨by kernel_rfl, by intro W hW; rw [hW]; have c : ((NL : Int) == 0) = true := by { have hz := HZ.out; rw [beq_iff_eq]; omega }; (first | (go_simp; done) | (go_simp; have hz := HZ.out; omega) | (have hz := HZ.out; simp [hz]))⟩)
            refine yE ?_
            go_wp2_with fail
            go_ret
            exact ⟨rfl, BF.out⟩
          · have n2 : decide ((0 : Int) < (NL : Int)) = true := by simp; omega
            have n2n : decide (0 < NL) = true := by simp; omega
            have NS2 : Hid (sameF (normalF f) (normalF g) = true) := Lib.hid (by rw [NS.out]; simp; omega)
            have HZ := Lib.hid hz
            clear hz
            go_upto_region 13 with fail
            refine yB ?_
            refine yW (.agg ((normalF f).cells b2 m2)) ?_ (qyrow (by kernel_rfl) 28 _ rfl x10 rfl _ 28 (0, 0) _ (fun W hW => by rw [hW]; exact Xx10.out) Tryz.underlying28 rfl (by exact (qJF (normalF f) b2 m2)))
            refine yW (.agg ((normalF f).cells b3 m3)) ?_ (qyrow (by kernel_rfl) 28 _ rfl x12 rfl _ 28 (0, 0) _ (fun W hW => by rw [hW]; exact Xx12.out) Tryz.underlying28 rfl (by exact (qJF (normalF f) b3 m3)))
            refine yR (fun K hK => ?_)
            go_simp
            refine (same_any (normalF f) (normalF f) b2 b3 m2 m3 _ R2.out R3.out).mono ?_
            rintro e U17 ⟨rfl, b⟩
            rw [show sameF (normalF f) (normalF f) = true from decide_eq_true rfl]
            replace BF := Lib.hid (BF.out.trans (b.mono BF.out.size))
            replace HR := Lib.hid (HR.out.below b)
            replace HG := Lib.hid (HG.out.below b)
            replace R1 := Lib.hid (R1.out.below b)
            replace R2 := Lib.hid (R2.out.below b)
            replace R3 := Lib.hid (R3.out.below b)
            replace R4 := Lib.hid (R4.out.below b)
            replace RL := Lib.hid (RL.out.below b)
            replace XF := Lib.hid (qblk b XF.out)
            replace XG := Lib.hid (qblk b XG.out)
            replace Xx8 := Lib.hid (qblk b Xx8.out)
            replace Xx10 := Lib.hid (qblk b Xx10.out)
            replace Xx12 := Lib.hid (qblk b Xx12.out)
            replace Xx14 := Lib.hid (qblk b Xx14.out)
            clear b
            try dsimp only
            refine yK hK ?_
            clear hK K
            refine yM (.bool false) ?_
            refine yM (.bool false) ?_
            refine yM (.slice b5 NO m5) ?_
            refine yW (.int .i64 (NO : Int)) ?_
            refine yW (.bool false) ?_
            refine yM (.bool false) ?_
            refine yM (.bool false) ?_
            refine yM (.slice b6 NL m6) ?_
            refine yW (.int .i64 (NL : Int)) ?_
            refine yW (.bool true) ?_ (.inl ⟨by kernel_rfl, by intro W hW; rw [hW]; have c := n2; have c2 := n2n; go_simp⟩)
            refine yW (.agg ((normalF f).cells b2 m2)) ?_ (qyrow (by kernel_rfl) 28 _ rfl x10 rfl _ 28 (0, 0) _ (fun W hW => by rw [hW]; exact Xx10.out) Tryz.underlying28 rfl (by exact (qJF (normalF f) b2 m2)))
            refine yW (.agg ((normalF g).cells b4 m4)) ?_ (qyrow (by kernel_rfl) 28 _ rfl x14 rfl _ 28 (0, 0) _ (fun W hW => by rw [hW]; exact Xx14.out) Tryz.underlying28 rfl (by exact (qJF (normalF g) b4 m4)))
            refine yR (fun K hK => ?_)
            go_simp
            refine (same_any (normalF f) (normalF g) b2 b4 m2 m4 _ R2.out R4.out).mono ?_
            rintro e U18 ⟨rfl, b⟩
            rw [NS2.out]
            replace BF := Lib.hid (BF.out.trans (b.mono BF.out.size))
            replace HR := Lib.hid (HR.out.below b)
            replace HG := Lib.hid (HG.out.below b)
            replace R1 := Lib.hid (R1.out.below b)
            replace R2 := Lib.hid (R2.out.below b)
            replace R3 := Lib.hid (R3.out.below b)
            replace R4 := Lib.hid (R4.out.below b)
            replace RL := Lib.hid (RL.out.below b)
            replace XF := Lib.hid (qblk b XF.out)
            replace XG := Lib.hid (qblk b XG.out)
            replace Xx8 := Lib.hid (qblk b Xx8.out)
            replace Xx10 := Lib.hid (qblk b Xx10.out)
            replace Xx12 := Lib.hid (qblk b Xx12.out)
            replace Xx14 := Lib.hid (qblk b Xx14.out)
            clear b
            try dsimp only
            refine yK hK ?_
            clear hK K
            refine yW (.bool false) ?_
            refine yM (.bool false) ?_
            refine yM (.bool false) ?_
            refine yM (.int .i64 pI) ?_
            refine yW (.bool false) ?_
            refine yM (.bool false) ?_
            refine yM (.bool false) ?_
            refine yW (.pointer (some ⟨p, 2, none⟩)) ?_
            refine yW (.int .i64 sI) ?_ (.inl ⟨by kernel_rfl, by intro W hW; rw [hW]; have c := qcell XF.out 2 (.int .i64 sI) (by rw [← hsI.out]; rfl); go_simp⟩)
            refine yM (.int .i64 pI) ?_
            refine yW (.int .i64 0) ?_ (.inl ⟨by kernel_rfl, by intro W hW; rw [hW]; go_simp; rw [if_neg NP0.out, RM.out]⟩)
            refine yW (.bool false) ?_
            refine yM (.bool false) ?_
            refine yE ?_
            go_upto_region 15 with fail
            refine yB ?_
            refine yM (.slice b6 NL m6) ?_
            refine yW (.int .i64 (NL : Int)) ?_
            refine yW (.bool false) ?_ (.inl ⟨by kernel_rfl, by intro W hW; rw [hW]; have c : ((NL : Int) == 0) = false := by { have hz := HZ.out; rw [beq_eq_false_iff_ne]; omega }; (first | (go_simp; done) | (go_simp; have hz := HZ.out; omega) | (have hz := HZ.out; simp [hz]))⟩)
            refine yE ?_
            clear n0 n1 n2 n2n NS2
            go_wp2_with fail
            go_loopw [22] (fun v wr => ∃ k : Nat, v = .int .i64 (k : Int) ∧ k ≤ NL ∧ Hid (Below w.heap.size w wr) ∧ Hid (RdI wr a f.kinds.length n f.kinds) ∧ Hid (RdI wr ga g.kinds.length gn g.kinds) ∧ Hid (RdI wr b6 NL m6 (turnsI f g)) ∧ Hid (wr.heap[p]? = some (.cells (f.cells a n) 28 (0, 0))) ∧ Hid (wr.heap[q]? = some (.cells (g.cells ga gn) 28 (0, 0)))) (fun v _ => NL - (intOf v).toNat)
            case atStart => exact ⟨0, rfl, Nat.zero_le _, BF, HR, HG, RL, XF, XG⟩
            case round =>
              clear BF HR HG RL XF XG
              obtain ⟨k, rfl, hk, BF, HR, HG, RL, XF, XG⟩ := hrel
              by_cases hkn : k < NL
              · have t0 : decide ((k : Int) < (NL : Int)) = true := by simp; omega
                have HK64 : Hid ((k : Int) + 1 ≤ 9223372036854775807) := Lib.hid (by have := LP.out; omega)
                obtain ⟨bk, hbk, hbi⟩ := turnsI_at (f := f) (g := g) (k := k) (by rw [hNL.out]; exact hkn)
                have HBI := Lib.hid hbi
                have TB : Hid (turnF f bk = g) := Lib.hid ((turns_mem HV.out).1 (List.mem_of_getElem? hbk)).2
                have BB : Hid (bk < 96) := Lib.hid (by have h1 := ((turns_mem HV.out).1 (List.mem_of_getElem? hbk)).1; have h2 := NV.out; omega)
                have NX : Hid (∀ c : Nat, 1 ≤ k → (turnsF f g)[k - 1]? = some c → (bk : Int) = (c : Int) + pI) := Lib.hid (fun c h1 h2 => by
                  have h3 := turns_next HV.out h2 (show (turnsF f g)[k - 1 + 1]? = some bk by rw [show k - 1 + 1 = k by omega]; exact hbk)
                  rw [hpe.out] at h3
                  rw [← hpI.out, h3]
                  push_cast
                  rfl)
                obtain ⟨gb, ob, ha, _⟩ := RL.out.get hbi
                subst ha
                have hkl : k < NL := hkn
                clear hbk hbi
                go_upto_region 20 with fail
                clear t0
                apply cut_w4 (P := fun (V : World) (x : Nat) (b7 : Option Addr) (m7 : Nat) => Hid (Below w.heap.size w V ∧ RdI V a f.kinds.length n f.kinds ∧ RdI V ga g.kinds.length gn g.kinds ∧ RdI V (some ⟨gb, ob, none⟩) NL m6 (turnsI f g) ∧ V.heap[p]? = some (.cells (f.cells a n) 28 (0, 0)) ∧ V.heap[q]? = some (.cells (g.cells ga gn) 28 (0, 0)) ∧ V.heap[x]? = some (.cells (g.cells b7 m7) 28 (0, 0)) ∧ RdI V b7 g.kinds.length m7 g.kinds))
                · intro REST
                  have hd : Below wr.heap.size wr wr.drew := (Below.refl _ _).drew
                  replace BF := Lib.hid (BF.out.trans (hd.mono BF.out.size))
                  replace HR := Lib.hid (HR.out.below hd)
                  replace HG := Lib.hid (HG.out.below hd)
                  replace RL := Lib.hid (RL.out.below hd)
                  replace XF := Lib.hid (qblk hd XF.out)
                  replace XG := Lib.hid (qblk hd XG.out)
                  clear hd
                  refine zD (fun W => Below wr.drew.heap.size wr.drew W) (Below.refl _ _) (fun hHeld => ?_)
                  have BV := Lib.hid hHeld
                  generalize wr.drew = V0 at *
                  refine zT 0 rfl (.agg (f.cells a n)) (qyrow (by kernel_rfl) 28 _ rfl p rfl _ 28 (0, 0) _ (fun W hW => qblk hW XF.out) Tryz.underlying28 rfl (by exact (qJF f a n))) ?_
                  refine zW 1 rfl (.slice (some ⟨gb, ob, none⟩) NL m6) ?_
                  refine zW 2 rfl (.int .i64 (k : Int)) ?_
                  refine zW 3 rfl (.pointer (some ⟨gb, ob + k, none⟩)) ?_
                  refine zS 4 rfl (.int .i64 (bk : Int)) (fun W hW => by have c := rdn_at (RL.out.below hW) HBI.out; go_simp) ?_
                  refine zM [5, 9] rfl (fun K hK => ?_) (zn (i := 9) (fun K hK => ?_))
                  · go_simp
                    refine (turnP_any f a n bk _ (HR.out.below BV.out)).mono ?_
                    rintro e V1 ⟨⟨b7, m7, rfl, own⟩, b⟩
                    rw [show turnP f (bk : Int) = (g, 0) by unfold turnP; rw [if_pos HV.out, TB.out]] at own ⊢
                    dsimp only at own
                    have R7 := Lib.hid own
                    clear own
                    have BV2 := Lib.hid (BV.out.trans (b.mono BV.out.size))
                    clear b BV
                    have BV := BV2
                    clear BV2
                    (try dsimp only)
                    refine zK hK BV.out (fun hHeld => ?_)
                    clear hK K
                    refine zW 6 rfl (.tuple #[.agg (g.cells b7 m7), .int .i64 0]) ?_
                    refine zW 7 rfl (.agg (g.cells b7 m7)) ?_
                    refine zW 8 rfl (.int .i64 0) ?_
                    refine zR 9 rfl (fun K hK => ?_)
                    rw [if_pos (by kernel_rfl)]
                    refine qbuild (w' := V1.alloc (.cells #[.int .i64 0, .int .i64 0, .int .i64 0, .slice none 0 0] 28)) (.pointer (some ⟨V1.heap.size, 0, none⟩)) (by kernel_rfl) ?_
                    have AX := Lib.hid (al1 V1 (.cells #[.int .i64 0, .int .i64 0, .int .i64 0, .slice none 0 0] 28)).2
                    have b := zB V1 (.cells #[.int .i64 0, .int .i64 0, .int .i64 0, .slice none 0 0] 28)
                    obtain ⟨x, hx⟩ : ∃ x, Hid (V1.heap.size = x) := ⟨_, Lib.hid rfl⟩
                    have GX : Hid (V0.heap.size ≤ x) := Lib.hid (by have h1 := hx.out; have h2 := BV.out.size; omega)
                    have BV2 := Lib.hid (BV.out.trans (b.mono BV.out.size))
                    replace R7 := Lib.hid (R7.out.below b)
                    clear BV
                    have BV := BV2
                    clear BV2
                    rw [hx.out] at AX ⊢
                    clear b
                    generalize hV9 : V1.alloc (.cells #[.int .i64 0, .int .i64 0, .int .i64 0, .slice none 0 0] 28) = V2 at *
                    clear hV9
                    refine zK hK BV.out (fun hHeld => ?_)
                    clear hK K
                    refine zR 10 rfl (fun K hK => ?_)
                    rw [if_pos (by kernel_rfl)]
                    refine qstore 28 _ _ rfl x #[.int .i64 0, .int .i64 0, .int .i64 0, .slice none 0 0] (g.cells b7 m7) 28 rfl rfl AX.out (by exact qJF g b7 m7) rfl (qone g b7 m7) ?_
                    intro Xx h8 hg8 hs8
                    have BX : Hid (Below V0.heap.size V0 Xx) := Lib.hid (BV.out.grown hg8 BV.out.size (fun kk e => by cases e; exact GX.out))
                    have R8 : Hid (RdI Xx b7 g.kinds.length m7 g.kinds) := Lib.hid (FOwn.rd (FOwn.kept R7.out hg8 AX.out))
                    refine zK hK BX.out (fun hHeld => ?_)
                    clear hK K
                    refine zW 11 rfl (.int .i64 0) ?_
                    refine zE ?_
                    have bz := BX.out
                    exact REST Xx x b7 m7 (Lib.hid ⟨BF.out.trans (bz.mono BF.out.size), HR.out.below bz, HG.out.below bz, RL.out.below bz, qblk bz XF.out, qblk bz XG.out, h8, R8.out⟩)
                  · rw [if_pos (by kernel_rfl)]
                    refine qbuild (w' := V0.alloc (.cells #[.int .i64 0, .int .i64 0, .int .i64 0, .slice none 0 0] 28)) (.pointer (some ⟨V0.heap.size, 0, none⟩)) (by kernel_rfl) ?_
                    have AX := Lib.hid (al1 V0 (.cells #[.int .i64 0, .int .i64 0, .int .i64 0, .slice none 0 0] 28)).2
                    have b := zB V0 (.cells #[.int .i64 0, .int .i64 0, .int .i64 0, .slice none 0 0] 28)
                    obtain ⟨x, hx⟩ : ∃ x, Hid (V0.heap.size = x) := ⟨_, Lib.hid rfl⟩
                    have GX : Hid (V0.heap.size ≤ x) := Lib.hid (by have h1 := hx.out; have h2 := BV.out.size; omega)
                    have BV2 := Lib.hid (BV.out.trans (b.mono BV.out.size))
                    clear BV
                    have BV := BV2
                    clear BV2
                    rw [hx.out] at AX ⊢
                    clear b
                    generalize hV9 : V0.alloc (.cells #[.int .i64 0, .int .i64 0, .int .i64 0, .slice none 0 0] 28) = V1 at *
                    clear hV9
                    refine zK hK BV.out (fun hHeld => ?_)
                    clear hK K
                    refine zR 5 rfl (fun K hK => ?_)
                    go_simp
                    refine (turnP_any f a n bk _ (HR.out.below BV.out)).mono ?_
                    rintro e V2 ⟨⟨b7, m7, rfl, own⟩, b⟩
                    rw [show turnP f (bk : Int) = (g, 0) by unfold turnP; rw [if_pos HV.out, TB.out]] at own ⊢
                    dsimp only at own
                    have R7 := Lib.hid own
                    clear own
                    have BV2 := Lib.hid (BV.out.trans (b.mono BV.out.size))
                    replace AX := Lib.hid (qblk b AX.out)
                    clear b BV
                    have BV := BV2
                    clear BV2
                    (try dsimp only)
                    refine zK hK BV.out (fun hHeld => ?_)
                    clear hK K
                    refine zW 6 rfl (.tuple #[.agg (g.cells b7 m7), .int .i64 0]) ?_
                    refine zW 7 rfl (.agg (g.cells b7 m7)) ?_
                    refine zW 8 rfl (.int .i64 0) ?_
                    refine zR 10 rfl (fun K hK => ?_)
                    rw [if_pos (by kernel_rfl)]
                    refine qstore 28 _ _ rfl x #[.int .i64 0, .int .i64 0, .int .i64 0, .slice none 0 0] (g.cells b7 m7) 28 rfl rfl AX.out (by exact qJF g b7 m7) rfl (qone g b7 m7) ?_
                    intro Xx h8 hg8 hs8
                    have BX : Hid (Below V0.heap.size V0 Xx) := Lib.hid (BV.out.grown hg8 BV.out.size (fun kk e => by cases e; exact GX.out))
                    have R8 : Hid (RdI Xx b7 g.kinds.length m7 g.kinds) := Lib.hid (FOwn.rd (FOwn.kept R7.out hg8 AX.out))
                    refine zK hK BX.out (fun hHeld => ?_)
                    clear hK K
                    refine zW 11 rfl (.int .i64 0) ?_
                    refine zE ?_
                    have bz := BX.out
                    exact REST Xx x b7 m7 (Lib.hid ⟨BF.out.trans (bz.mono BF.out.size), HR.out.below bz, HG.out.below bz, RL.out.below bz, qblk bz XF.out, qblk bz XG.out, h8, R8.out⟩)
                · intro V x b7 m7 HX
                  clear BF HR HG RL XF XG
                  obtain ⟨BF, HR, HG, RL, XF, XG, XX, R7⟩ := HX.out
                  replace BF := Lib.hid BF
                  replace HR := Lib.hid HR
                  replace HG := Lib.hid HG
                  replace RL := Lib.hid RL
                  replace XF := Lib.hid XF
                  replace XG := Lib.hid XG
                  replace XX := Lib.hid XX
                  replace R7 := Lib.hid R7
                  clear HX
                  rcases Nat.eq_zero_or_pos k with k0 | k0
                  · have kz : decide ((0 : Int) < (k : Int)) = false := by simp; omega
                    go_upto_region 21 with fail
                    have hd : Below V.heap.size V V.drew := (Below.refl _ _).drew
                    replace BF := Lib.hid (BF.out.trans (hd.mono BF.out.size))
                    replace HR := Lib.hid (HR.out.below hd)
                    replace HG := Lib.hid (HG.out.below hd)
                    replace RL := Lib.hid (RL.out.below hd)
                    replace R7 := Lib.hid (R7.out.below hd)
                    replace XF := Lib.hid (qblk hd XF.out)
                    replace XG := Lib.hid (qblk hd XG.out)
                    replace XX := Lib.hid (qblk hd XX.out)
                    clear hd
                    refine zD (fun W => Below V.drew.heap.size V.drew W) (Below.refl _ _) (fun hHeld => ?_)
                    have BV := Lib.hid hHeld
                    generalize V.drew = Y1 at *
                    refine zW 0 rfl (.int .i64 0) ?_
                    refine zW 1 rfl (.bool false) ?_
                    refine zW 2 rfl (.bool false) ?_
                    refine zT 3 rfl (.agg (g.cells b7 m7)) (qyrow (by kernel_rfl) 28 _ rfl x rfl _ 28 (0, 0) _ (fun W hW => qblk hW XX.out) Tryz.underlying28 rfl (by exact (qJF g b7 m7))) ?_
                    refine zT 4 rfl (.agg (g.cells ga gn)) (qyrow (by kernel_rfl) 28 _ rfl q rfl _ 28 (0, 0) _ (fun W hW => qblk hW XG.out) Tryz.underlying28 rfl (by exact (qJF g ga gn))) ?_
                    refine zR 5 rfl (fun K hK => ?_)
                    go_simp
                    refine (same_any g g b7 ga m7 gn _ (R7.out.below BV.out) (HG.out.below BV.out)).mono ?_
                    rintro e Z1 ⟨rfl, b⟩
                    rw [show sameF g g = true from decide_eq_true rfl]
                    have BV2 := Lib.hid (BV.out.trans (b.mono BV.out.size))
                    clear b BV
                    have BV := BV2
                    clear BV2
                    try dsimp only
                    refine zK hK BV.out (fun hHeld => ?_)
                    clear hK K
                    refine zW 6 rfl (.bool false) ?_
                    refine zW 7 rfl (.bool false) ?_
                    refine zW 8 rfl (.bool false) ?_
                    refine zW 9 rfl (.int .i64 (k : Int)) ?_
                    refine zW 10 rfl (.bool false) (hy := .inl ⟨by kernel_rfl, by intro W _; have c := kz; go_simp⟩) ?_
                    refine zW 11 rfl (.bool false) ?_
                    refine zW 12 rfl undef (hy := .inr ⟨by kernel_rfl, rfl⟩) ?_
                    refine zW 13 rfl undef (hy := .inr ⟨by kernel_rfl, rfl⟩) ?_
                    refine zW 14 rfl undef (hy := .inr ⟨by kernel_rfl, rfl⟩) ?_
                    refine zW 15 rfl undef (hy := .inr ⟨by kernel_rfl, rfl⟩) ?_
                    refine zW 16 rfl undef (hy := .inr ⟨by kernel_rfl, rfl⟩) ?_
                    refine zW 17 rfl undef (hy := .inr ⟨by kernel_rfl, rfl⟩) ?_
                    refine zW 18 rfl undef (hy := .inr ⟨by kernel_rfl, rfl⟩) ?_
                    refine zW 19 rfl undef (hy := .inr ⟨by kernel_rfl, rfl⟩) ?_
                    refine zW 20 rfl undef (hy := .inr ⟨by kernel_rfl, rfl⟩) ?_
                    refine zW 21 rfl undef (hy := .inr ⟨by kernel_rfl, rfl⟩) ?_
                    refine zW 22 rfl undef (hy := .inr ⟨by kernel_rfl, rfl⟩) ?_
                    refine zW 23 rfl undef (hy := .inr ⟨by kernel_rfl, rfl⟩) ?_
                    refine zW 24 rfl (.bool false) ?_
                    refine zW 25 rfl (.bool false) ?_
                    refine zE ?_
                    have bz := BV.out
                    replace BF := Lib.hid (BF.out.trans (bz.mono BF.out.size))
                    replace HR := Lib.hid (HR.out.below bz)
                    replace HG := Lib.hid (HG.out.below bz)
                    replace RL := Lib.hid (RL.out.below bz)
                    replace R7 := Lib.hid (R7.out.below bz)
                    replace XF := Lib.hid (qblk bz XF.out)
                    replace XG := Lib.hid (qblk bz XG.out)
                    replace XX := Lib.hid (qblk bz XX.out)
                    clear bz
                    clear BV
                    go_upto_region 19 with fail
                    have hk64 := HK64.out
                    go_wp2_with fail
                    go_roundw
                    case rel => exact ⟨k + 1, by first | (simp; done) | (simp; omega), by omega, BF, HR, HG, RL, XF, XG⟩
                    case measure => simp [intOf]; omega
                  · have kz : decide ((0 : Int) < (k : Int)) = true := by simp; omega
                    obtain ⟨j, hj⟩ : ∃ j, Hid (k - 1 = j) := ⟨_, Lib.hid rfl⟩
                    obtain ⟨cj, hcj, hci⟩ := turnsI_at (f := f) (g := g) (k := j) (by rw [hNL.out]; have := hj.out; omega)
                    have HCJ := Lib.hid hci
                    have JB := Lib.hid (NX.out cj (by omega) (by rw [hj.out]; exact hcj))
                    have hjl : j < NL := by have := hj.out; omega
                    have WJ := Lib.hid (show wrap64 ((k : Int) - 1) = (j : Int) by have := hj.out; have := LP.out; unfold wrap64; omega)
                    have WB := Lib.hid (show wrap64 ((cj : Int) + pI) = (bk : Int) by have := JB.out; have := BB.out; unfold wrap64; omega)
                    clear hcj hci
                    go_upto_region 21 with fail
                    have hd : Below V.heap.size V V.drew := (Below.refl _ _).drew
                    replace BF := Lib.hid (BF.out.trans (hd.mono BF.out.size))
                    replace HR := Lib.hid (HR.out.below hd)
                    replace HG := Lib.hid (HG.out.below hd)
                    replace RL := Lib.hid (RL.out.below hd)
                    replace R7 := Lib.hid (R7.out.below hd)
                    replace XF := Lib.hid (qblk hd XF.out)
                    replace XG := Lib.hid (qblk hd XG.out)
                    replace XX := Lib.hid (qblk hd XX.out)
                    clear hd
                    refine zD (fun W => Below V.drew.heap.size V.drew W) (Below.refl _ _) (fun hHeld => ?_)
                    have BV := Lib.hid hHeld
                    generalize V.drew = Y1 at *
                    refine zW 0 rfl (.int .i64 0) ?_
                    refine zW 1 rfl (.bool false) ?_
                    refine zW 2 rfl (.bool false) ?_
                    refine zT 3 rfl (.agg (g.cells b7 m7)) (qyrow (by kernel_rfl) 28 _ rfl x rfl _ 28 (0, 0) _ (fun W hW => qblk hW XX.out) Tryz.underlying28 rfl (by exact (qJF g b7 m7))) ?_
                    refine zT 4 rfl (.agg (g.cells ga gn)) (qyrow (by kernel_rfl) 28 _ rfl q rfl _ 28 (0, 0) _ (fun W hW => qblk hW XG.out) Tryz.underlying28 rfl (by exact (qJF g ga gn))) ?_
                    refine zR 5 rfl (fun K hK => ?_)
                    go_simp
                    refine (same_any g g b7 ga m7 gn _ (R7.out.below BV.out) (HG.out.below BV.out)).mono ?_
                    rintro e Z1 ⟨rfl, b⟩
                    rw [show sameF g g = true from decide_eq_true rfl]
                    have BV2 := Lib.hid (BV.out.trans (b.mono BV.out.size))
                    clear b BV
                    have BV := BV2
                    clear BV2
                    try dsimp only
                    refine zK hK BV.out (fun hHeld => ?_)
                    clear hK K
                    refine zW 6 rfl (.bool false) ?_
                    refine zW 7 rfl (.bool false) ?_
                    refine zW 8 rfl (.bool false) ?_
                    refine zW 9 rfl (.int .i64 (k : Int)) ?_
                    refine zW 10 rfl (.bool true) (hy := .inl ⟨by kernel_rfl, by intro W _; have c := kz; go_simp⟩) ?_
                    refine zW 11 rfl (.bool true) ?_
                    refine zW 12 rfl (.slice (some ⟨gb, ob, none⟩) NL m6) ?_
                    refine zW 13 rfl (.int .i64 (k : Int)) ?_
                    refine zW 14 rfl (.pointer (some ⟨gb, ob + k, none⟩)) ?_
                    refine zS 15 rfl (.int .i64 (bk : Int)) (fun W hW => by have c := rdn_at (RL.out.below hW) HBI.out; go_simp) ?_
                    refine zW 16 rfl (.slice (some ⟨gb, ob, none⟩) NL m6) ?_
                    refine zW 17 rfl (.int .i64 (k : Int)) ?_
                    refine zW 18 rfl (.int .i64 (j : Int)) (hy := .inl ⟨by kernel_rfl, by intro W hW; go_simp; first | done | exact (IntWalk.i64_left _).trans WJ.out⟩) ?_
                    refine zW 19 rfl (.pointer (some ⟨gb, ob + j, none⟩)) ?_
                    refine zS 20 rfl (.int .i64 (cj : Int)) (fun W hW => by have c := rdn_at (RL.out.below hW) HCJ.out; go_simp) ?_
                    refine zW 21 rfl (.int .i64 pI) ?_
                    refine zW 22 rfl (.int .i64 (bk : Int)) (hy := .inl ⟨by kernel_rfl, by intro W hW; go_simp; first | done | exact (IntWalk.i64_left _).trans WB.out⟩) ?_
                    refine zW 23 rfl (.bool false) ?_
                    refine zW 24 rfl (.bool false) ?_
                    refine zW 25 rfl (.bool false) ?_
                    refine zE ?_
                    have bz := BV.out
                    replace BF := Lib.hid (BF.out.trans (bz.mono BF.out.size))
                    replace HR := Lib.hid (HR.out.below bz)
                    replace HG := Lib.hid (HG.out.below bz)
                    replace RL := Lib.hid (RL.out.below bz)
                    replace R7 := Lib.hid (R7.out.below bz)
                    replace XF := Lib.hid (qblk bz XF.out)
                    replace XG := Lib.hid (qblk bz XG.out)
                    replace XX := Lib.hid (qblk bz XX.out)
                    clear bz
                    clear BV
                    go_upto_region 19 with fail
                    have hk64 := HK64.out
                    go_wp2_with fail
                    go_roundw
                    case rel => exact ⟨k + 1, by first | (simp; done) | (simp; omega), by omega, BF, HR, HG, RL, XF, XG⟩
                    case measure => simp [intOf]; omega
              · have t0 : decide ((k : Int) < (NL : Int)) = false := by simp; omega
                have e : k = NL := by omega
                have QE := Lib.hid (show (NL : Int) = sI.tdiv pI by
                  have h2 := turns_len HV.out (List.length_pos_iff.1 (by rw [hNL.out]; exact HZ.out))
                  have h1 := NV.out.2.1
                  rw [hNL.out, hpe.out] at h2
                  rw [← hsI.out, ← hpI.out, h1, Int.tdiv_eq_ediv_of_nonneg (by omega), h2]
                  simp)
                have WQ := Lib.hid (show wrap64 (sI.tdiv pI) = (NL : Int) by rw [← QE.out]; have := LP.out; unfold wrap64; omega)
                go_upto_region 23 with fail
                refine yB ?_
                refine yM (.bool true) ?_
                refine yM (.bool true) ?_
                refine yM (.slice b6 NL m6) ?_
                refine yW (.int .i64 (NL : Int)) ?_
                refine yW (.pointer (some ⟨p, 2, none⟩)) ?_
                refine yW (.int .i64 sI) ?_ (.inl ⟨by kernel_rfl, by intro W hW; rw [hW]; have c := qcell XF.out 2 (.int .i64 sI) (by rw [← hsI.out]; rfl); go_simp⟩)
                refine yM (.int .i64 pI) ?_
                refine yW (.int .i64 (NL : Int)) ?_ (.inl ⟨by kernel_rfl, by intro W hW; rw [hW]; go_simp; rw [if_neg NP0.out, (IntWalk.i64_left _).trans WQ.out]⟩)
                refine yW (.bool true) ?_
                refine yM (.bool true) ?_
                refine yM (.bool true) ?_
                refine yE ?_
                go_wp2_with fail
                go_ret
                exact ⟨rfl, BF.out⟩
end Go.Proofs.YtmpkglokhchpiaaGreatDoor
