/- Parts of the proof, in this order: awake of law01; among; StonesBeside is true; joined of law01; RegionOf of stones. -/
import Derived.Test.YtimmadkbkimonaaGreatDoorKPsv5
set_option linter.unusedSimpArgs false
set_option linter.unusedVariables false
open List renaming getElem_toArray → lq0, getElem_cons_succ → lq1, getElem_cons_zero → lq2, setIfInBounds_toArray → lq3, set_cons_zero → lq4, set_cons_succ → lq5
namespace Go.Proofs.YtimmadkbkimonaaGreatDoor
set_option linter.unusedSimpArgs false
set_option linter.unusedVariables false
open Go.RowKit

theorem lit_ints (W : World) (l : List Int) (h : l.length ≤ 1000000) : RdI (W.alloc (.cells (l.map intV).toArray 3)) (some ⟨W.heap.size, 0, none⟩) l.length l.length l := by
  have := RdA.of_own (World.ownsRow_lit (base := W.heap.size) (e := 3) (size := 1) W (l.map intV).toArray l.length (Nat.le_refl _) (by unfold maxLen; omega) (by simp))
  exact this
theorem lit_fur (W : World) (x : FurV) : RdFu (W.alloc (.cells (furA x) 76)) (some ⟨W.heap.size, 0, none⟩) 1 1 [x] :=
  RdA.of_own (World.ownsRow_lit (base := W.heap.size) (e := 76) (size := 6) W (furA x) 1 (Nat.le_refl _) (by unfold maxLen; omega) rfl)
theorem lit_lists (W : World) (a b : Addr) (l m : List Int) (h1 : RdI W (some a) l.length l.length l) (h2 : RdI W (some b) m.length m.length m) : RdLL (W.alloc (.cells #[.slice (some a) l.length l.length, .slice (some b) m.length m.length] 26)) (some ⟨W.heap.size, 0, none⟩) 2 2 [l, m] := by
  have AL := al1 W (.cells #[.slice (some a) l.length l.length, .slice (some b) m.length m.length] 26)
  refine ⟨rfl, Nat.le_refl _, by unfold maxLen; omega, fun j x hj => ?_⟩
  match j, hj with
  | 0, hj => cases hj; exact ⟨W.heap.size, 0, some a, l.length, rfl, qcell AL.2 0 _ rfl, h1.below AL.1⟩
  | 1, hj => cases hj; exact ⟨W.heap.size, 0, some b, m.length, rfl, qcell AL.2 1 _ rfl, h2.below AL.1⟩
  | j + 2, hj => simp at hj
theorem sameInts2_any (a : Option Addr) (n c : Nat) (l : List Int) (a' : Option Addr) (n' c' : Nat) (l' : List Int) (w : World) (hr : RdI w a n c l) (hr' : RdI w a' n' c' l') :
    Calls Tryz.prog 34 #[.slice a n c, .slice a' n' c'] w fun e w' => e = .returned (.bool (decide (l = l'))) ∧ Below w.heap.size w w' := by
  refine (sameInts_any a n c l a' n' c' l' w hr hr').mono ?_
  rintro e V ⟨rfl, q, rfl⟩
  exact ⟨rfl, rfl, rfl, rfl, Nat.le_refl _, fun _ _ => rfl⟩
theorem smp_cut : Lib.cut [102, 97, 99, 101, 32, 49, 32, 50, 32, 48, 52, 10] [10] = ([102, 97, 99, 101, 32, 49, 32, 50, 32, 48, 52], [], true) := by decide +kernel
theorem smp_hdr : (hdrF ⟨#[102, 97, 99, 101, 32, 49, 32, 50, 32, 48, 52]⟩).2 = false := by decide +kernel
set_option maxHeartbeats 4000000 in
set_option maxRecDepth 100000 in
theorem awake_any (w : World) (he : EnvW w) : Calls Tryz.prog 11 #[] w fun e w' => e = .returned (.bool true) ∧ Below w.heap.size w w' := by
  have EV := Lib.hid (fun W (hb : Below w.heap.size w W) => he.below hb)
  clear he
  have BF := Lib.hid (Below.refl w.heap.size w)
  go_enter Tryz.func11, Tryz.ntmps11
  go_upto_region 1 with fail
  refine yB ?_
  refine yR (fun K hK => ?_)
  go_simp
  refine (sample_any _).mono ?_
  rintro e U1 ⟨⟨aS1, nS1, rfl, own⟩, b⟩
  have S1 := Lib.hid own.rd
  clear own
  replace BF := Lib.hid (BF.out.trans (b.mono BF.out.size))
  clear b
  try dsimp only
  refine yK hK ?_
  clear hK K
  refine yR (fun K hK => ?_)
  go_simp
  refine (areaP_any sampleF aS1 nS1 0 _ S1.out).mono ?_
  rintro e U2 ⟨rfl, b⟩
  rw [smp_area]
  replace BF := Lib.hid (BF.out.trans (b.mono BF.out.size))
  replace S1 := Lib.hid (S1.out.below b)
  clear b
  try dsimp only
  refine yK hK ?_
  clear hK K
  refine yM (.tuple #[.int .i64 19, .int .i64 0]) ?_
  refine yM (.int .i64 19) ?_
  refine yM (.int .i64 0) ?_
  refine yM (.int .i64 19) ?_
  refine yM (.int .i64 0) ?_
  refine yE ?_
  clear S1
  go_upto_region 2 with fail
  refine yB ?_
  refine yR (fun K hK => ?_)
  go_simp
  refine (sample_any _).mono ?_
  rintro e U3 ⟨⟨aS2, nS2, rfl, own⟩, b⟩
  have S2 := Lib.hid own.rd
  clear own
  replace BF := Lib.hid (BF.out.trans (b.mono BF.out.size))
  clear b
  try dsimp only
  refine yK hK ?_
  clear hK K
  refine yR (fun K hK => ?_)
  go_simp
  refine (regionsP_any sampleF aS2 nS2 _ S2.out).mono ?_
  rintro e U4 ⟨⟨oa, oc, rfl, ll⟩, b⟩
  have LL := Lib.hid ll
  clear ll
  rw [show (regionsP sampleF).2 = 0 by rw [smp_regions]]
  replace BF := Lib.hid (BF.out.trans (b.mono BF.out.size))
  replace S2 := Lib.hid (S2.out.below b)
  clear b
  obtain ⟨rl, hrl⟩ : ∃ x, Hid ((regionsP sampleF).1.length = x) := ⟨_, Lib.hid rfl⟩
  rw [hrl.out] at LL ⊢
  try dsimp only
  refine yK hK ?_
  clear hK K
  refine yM (.tuple #[.slice oa rl oc, .int .i64 0]) ?_
  refine yM (.slice oa rl oc) ?_
  refine yM (.int .i64 0) ?_
  refine yM (.slice oa rl oc) ?_
  refine yM (.int .i64 0) ?_
  refine yE ?_
  clear S2
  go_upto_region 3 with fail
  refine yB ?_
  refine yR (fun K hK => ?_)
  go_simp
  refine (sample_any _).mono ?_
  rintro e U5 ⟨⟨aS3, nS3, rfl, own⟩, b⟩
  have S3 := Lib.hid own.rd
  clear own
  replace BF := Lib.hid (BF.out.trans (b.mono BF.out.size))
  replace LL := Lib.hid (LL.out.below b)
  clear b
  try dsimp only
  refine yK hK ?_
  clear hK K
  refine yR (fun K hK => ?_)
  go_simp
  refine (turnP_any sampleF aS3 nS3 1 _ S3.out).mono ?_
  rintro e U6 ⟨⟨bA, mA, rfl, own⟩, b⟩
  have RA := Lib.hid own.rd
  clear own
  rw [show (turnP sampleF 1).2 = 0 by rw [smp_turn]]
  replace BF := Lib.hid (BF.out.trans (b.mono BF.out.size))
  replace LL := Lib.hid (LL.out.below b)
  replace S3 := Lib.hid (S3.out.below b)
  clear b
  obtain ⟨TA, hTA⟩ : ∃ T, Hid ((turnP sampleF 1).1 = T) := ⟨_, Lib.hid rfl⟩
  rw [hTA.out] at RA ⊢
  try dsimp only
  refine yK hK ?_
  clear hK K
  refine yM (.tuple #[.agg (TA.cells bA mA), .int .i64 0]) ?_
  refine yM (.agg (TA.cells bA mA)) ?_
  refine yM (.int .i64 0) ?_
  refine yR (fun K hK => ?_)
  refine qbuild (w' := U6.alloc (.cells #[.int .i64 0, .int .i64 0, .int .i64 0, .slice none 0 0] 28)) (.pointer (some ⟨U6.heap.size, 0, none⟩)) (by kernel_rfl) ?_
  obtain ⟨x5, hx5⟩ : ∃ x, Hid (U6.heap.size = x) := ⟨_, Lib.hid rfl⟩
  have AL := Lib.hid (al1 U6 (.cells #[.int .i64 0, .int .i64 0, .int .i64 0, .slice none 0 0] 28))
  rw [hx5.out] at AL ⊢
  refine yK hK ?_
  clear hK K
  refine yR (fun K hK => ?_)
  refine qstore 28 _ _ rfl x5 #[.int .i64 0, .int .i64 0, .int .i64 0, .slice none 0 0] (TA.cells bA mA) 28 rfl rfl AL.out.2 (by exact qJF TA bA mA) rfl (qone TA bA mA) ?_
  intro U7 h8 hg8 hs8
  have b : Below U6.heap.size U6 U7 := qstep (by have h1 := AL.out.1; rw [← hx5.out] at h1; exact h1) hg8 (Nat.le_of_eq hx5.out)
  replace BF := Lib.hid (BF.out.trans (b.mono BF.out.size))
  replace LL := Lib.hid (LL.out.below b)
  replace S3 := Lib.hid (S3.out.below b)
  replace RA := Lib.hid (RA.out.below b)
  clear b
  have XA := Lib.hid h8
  clear h8 hg8 hs8 AL
  refine yK hK ?_
  clear hK K
  refine yM (.int .i64 0) ?_
  refine yE ?_
  clear S3
  go_upto_region 4 with fail
  refine yB ?_
  refine yR (fun K hK => ?_)
  go_simp
  refine (sample_any _).mono ?_
  rintro e U8 ⟨⟨aS4, nS4, rfl, own⟩, b⟩
  have S4 := Lib.hid own.rd
  clear own
  replace BF := Lib.hid (BF.out.trans (b.mono BF.out.size))
  replace LL := Lib.hid (LL.out.below b)
  replace RA := Lib.hid (RA.out.below b)
  replace XA := Lib.hid (qblk b XA.out)
  clear b
  try dsimp only
  refine yK hK ?_
  clear hK K
  refine yR (fun K hK => ?_)
  go_simp
  refine (normalP_any sampleF aS4 nS4 _ S4.out).mono ?_
  rintro e U9 ⟨⟨bB, mB, rfl, own⟩, b⟩
  have RB := Lib.hid own.rd
  clear own
  rw [show (normalP sampleF).2 = 0 by rw [smp_normal]]
  replace BF := Lib.hid (BF.out.trans (b.mono BF.out.size))
  replace LL := Lib.hid (LL.out.below b)
  replace RA := Lib.hid (RA.out.below b)
  replace S4 := Lib.hid (S4.out.below b)
  replace XA := Lib.hid (qblk b XA.out)
  clear b
  obtain ⟨TB, hTB⟩ : ∃ T, Hid ((normalP sampleF).1 = T) := ⟨_, Lib.hid rfl⟩
  rw [hTB.out] at RB ⊢
  try dsimp only
  refine yK hK ?_
  clear hK K
  refine yM (.tuple #[.agg (TB.cells bB mB), .int .i64 0]) ?_
  refine yM (.agg (TB.cells bB mB)) ?_
  refine yM (.int .i64 0) ?_
  refine yR (fun K hK => ?_)
  refine qbuild (w' := U9.alloc (.cells #[.int .i64 0, .int .i64 0, .int .i64 0, .slice none 0 0] 28)) (.pointer (some ⟨U9.heap.size, 0, none⟩)) (by kernel_rfl) ?_
  obtain ⟨x7, hx7⟩ : ∃ x, Hid (U9.heap.size = x) := ⟨_, Lib.hid rfl⟩
  have AL := Lib.hid (al1 U9 (.cells #[.int .i64 0, .int .i64 0, .int .i64 0, .slice none 0 0] 28))
  rw [hx7.out] at AL ⊢
  refine yK hK ?_
  clear hK K
  refine yR (fun K hK => ?_)
  refine qstore 28 _ _ rfl x7 #[.int .i64 0, .int .i64 0, .int .i64 0, .slice none 0 0] (TB.cells bB mB) 28 rfl rfl AL.out.2 (by exact qJF TB bB mB) rfl (qone TB bB mB) ?_
  intro U10 h8 hg8 hs8
  have b : Below U9.heap.size U9 U10 := qstep (by have h1 := AL.out.1; rw [← hx7.out] at h1; exact h1) hg8 (Nat.le_of_eq hx7.out)
  replace BF := Lib.hid (BF.out.trans (b.mono BF.out.size))
  replace LL := Lib.hid (LL.out.below b)
  replace RA := Lib.hid (RA.out.below b)
  replace S4 := Lib.hid (S4.out.below b)
  replace RB := Lib.hid (RB.out.below b)
  replace XA := Lib.hid (qblk b XA.out)
  clear b
  have XB := Lib.hid h8
  clear h8 hg8 hs8 AL
  refine yK hK ?_
  clear hK K
  refine yM (.int .i64 0) ?_
  refine yE ?_
  clear S4
  go_upto_region 5 with fail
  refine yB ?_
  refine yW (.agg #[.int .i64 0, .int .i64 1, .int .i64 1, .int .i64 1, .int .i64 1, .int .i64 0]) ?_ (.inl ⟨by kernel_rfl, by intro W hW; kernel_rfl⟩)
  refine yR (fun K hK => ?_)
  refine qbuild (w' := U10.alloc (.cells #[.int .i64 0, .int .i64 1, .int .i64 1, .int .i64 1, .int .i64 1, .int .i64 0] 76)) (.slice (some ⟨U10.heap.size, 0, none⟩) 1 1) (by kernel_rfl) ?_
  have LI := lit_fur U10 ⟨0, 1, 1, 1, 1, 0⟩
  have b := zB U10 (.cells #[.int .i64 0, .int .i64 1, .int .i64 1, .int .i64 1, .int .i64 1, .int .i64 0] 76)
  have RF : Hid (RdFu (U10.alloc (.cells #[.int .i64 0, .int .i64 1, .int .i64 1, .int .i64 1, .int .i64 1, .int .i64 0] 76)) (some ⟨U10.heap.size, 0, none⟩) sampleP.furs.length 1 sampleP.furs) := Lib.hid LI
  clear LI
  replace BF := Lib.hid (BF.out.trans (b.mono BF.out.size))
  replace LL := Lib.hid (LL.out.below b)
  replace RA := Lib.hid (RA.out.below b)
  replace RB := Lib.hid (RB.out.below b)
  replace XA := Lib.hid (qblk b XA.out)
  replace XB := Lib.hid (qblk b XB.out)
  clear b
  obtain ⟨fb, hfb⟩ : ∃ x, Hid (U10.heap.size = x) := ⟨_, Lib.hid rfl⟩
  rw [hfb.out] at RF ⊢
  generalize U10.alloc (.cells #[.int .i64 0, .int .i64 1, .int .i64 1, .int .i64 1, .int .i64 1, .int .i64 0] 76) = U11 at *
  refine yK hK ?_
  clear hK K
  refine yW (.agg (patA sampleP (some ⟨fb, 0, none⟩) 1)) ?_ (.inl ⟨by kernel_rfl, by intro W hW; kernel_rfl⟩)
  refine yR (fun K hK => ?_)
  go_simp
  refine (dressP_any sampleP (some ⟨fb, 0, none⟩) 1 _ RF.out).mono ?_
  rintro e U12 ⟨⟨bD, mD, rfl, own⟩, b⟩
  have RD := Lib.hid own.rd
  clear own
  rw [show (dressP sampleP).2 = 0 by rw [smp_dress]]
  replace BF := Lib.hid (BF.out.trans (b.mono BF.out.size))
  replace LL := Lib.hid (LL.out.below b)
  replace RA := Lib.hid (RA.out.below b)
  replace RB := Lib.hid (RB.out.below b)
  replace RF := Lib.hid (RF.out.below b)
  replace XA := Lib.hid (qblk b XA.out)
  replace XB := Lib.hid (qblk b XB.out)
  clear b
  obtain ⟨TD, hTD⟩ : ∃ T, Hid ((dressP sampleP).1 = T) := ⟨_, Lib.hid rfl⟩
  rw [hTD.out] at RD ⊢
  try dsimp only
  refine yK hK ?_
  clear hK K
  refine yM (.tuple #[.agg (TD.cells bD mD), .int .i64 0]) ?_
  refine yM (.agg (TD.cells bD mD)) ?_
  refine yM (.int .i64 0) ?_
  refine yR (fun K hK => ?_)
  refine qbuild (w' := U12.alloc (.cells #[.int .i64 0, .int .i64 0, .int .i64 0, .slice none 0 0] 28)) (.pointer (some ⟨U12.heap.size, 0, none⟩)) (by kernel_rfl) ?_
  obtain ⟨x9, hx9⟩ : ∃ x, Hid (U12.heap.size = x) := ⟨_, Lib.hid rfl⟩
  have AL := Lib.hid (al1 U12 (.cells #[.int .i64 0, .int .i64 0, .int .i64 0, .slice none 0 0] 28))
  rw [hx9.out] at AL ⊢
  refine yK hK ?_
  clear hK K
  refine yR (fun K hK => ?_)
  refine qstore 28 _ _ rfl x9 #[.int .i64 0, .int .i64 0, .int .i64 0, .slice none 0 0] (TD.cells bD mD) 28 rfl rfl AL.out.2 (by exact qJF TD bD mD) rfl (qone TD bD mD) ?_
  intro U13 h8 hg8 hs8
  have b : Below U12.heap.size U12 U13 := qstep (by have h1 := AL.out.1; rw [← hx9.out] at h1; exact h1) hg8 (Nat.le_of_eq hx9.out)
  replace BF := Lib.hid (BF.out.trans (b.mono BF.out.size))
  replace LL := Lib.hid (LL.out.below b)
  replace RA := Lib.hid (RA.out.below b)
  replace RB := Lib.hid (RB.out.below b)
  replace RF := Lib.hid (RF.out.below b)
  replace RD := Lib.hid (RD.out.below b)
  replace XA := Lib.hid (qblk b XA.out)
  replace XB := Lib.hid (qblk b XB.out)
  clear b
  have XD := Lib.hid h8
  clear h8 hg8 hs8 AL
  refine yK hK ?_
  clear hK K
  refine yM (.int .i64 0) ?_
  refine yE ?_
  clear RF
  go_upto_region 6 with fail
  refine yB ?_
  refine yR (fun K hK => ?_)
  go_simp
  refine (parseX_any ⟨#[102, 97, 99, 101, 32, 49, 32, 50, 32, 48, 52, 10]⟩ ⟨#[102, 97, 99, 101, 32, 49, 32, 50, 32, 48, 52]⟩ ⟨#[]⟩ true _ (by decide) (EV.out _ BF.out) (by decide) smp_cut ⟨by decide, by decide, smp_hdr⟩).mono ?_
  rintro e U14 ⟨rfl, b⟩
  replace BF := Lib.hid (BF.out.trans (b.mono BF.out.size))
  replace LL := Lib.hid (LL.out.below b)
  replace RA := Lib.hid (RA.out.below b)
  replace RB := Lib.hid (RB.out.below b)
  replace RD := Lib.hid (RD.out.below b)
  replace XA := Lib.hid (qblk b XA.out)
  replace XB := Lib.hid (qblk b XB.out)
  replace XD := Lib.hid (qblk b XD.out)
  clear b
  try dsimp only
  refine yK hK ?_
  clear hK K
  refine yM (.tuple #[.agg (zeroF.cells none 0), .int .i64 11, .int .i64 1]) ?_
  refine yM (.agg (zeroF.cells none 0)) ?_
  refine yM (.int .i64 11) ?_
  refine yM (.int .i64 1) ?_
  refine yR (fun K hK => ?_)
  refine qbuild (w' := U14.alloc (.cells #[.int .i64 0, .int .i64 0, .int .i64 0, .slice none 0 0] 28)) (.pointer (some ⟨U14.heap.size, 0, none⟩)) (by kernel_rfl) ?_
  obtain ⟨x11, hx11⟩ : ∃ x, Hid (U14.heap.size = x) := ⟨_, Lib.hid rfl⟩
  have AL := Lib.hid (al1 U14 (.cells #[.int .i64 0, .int .i64 0, .int .i64 0, .slice none 0 0] 28))
  rw [hx11.out] at AL ⊢
  refine yK hK ?_
  clear hK K
  refine yR (fun K hK => ?_)
  refine qstore 28 _ _ rfl x11 #[.int .i64 0, .int .i64 0, .int .i64 0, .slice none 0 0] (zeroF.cells none 0) 28 rfl rfl AL.out.2 (by exact qJF zeroF none 0) rfl (qone zeroF none 0) ?_
  intro U15 h8 hg8 hs8
  have b : Below U14.heap.size U14 U15 := qstep (by have h1 := AL.out.1; rw [← hx11.out] at h1; exact h1) hg8 (Nat.le_of_eq hx11.out)
  replace BF := Lib.hid (BF.out.trans (b.mono BF.out.size))
  replace LL := Lib.hid (LL.out.below b)
  replace RA := Lib.hid (RA.out.below b)
  replace RB := Lib.hid (RB.out.below b)
  replace RD := Lib.hid (RD.out.below b)
  replace XA := Lib.hid (qblk b XA.out)
  replace XB := Lib.hid (qblk b XB.out)
  replace XD := Lib.hid (qblk b XD.out)
  clear b
  clear h8 hg8 hs8 AL
  refine yK hK ?_
  clear hK K
  refine yM (.int .i64 11) ?_
  refine yM (.int .i64 1) ?_
  refine yE ?_
  go_upto_region 7 with fail
  refine yB ?_
  refine yM (.int .i64 0) ?_
  refine yW (.bool false) ?_
  refine yM (.bool false) ?_
  refine yM (.int .i64 0) ?_
  refine yW (.bool false) ?_
  refine yM (.bool false) ?_
  refine yM (.bool false) ?_
  refine yM (.int .i64 0) ?_
  refine yW (.bool false) ?_
  refine yM (.bool false) ?_
  refine yM (.bool false) ?_
  refine yM (.int .i64 0) ?_
  refine yW (.bool false) ?_
  refine yM (.bool false) ?_
  refine yM (.bool false) ?_
  refine yM (.int .i64 0) ?_
  refine yW (.bool false) ?_
  refine yM (.bool false) ?_
  refine yM (.bool false) ?_
  refine yM (.int .i64 11) ?_
  refine yW (.bool false) ?_
  refine yM (.bool false) ?_
  refine yM (.bool false) ?_
  refine yM (.int .i64 1) ?_
  refine yW (.bool false) ?_
  refine yM (.bool false) ?_
  refine yM (.bool false) ?_
  refine yM (.int .i64 19) ?_
  refine yW (.bool false) ?_
  refine yM (.bool false) ?_
  refine yE ?_
  go_upto_region 9 with fail
  refine yB ?_
  refine yM (.slice oa rl oc) ?_
  refine yR (fun K hK => ?_)
  refine qbuild (w' := U15.alloc (.cells #[.int .i64 0, .int .i64 2, .int .i64 3, .int .i64 4, .int .i64 7] 3)) (.slice (some ⟨U15.heap.size, 0, none⟩) 5 5) (by kernel_rfl) ?_
  have LI := lit_ints U15 [0, 2, 3, 4, 7] (by decide)
  have b := zB U15 (.cells #[.int .i64 0, .int .i64 2, .int .i64 3, .int .i64 4, .int .i64 7] 3)
  have K1 : Hid (RdI (U15.alloc (.cells #[.int .i64 0, .int .i64 2, .int .i64 3, .int .i64 4, .int .i64 7] 3)) (some ⟨U15.heap.size, 0, none⟩) 5 5 [0, 2, 3, 4, 7]) := Lib.hid LI
  clear LI
  replace BF := Lib.hid (BF.out.trans (b.mono BF.out.size))
  replace LL := Lib.hid (LL.out.below b)
  replace RA := Lib.hid (RA.out.below b)
  replace RB := Lib.hid (RB.out.below b)
  replace RD := Lib.hid (RD.out.below b)
  replace XA := Lib.hid (qblk b XA.out)
  replace XB := Lib.hid (qblk b XB.out)
  replace XD := Lib.hid (qblk b XD.out)
  clear b
  obtain ⟨gK1, hgK1⟩ : ∃ x, Hid (U15.heap.size = x) := ⟨_, Lib.hid rfl⟩
  rw [hgK1.out] at K1 ⊢
  generalize U15.alloc (.cells #[.int .i64 0, .int .i64 2, .int .i64 3, .int .i64 4, .int .i64 7] 3) = U16 at *
  refine yK hK ?_
  clear hK K
  refine yR (fun K hK => ?_)
  refine qbuild (w' := U16.alloc (.cells #[.int .i64 1, .int .i64 5, .int .i64 6] 3)) (.slice (some ⟨U16.heap.size, 0, none⟩) 3 3) (by kernel_rfl) ?_
  have LI := lit_ints U16 [1, 5, 6] (by decide)
  have b := zB U16 (.cells #[.int .i64 1, .int .i64 5, .int .i64 6] 3)
  have K2 : Hid (RdI (U16.alloc (.cells #[.int .i64 1, .int .i64 5, .int .i64 6] 3)) (some ⟨U16.heap.size, 0, none⟩) 3 3 [1, 5, 6]) := Lib.hid LI
  clear LI
  replace BF := Lib.hid (BF.out.trans (b.mono BF.out.size))
  replace LL := Lib.hid (LL.out.below b)
  replace RA := Lib.hid (RA.out.below b)
  replace RB := Lib.hid (RB.out.below b)
  replace RD := Lib.hid (RD.out.below b)
  replace K1 := Lib.hid (K1.out.below b)
  replace XA := Lib.hid (qblk b XA.out)
  replace XB := Lib.hid (qblk b XB.out)
  replace XD := Lib.hid (qblk b XD.out)
  clear b
  obtain ⟨gK2, hgK2⟩ : ∃ x, Hid (U16.heap.size = x) := ⟨_, Lib.hid rfl⟩
  rw [hgK2.out] at K2 ⊢
  generalize U16.alloc (.cells #[.int .i64 1, .int .i64 5, .int .i64 6] 3) = U17 at *
  refine yK hK ?_
  clear hK K
  refine yR (fun K hK => ?_)
  refine qbuild (w' := U17.alloc (.cells #[.slice (some ⟨gK1, 0, none⟩) 5 5, .slice (some ⟨gK2, 0, none⟩) 3 3] 26)) (.slice (some ⟨U17.heap.size, 0, none⟩) 2 2) (by kernel_rfl) ?_
  have LI := lit_lists U17 ⟨gK1, 0, none⟩ ⟨gK2, 0, none⟩ [0, 2, 3, 4, 7] [1, 5, 6] K1.out K2.out
  have b := zB U17 (.cells #[.slice (some ⟨gK1, 0, none⟩) 5 5, .slice (some ⟨gK2, 0, none⟩) 3 3] 26)
  have KL : Hid (RdLL (U17.alloc (.cells #[.slice (some ⟨gK1, 0, none⟩) 5 5, .slice (some ⟨gK2, 0, none⟩) 3 3] 26)) (some ⟨U17.heap.size, 0, none⟩) 2 2 [[0, 2, 3, 4, 7], [1, 5, 6]]) := Lib.hid LI
  clear LI
  replace BF := Lib.hid (BF.out.trans (b.mono BF.out.size))
  replace LL := Lib.hid (LL.out.below b)
  replace RA := Lib.hid (RA.out.below b)
  replace RB := Lib.hid (RB.out.below b)
  replace RD := Lib.hid (RD.out.below b)
  replace K1 := Lib.hid (K1.out.below b)
  replace K2 := Lib.hid (K2.out.below b)
  replace XA := Lib.hid (qblk b XA.out)
  replace XB := Lib.hid (qblk b XB.out)
  replace XD := Lib.hid (qblk b XD.out)
  clear b
  obtain ⟨gL, hgL⟩ : ∃ x, Hid (U17.heap.size = x) := ⟨_, Lib.hid rfl⟩
  rw [hgL.out] at KL ⊢
  generalize U17.alloc (.cells #[.slice (some ⟨gK1, 0, none⟩) 5 5, .slice (some ⟨gK2, 0, none⟩) 3 3] 26) = U18 at *
  refine yK hK ?_
  clear hK K
  refine yR (fun K hK => ?_)
  go_simp
  refine (sameLists_any oa rl oc (regionsP sampleF).1 (some ⟨gL, 0, none⟩) 2 2 [[0, 2, 3, 4, 7], [1, 5, 6]] _ LL.out KL.out).mono ?_
  rintro e U19 ⟨rfl, b⟩
  rw [show decide ((regionsP sampleF).1 = [[0, 2, 3, 4, 7], [1, 5, 6]]) = true by rw [smp_regions]; rfl]
  replace BF := Lib.hid (BF.out.trans (b.mono BF.out.size))
  replace LL := Lib.hid (LL.out.below b)
  replace RA := Lib.hid (RA.out.below b)
  replace RB := Lib.hid (RB.out.below b)
  replace RD := Lib.hid (RD.out.below b)
  replace K1 := Lib.hid (K1.out.below b)
  replace K2 := Lib.hid (K2.out.below b)
  replace KL := Lib.hid (KL.out.below b)
  replace XA := Lib.hid (qblk b XA.out)
  replace XB := Lib.hid (qblk b XB.out)
  replace XD := Lib.hid (qblk b XD.out)
  clear b
  try dsimp only
  refine yK hK ?_
  clear hK K
  refine yM (.bool true) ?_
  refine yW (.pointer (some ⟨x5, 3, none⟩)) ?_
  have qx := qcell XA.out 3 (.slice bA TA.kinds.length mA) rfl
  refine yW (.slice bA TA.kinds.length mA) ?_
  refine yR (fun K hK => ?_)
  refine qbuild (w' := U19.alloc (.cells #[.int .i64 0, .int .i64 0, .int .i64 1, .int .i64 0, .int .i64 0, .int .i64 0, .int .i64 1, .int .i64 2] 3)) (.slice (some ⟨U19.heap.size, 0, none⟩) 8 8) (by kernel_rfl) ?_
  have LI := lit_ints U19 [0, 0, 1, 0, 0, 0, 1, 2] (by decide)
  have b := zB U19 (.cells #[.int .i64 0, .int .i64 0, .int .i64 1, .int .i64 0, .int .i64 0, .int .i64 0, .int .i64 1, .int .i64 2] 3)
  have K3 : Hid (RdI (U19.alloc (.cells #[.int .i64 0, .int .i64 0, .int .i64 1, .int .i64 0, .int .i64 0, .int .i64 0, .int .i64 1, .int .i64 2] 3)) (some ⟨U19.heap.size, 0, none⟩) 8 8 [0, 0, 1, 0, 0, 0, 1, 2]) := Lib.hid LI
  clear LI
  replace BF := Lib.hid (BF.out.trans (b.mono BF.out.size))
  replace LL := Lib.hid (LL.out.below b)
  replace RA := Lib.hid (RA.out.below b)
  replace RB := Lib.hid (RB.out.below b)
  replace RD := Lib.hid (RD.out.below b)
  replace K1 := Lib.hid (K1.out.below b)
  replace K2 := Lib.hid (K2.out.below b)
  replace KL := Lib.hid (KL.out.below b)
  replace XA := Lib.hid (qblk b XA.out)
  replace XB := Lib.hid (qblk b XB.out)
  replace XD := Lib.hid (qblk b XD.out)
  clear b
  obtain ⟨gK3, hgK3⟩ : ∃ x, Hid (U19.heap.size = x) := ⟨_, Lib.hid rfl⟩
  rw [hgK3.out] at K3 ⊢
  generalize U19.alloc (.cells #[.int .i64 0, .int .i64 0, .int .i64 1, .int .i64 0, .int .i64 0, .int .i64 0, .int .i64 1, .int .i64 2] 3) = U20 at *
  refine yK hK ?_
  clear hK K
  refine yR (fun K hK => ?_)
  go_simp
  refine (sameInts2_any bA TA.kinds.length mA TA.kinds (some ⟨gK3, 0, none⟩) 8 8 [0, 0, 1, 0, 0, 0, 1, 2] _ RA.out K3.out).mono ?_
  rintro e U21 ⟨rfl, b⟩
  rw [show decide (TA.kinds = [0, 0, 1, 0, 0, 0, 1, 2]) = true by rw [← hTA.out, smp_turn]; rfl]
  clear qx
  replace BF := Lib.hid (BF.out.trans (b.mono BF.out.size))
  replace LL := Lib.hid (LL.out.below b)
  replace RA := Lib.hid (RA.out.below b)
  replace RB := Lib.hid (RB.out.below b)
  replace RD := Lib.hid (RD.out.below b)
  replace K1 := Lib.hid (K1.out.below b)
  replace K2 := Lib.hid (K2.out.below b)
  replace KL := Lib.hid (KL.out.below b)
  replace K3 := Lib.hid (K3.out.below b)
  replace XA := Lib.hid (qblk b XA.out)
  replace XB := Lib.hid (qblk b XB.out)
  replace XD := Lib.hid (qblk b XD.out)
  clear b
  try dsimp only
  refine yK hK ?_
  clear hK K
  refine yM (.bool true) ?_
  refine yM (.bool true) ?_
  refine yW (.pointer (some ⟨x7, 3, none⟩)) ?_
  have qx := qcell XB.out 3 (.slice bB TB.kinds.length mB) rfl
  refine yW (.slice bB TB.kinds.length mB) ?_
  refine yR (fun K hK => ?_)
  refine qbuild (w' := U21.alloc (.cells #[.int .i64 0, .int .i64 0, .int .i64 0, .int .i64 1, .int .i64 2, .int .i64 0, .int .i64 0, .int .i64 1] 3)) (.slice (some ⟨U21.heap.size, 0, none⟩) 8 8) (by kernel_rfl) ?_
  have LI := lit_ints U21 [0, 0, 0, 1, 2, 0, 0, 1] (by decide)
  have b := zB U21 (.cells #[.int .i64 0, .int .i64 0, .int .i64 0, .int .i64 1, .int .i64 2, .int .i64 0, .int .i64 0, .int .i64 1] 3)
  have K4 : Hid (RdI (U21.alloc (.cells #[.int .i64 0, .int .i64 0, .int .i64 0, .int .i64 1, .int .i64 2, .int .i64 0, .int .i64 0, .int .i64 1] 3)) (some ⟨U21.heap.size, 0, none⟩) 8 8 [0, 0, 0, 1, 2, 0, 0, 1]) := Lib.hid LI
  clear LI
  replace BF := Lib.hid (BF.out.trans (b.mono BF.out.size))
  replace LL := Lib.hid (LL.out.below b)
  replace RA := Lib.hid (RA.out.below b)
  replace RB := Lib.hid (RB.out.below b)
  replace RD := Lib.hid (RD.out.below b)
  replace K1 := Lib.hid (K1.out.below b)
  replace K2 := Lib.hid (K2.out.below b)
  replace KL := Lib.hid (KL.out.below b)
  replace K3 := Lib.hid (K3.out.below b)
  replace XA := Lib.hid (qblk b XA.out)
  replace XB := Lib.hid (qblk b XB.out)
  replace XD := Lib.hid (qblk b XD.out)
  clear b
  obtain ⟨gK4, hgK4⟩ : ∃ x, Hid (U21.heap.size = x) := ⟨_, Lib.hid rfl⟩
  rw [hgK4.out] at K4 ⊢
  generalize U21.alloc (.cells #[.int .i64 0, .int .i64 0, .int .i64 0, .int .i64 1, .int .i64 2, .int .i64 0, .int .i64 0, .int .i64 1] 3) = U22 at *
  refine yK hK ?_
  clear hK K
  refine yR (fun K hK => ?_)
  go_simp
  refine (sameInts2_any bB TB.kinds.length mB TB.kinds (some ⟨gK4, 0, none⟩) 8 8 [0, 0, 0, 1, 2, 0, 0, 1] _ RB.out K4.out).mono ?_
  rintro e U23 ⟨rfl, b⟩
  rw [show decide (TB.kinds = [0, 0, 0, 1, 2, 0, 0, 1]) = true by rw [← hTB.out, smp_normal]; rfl]
  clear qx
  replace BF := Lib.hid (BF.out.trans (b.mono BF.out.size))
  replace LL := Lib.hid (LL.out.below b)
  replace RA := Lib.hid (RA.out.below b)
  replace RB := Lib.hid (RB.out.below b)
  replace RD := Lib.hid (RD.out.below b)
  replace K1 := Lib.hid (K1.out.below b)
  replace K2 := Lib.hid (K2.out.below b)
  replace KL := Lib.hid (KL.out.below b)
  replace K3 := Lib.hid (K3.out.below b)
  replace K4 := Lib.hid (K4.out.below b)
  replace XA := Lib.hid (qblk b XA.out)
  replace XB := Lib.hid (qblk b XB.out)
  replace XD := Lib.hid (qblk b XD.out)
  clear b
  try dsimp only
  refine yK hK ?_
  clear hK K
  refine yM (.bool true) ?_
  refine yM (.bool true) ?_
  refine yW (.pointer (some ⟨x9, 3, none⟩)) ?_
  have qx := qcell XD.out 3 (.slice bD TD.kinds.length mD) rfl
  refine yW (.slice bD TD.kinds.length mD) ?_
  refine yR (fun K hK => ?_)
  refine qbuild (w' := U23.alloc (.cells #[.int .i64 0, .int .i64 0, .int .i64 0, .int .i64 0, .int .i64 0, .int .i64 0, .int .i64 0, .int .i64 1, .int .i64 0, .int .i64 0, .int .i64 1, .int .i64 0, .int .i64 1, .int .i64 0, .int .i64 0, .int .i64 1, .int .i64 0, .int .i64 0] 3)) (.slice (some ⟨U23.heap.size, 0, none⟩) 18 18) (by kernel_rfl) ?_
  have LI := lit_ints U23 [0, 0, 0, 0, 0, 0, 0, 1, 0, 0, 1, 0, 1, 0, 0, 1, 0, 0] (by decide)
  have b := zB U23 (.cells #[.int .i64 0, .int .i64 0, .int .i64 0, .int .i64 0, .int .i64 0, .int .i64 0, .int .i64 0, .int .i64 1, .int .i64 0, .int .i64 0, .int .i64 1, .int .i64 0, .int .i64 1, .int .i64 0, .int .i64 0, .int .i64 1, .int .i64 0, .int .i64 0] 3)
  have K5 : Hid (RdI (U23.alloc (.cells #[.int .i64 0, .int .i64 0, .int .i64 0, .int .i64 0, .int .i64 0, .int .i64 0, .int .i64 0, .int .i64 1, .int .i64 0, .int .i64 0, .int .i64 1, .int .i64 0, .int .i64 1, .int .i64 0, .int .i64 0, .int .i64 1, .int .i64 0, .int .i64 0] 3)) (some ⟨U23.heap.size, 0, none⟩) 18 18 [0, 0, 0, 0, 0, 0, 0, 1, 0, 0, 1, 0, 1, 0, 0, 1, 0, 0]) := Lib.hid LI
  clear LI
  replace BF := Lib.hid (BF.out.trans (b.mono BF.out.size))
  replace LL := Lib.hid (LL.out.below b)
  replace RA := Lib.hid (RA.out.below b)
  replace RB := Lib.hid (RB.out.below b)
  replace RD := Lib.hid (RD.out.below b)
  replace K1 := Lib.hid (K1.out.below b)
  replace K2 := Lib.hid (K2.out.below b)
  replace KL := Lib.hid (KL.out.below b)
  replace K3 := Lib.hid (K3.out.below b)
  replace K4 := Lib.hid (K4.out.below b)
  replace XA := Lib.hid (qblk b XA.out)
  replace XB := Lib.hid (qblk b XB.out)
  replace XD := Lib.hid (qblk b XD.out)
  clear b
  obtain ⟨gK5, hgK5⟩ : ∃ x, Hid (U23.heap.size = x) := ⟨_, Lib.hid rfl⟩
  rw [hgK5.out] at K5 ⊢
  generalize U23.alloc (.cells #[.int .i64 0, .int .i64 0, .int .i64 0, .int .i64 0, .int .i64 0, .int .i64 0, .int .i64 0, .int .i64 1, .int .i64 0, .int .i64 0, .int .i64 1, .int .i64 0, .int .i64 1, .int .i64 0, .int .i64 0, .int .i64 1, .int .i64 0, .int .i64 0] 3) = U24 at *
  refine yK hK ?_
  clear hK K
  refine yR (fun K hK => ?_)
  go_simp
  refine (sameInts2_any bD TD.kinds.length mD TD.kinds (some ⟨gK5, 0, none⟩) 18 18 [0, 0, 0, 0, 0, 0, 0, 1, 0, 0, 1, 0, 1, 0, 0, 1, 0, 0] _ RD.out K5.out).mono ?_
  rintro e U25 ⟨rfl, b⟩
  rw [show decide (TD.kinds = [0, 0, 0, 0, 0, 0, 0, 1, 0, 0, 1, 0, 1, 0, 0, 1, 0, 0]) = true by rw [← hTD.out, smp_dress]; rfl]
  clear qx
  replace BF := Lib.hid (BF.out.trans (b.mono BF.out.size))
  replace LL := Lib.hid (LL.out.below b)
  replace RA := Lib.hid (RA.out.below b)
  replace RB := Lib.hid (RB.out.below b)
  replace RD := Lib.hid (RD.out.below b)
  replace K1 := Lib.hid (K1.out.below b)
  replace K2 := Lib.hid (K2.out.below b)
  replace KL := Lib.hid (KL.out.below b)
  replace K3 := Lib.hid (K3.out.below b)
  replace K4 := Lib.hid (K4.out.below b)
  replace K5 := Lib.hid (K5.out.below b)
  replace XA := Lib.hid (qblk b XA.out)
  replace XB := Lib.hid (qblk b XB.out)
  replace XD := Lib.hid (qblk b XD.out)
  clear b
  try dsimp only
  refine yK hK ?_
  clear hK K
  refine yM (.bool true) ?_
  refine yM (.bool true) ?_
  refine yE ?_
  go_wp2_with fail
  go_ret
  exact ⟨rfl, BF.out⟩
end Go.Proofs.YtimmadkbkimonaaGreatDoor
namespace Go.Proofs.YtimmadkbkimonaaGreatDoor
set_option linter.unusedSimpArgs false
set_option linter.unusedVariables false
open Go.RowKit

theorem RdC.below {w w' : World} {a : Option Addr} {n c : Nat} {l : List CellV} (h : RdC w a n c l) (hb : Below w.heap.size w w') : RdC w' a n c l := RdA.below h hb
theorem RdC.len {w : World} {a : Option Addr} {n c : Nat} {l : List CellV} (h : RdC w a n c l) : l.length = n := by have := RdA.len h; rw [cellsV_len] at this; omega
theorem RdC.get {w : World} {a : Option Addr} {n c : Nat} {l : List CellV} (h : RdC w a n c l) {k : Nat} {x : CellV} (hx : l[k]? = some x) : ∃ b off, a = some ⟨b, off, none⟩ ∧ w.cell? ⟨b, off + k * 2, none⟩ = some (.int .i64 x.1) ∧ w.cell? ⟨b, off + k * 2 + 1, none⟩ = some (.int .i64 x.2) := by
  have hl := (List.getElem?_eq_some_iff.1 hx).1
  have hn := h.len
  obtain ⟨b, off, rfl, h4⟩ := RdA.at h (by omega)
  refine ⟨b, off, rfl, h4 _ _ (cellsV_at l k x hx).1, ?_⟩
  rw [Nat.add_assoc]
  exact h4 _ _ (cellsV_at l k x hx).2
theorem rdc_at {W : World} {b off n c k : Nat} {l : List CellV} {x : CellV} (h : RdC W (some ⟨b, off, none⟩) n c l) (hx : l[k]? = some x) : W.cell? ⟨b, off + k * 2, none⟩ = some (.int .i64 x.1) ∧ W.cell? ⟨b, off + k * 2 + 1, none⟩ = some (.int .i64 x.2) := by
  obtain ⟨b2, o2, e, h2⟩ := h.get hx
  simp only [Option.some.injEq, Addr.mk.injEq, and_true] at e
  rw [e.1, e.2]
  exact h2
theorem qsizeC : (Tryz.prog.info? 41).map (·.size) = some 2 := by kernel_rfl
end Go.Proofs.YtimmadkbkimonaaGreatDoor
namespace Go.Proofs.YtimmadkbkimonaaGreatDoor
set_option linter.unusedSimpArgs false
set_option linter.unusedVariables false
open Go.RowKit

def OwnC (w W : World) (ba : Option Addr) (NB bc : Nat) (bs : List CellV) : Prop := W.ownsRow w.heap.size 41 2 (.slice ba NB bc) NB (cellsV bs)
theorem OwnC.below {w W W' : World} {ba : Option Addr} {NB bc : Nat} {bs : List CellV} (h : OwnC w W ba NB bc bs) (hb : Below W.heap.size W W') : OwnC w W' ba NB bc bs := own_below h hb
theorem OwnC.rd {w W : World} {ba : Option Addr} {NB bc : Nat} {bs : List CellV} (h : OwnC w W ba NB bc bs) : RdC W ba NB bc bs := RdA.of_own h
theorem OwnI.putB2 {w W W' : World} {a : Option Addr} {N n g : Nat} {l : List Int} {cur : Array Value} (h : OwnI w W a N n l) (hg : W.grownBy W' (some g)) (hc : W.heap[g]? = some (.cells cur 4 (0, 0))) : OwnI w W' a N n l := OwnC.putB h hg hc (by decide)
theorem OwnC.putB2 {w W W' : World} {ba : Option Addr} {NB bc g : Nat} {bs : List CellV} {cur : Array Value} (h : OwnC w W ba NB bc bs) (hg : W.grownBy W' (some g)) (hc : W.heap[g]? = some (.cells cur 4 (0, 0))) : OwnC w W' ba NB bc bs := OwnC.putB h hg hc (by decide)
theorem OwnC.keep2 {w W W' : World} {ba : Option Addr} {NB bc : Nat} {bs : List CellV} (h : OwnC w W ba NB bc bs) (hk : ∀ (p : Nat) (ob : Obj), W.heap[p]? = some ob → (∀ cur, ob ≠ .cells cur 3 (0, 0)) → W'.heap[p]? = some ob) : OwnC w W' ba NB bc bs := own_keep h hk (by decide)
theorem OwnB.keep2 {w W W' : World} {g N : Nat} {l : List Bool} (h : OwnB w W g N l) (hk : ∀ (p : Nat) (ob : Obj), W.heap[p]? = some ob → (∀ cur, ob ≠ .cells cur 3 (0, 0)) → W'.heap[p]? = some ob) : OwnB w W' g N l := own_keep h hk (by decide)
theorem mem_take_succ {l : List Int} {k : Nat} {y : Int} (h : l[k]? = some y) {P : Int → Prop} (h1 : ∀ z ∈ l.take k, P z) (h2 : P y) : ∀ z ∈ l.take (k + 1), P z := by
  intro z hz
  rw [List.take_add_one, h] at hz
  rcases List.mem_append.1 hz with hz | hz
  · exact h1 z hz
  · have e : z = y := by simpa using hz
    rw [e]; exact h2
set_option maxHeartbeats 4000000 in
set_option maxRecDepth 100000 in
theorem joined_any (f : FaceV) (a : Option Addr) (n : Nat) (la : Option Addr) (NS lm : Nat) (oa : Option Addr) (oc : Nat) (w : World) (hv : f.valid = true) (hr : RdI w a f.kinds.length n f.kinds) (hrl : RdLL w la NS lm (regListF f)) (hro : RdI w oa f.kinds.length oc (ofL f)) :
    Calls Tryz.prog 37 #[.agg (f.cells a n), .slice la NS lm, .slice oa f.kinds.length oc] w fun e w' => e = .returned (.bool true) ∧ Below w.heap.size w w' := by
  have HV := Lib.hid hv
  have IV := Lib.hid (FaceV.int hv)
  have LL := Lib.hid (FaceV.len_le hv)
  have N0 : Hid (0 < f.kinds.length) := Lib.hid (by have h := FaceV.nat hv; rw [h.2.2.2.2.2.2]; exact Nat.mul_pos (by omega) (by omega))
  obtain ⟨kb, ko, ha, hx9⟩ := hr.get (FaceV.kat_at N0.out)
  subst ha
  have HRU := Lib.hid (fun W (hb : Below w.heap.size w W) => hr.below hb)
  have RLw := Lib.hid hrl
  have ROU := Lib.hid (fun W (hb : Below w.heap.size w W) => hro.below hb)
  have NSL := Lib.hid hrl.len
  clear hr hrl hro hv hx9
  have AL := Lib.hid (al1 w (.cells (f.cells (some ⟨kb, ko, none⟩) n) 28))
  go_enter Tryz.func37, Tryz.ntmps37
  go_upto_region 1 with fail
  obtain ⟨p, hp⟩ : ∃ p, Hid (w.heap.size = p) := ⟨_, Lib.hid rfl⟩
  rw [hp.out] at AL ⊢
  generalize (w.alloc (.cells (f.cells (some ⟨kb, ko, none⟩) n) 28)) = W0 at *
  have BF : Hid (Below w.heap.size w W0) := Lib.hid (by rw [hp.out]; exact AL.out.1)
  have XF : Hid (W0.heap[p]? = some (.cells (f.cells (some ⟨kb, ko, none⟩) n) 28 (0, 0))) := Lib.hid AL.out.2
  clear AL
  have c0 := qcell XF.out 0 (.int .i64 f.eye) rfl
  have c1 := qcell XF.out 1 (.int .i64 f.rings) rfl
  have c2 := qcell XF.out 2 (.int .i64 f.sectors) rfl
  have c3 := qcell XF.out 3 (.slice (some ⟨kb, ko, none⟩) f.kinds.length n) rfl
  clear c0 c1 c2 c3
  go_wp2_with fail
  generalize W0 = Y0 at *
  go_loopw [7] (fun v wr => ∃ i : Nat, v = .int .i64 (i : Int) ∧ i ≤ NS ∧ Hid (Below w.heap.size w wr) ∧ Hid (wr.heap[p]? = some (.cells (f.cells (some ⟨kb, ko, none⟩) n) 28 (0, 0)))) (fun v _ => NS - (intOf v).toNat)
  case atStart => exact ⟨0, rfl, Nat.zero_le _, BF, XF⟩
  case round =>
    clear BF XF
    obtain ⟨i, rfl, hi, BF, XF⟩ := hrel
    by_cases hin : i < NS
    · have t0 : decide ((i : Int) < (NS : Int)) = true := by simp; omega
      have HIN : Hid (i < NS) := Lib.hid hin
      obtain ⟨cs, hcs⟩ : ∃ cs, (regListF f)[i]? = some cs := ⟨_, List.getElem?_eq_getElem (by rw [NSL.out]; exact hin)⟩
      have NSB : Hid (NS ≤ 2304) := Lib.hid (by
        rw [← NSL.out, regList_len]
        have h3 := (regionsN_le f f.kinds.length).2
        have h4 := LL.out
        have h5 : (regionsF f).2 = (regionsN f f.kinds.length).2 := rfl
        omega)
      have HI64 : Hid ((i : Int) + 1 ≤ 9223372036854775807) := Lib.hid (by have := NSB.out; omega)
      obtain ⟨R, off, aj, cj, ha, hc, hrd⟩ := RLw.out.at_ i cs hcs
      subst ha
      obtain ⟨hne, hrg⟩ := rg_mem HV.out hcs
      have CSE : Hid (cs = regAt f (regionsF f).1 i f.kinds.length) := Lib.hid (by
        have h4 := (List.getElem?_eq_some_iff.1 hcs).1
        rw [regList_len] at h4
        rw [regList_at h4] at hcs
        exact (Option.some.inj hcs).symm)
      have CSB : Hid (1 ≤ cs.length ∧ cs.length ≤ 2304) := Lib.hid ⟨List.length_pos_iff.2 hne, by rw [CSE.out]; exact Nat.le_trans (regAt_len _ _ _ _) LL.out⟩
      obtain ⟨x0, hx0⟩ : ∃ x, cs[0]? = some x := ⟨_, List.getElem?_eq_getElem (List.length_pos_iff.2 hne)⟩
      have X0 := Lib.hid (hrg x0 (List.mem_of_getElem? hx0))
      have RX0 : Hid ((regionsF f).1 x0 = some (i : Int)) := Lib.hid ((regAt_iff HV.out).1 (by have := List.mem_of_getElem? hx0; rw [CSE.out] at this; exact this))
      obtain ⟨xn, hxn⟩ : ∃ z : Nat, x0 = (z : Int) := ⟨x0.toNat, by have := X0.out; omega⟩
      subst hxn
      have XL : Hid (xn < f.kinds.length) := Lib.hid (by have := X0.out; omega)
      have H0 := Lib.hid hx0
      obtain ⟨gj, oj, haj, _⟩ := hrd.get hx0
      subst haj
      have LCU := Lib.hid (fun W (hb : Below w.heap.size w W) => (show LsC w R (off + i) (some ⟨gj, oj, none⟩) cj cs from ⟨hc, hrd⟩).below hb)
      obtain ⟨ob, oo, hob, _⟩ := (ROU.out w (Below.refl _ _)).get (ofL_at N0.out)
      subst hob
      obtain ⟨CL, hCL⟩ : ∃ z, Hid (cs.length = z) := ⟨_, Lib.hid rfl⟩
      rw [hCL.out] at CSB
      have LC := Lib.hid (LCU.out wr BF.out)
      clear hcs hne hrg hx0 hc hrd
      go_upto_region 4 with fail
      clear t0
      have zi : i < NS := HIN.out
      have zc : 0 < CL := by have := CSB.out; omega
      have zx : xn < f.kinds.length := XL.out
      refine yB ?_
      refine yM (.slice (some ⟨R, off, none⟩) NS lm) ?_
      refine yM (.int .i64 (i : Int)) ?_
      refine yW (.pointer (some ⟨R, off + i, none⟩)) ?_
      refine yW (.slice (some ⟨gj, oj, none⟩) CL cj) ?_ (.inl ⟨by kernel_rfl, by intro W hW; rw [hW]; have c := (LC.out).cell; rw [hCL.out] at c; go_simp; (try rfl)⟩)
      refine yW (.int .i64 (CL : Int)) ?_
      refine yW (.bool false) ?_ (.inl ⟨by kernel_rfl, by intro W hW; rw [hW]; go_simp; first | done | (have := CSB.out; simp; omega)⟩)
      refine yE ?_
      go_upto_region 6 with fail
      refine yB ?_
      refine yM (.slice (some ⟨ob, oo, none⟩) f.kinds.length oc) ?_
      refine yW (.int .i64 (f.kinds.length : Int)) ?_
      refine yR (fun K hK => ?_)
      have hmk := run_make_bools f.kinds.length (by have := LL.out; omega) wr
      refine qbuild (w' := wr.alloc (.cells ((List.replicate f.kinds.length false).map boolV).toArray 4)) (.slice (some ⟨wr.heap.size, 0, none⟩) f.kinds.length f.kinds.length) (by go_simp) ?_
      clear hmk
      have OS := Lib.hid (own_bools f.kinds.length (by have := LL.out; omega) wr w BF.out.size)
      have b := zB wr (.cells ((List.replicate f.kinds.length false).map boolV).toArray 4)
      obtain ⟨gs, hgs⟩ : ∃ x, Hid (wr.heap.size = x) := ⟨_, Lib.hid rfl⟩
      replace BF := Lib.hid (BF.out.trans (b.mono BF.out.size))
      replace LC := Lib.hid (LC.out.below b)
      replace XF := Lib.hid (qblk b XF.out)
      clear b
      rw [hgs.out] at OS ⊢
      generalize hV9 : wr.alloc (.cells ((List.replicate f.kinds.length false).map boolV).toArray 4) = U6 at *
      clear hV9
      refine yK hK ?_
      clear hK K
      refine yM (.slice (some ⟨gs, 0, none⟩) f.kinds.length f.kinds.length) ?_
      refine yE ?_
      go_upto_region 7 with fail
      refine yB ?_
      refine yMs [.slice (some ⟨gs, 0, none⟩) f.kinds.length f.kinds.length, .slice (some ⟨R, off, none⟩) NS lm, .int .i64 (i : Int)] (fun W => ⟨.inl ⟨by kernel_rfl, by kernel_rfl⟩, .inl ⟨by kernel_rfl, by kernel_rfl⟩, .inl ⟨by kernel_rfl, by kernel_rfl⟩, trivial⟩) ?_
      refine yW (.pointer (some ⟨R, off + i, none⟩)) ?_
      refine yW (.slice (some ⟨gj, oj, none⟩) CL cj) ?_ (.inl ⟨by kernel_rfl, by intro W hW; rw [hW]; have c := (LC.out).cell; rw [hCL.out] at c; go_simp; (try rfl)⟩)
      refine yW (.pointer (some ⟨gj, oj, none⟩)) ?_
      refine yW (.int .i64 (xn : Int)) ?_ (.inl ⟨by kernel_rfl, by intro W hW; rw [hW]; have c : _ = _ := rdi_at (LC.out).rd H0.out; rw [Nat.add_zero] at c; go_simp; (try rfl)⟩)
      refine yW (.pointer (some ⟨gs, xn, none⟩)) ?_
      refine yR (fun K hK => ?_)
      have OP := Lib.hid (OS.out.put XL.out true)
      have cc := OP.out.2.1
      have cf := OP.out.2.2.1
      go_simp
      clear cc cf
      obtain ⟨cur9, hcur⟩ := OP.out.2.2.2.2.2
      have HG9 := OP.out.2.2.2.1
      replace BF := Lib.hid (qstep BF.out HG9 OP.out.2.2.2.2.1)
      replace XF := Lib.hid (blk_putB XF.out HG9 hcur (by decide))
      clear LC
      replace OS := Lib.hid OP.out.1
      clear OP hcur HG9
      generalize U6.setCell ⟨gs, xn, none⟩ (.bool true) = X7 at *
      rw [seenL_start XL.out] at OS
      have LC := Lib.hid (LCU.out X7 BF.out)
      refine yK hK ?_
      clear hK K
      refine yE ?_
      go_upto_region 8 with fail
      refine yB ?_
      refine yM (.slice (some ⟨R, off, none⟩) NS lm) ?_
      refine yM (.int .i64 (i : Int)) ?_
      refine yW (.pointer (some ⟨R, off + i, none⟩)) ?_
      refine yW (.slice (some ⟨gj, oj, none⟩) CL cj) ?_ (.inl ⟨by kernel_rfl, by intro W hW; rw [hW]; have c := (LC.out).cell; rw [hCL.out] at c; go_simp; (try rfl)⟩)
      refine yW (.pointer (some ⟨gj, oj, none⟩)) ?_
      refine yW (.int .i64 (xn : Int)) ?_ (.inl ⟨by kernel_rfl, by intro W hW; rw [hW]; have c : _ = _ := rdi_at (LC.out).rd H0.out; rw [Nat.add_zero] at c; go_simp; (try rfl)⟩)
      refine yR (fun K hK => ?_)
      refine qbuild (w' := X7.alloc (.cells #[.int .i64 (xn : Int)] 3)) (.slice (some ⟨X7.heap.size, 0, none⟩) 1 1) (by kernel_rfl) ?_
      have OT : Hid (OwnI w (X7.alloc (.cells #[.int .i64 (xn : Int)] 3)) (some ⟨X7.heap.size, 0, none⟩) 1 1 [(xn : Int)]) := Lib.hid (World.ownsRow_lit (base := w.heap.size) (e := 3) (size := 1) X7 #[.int .i64 (xn : Int)] 1 BF.out.size (by unfold maxLen; omega) rfl)
      have b := zB X7 (.cells #[.int .i64 (xn : Int)] 3)
      obtain ⟨y8, hy8⟩ : ∃ x, Hid (X7.heap.size = x) := ⟨_, Lib.hid rfl⟩
      replace BF := Lib.hid (BF.out.trans (b.mono BF.out.size))
      replace LC := Lib.hid (LC.out.below b)
      replace OS := Lib.hid (OS.out.below b)
      replace XF := Lib.hid (qblk b XF.out)
      clear b
      rw [hy8.out] at OT ⊢
      generalize hV9 : X7.alloc (.cells #[.int .i64 (xn : Int)] 3) = U8 at *
      clear hV9
      refine yK hK ?_
      clear hK K
      refine yM (.slice (some ⟨y8, 0, none⟩) 1 1) ?_
      refine yE ?_
      clear zi zc zx LC
      have BI := Lib.hid (BfI.start (f := f) RX0.out)
      go_wp2_with fail
      generalize U8 = Y8 at *
      go_loopw [9, 10, 11] (fun s9 nv av wr => ∃ (at_ : Nat) (todo : List Int) (ta : Option Addr) (tc : Nat), s9 = .slice ta todo.length tc ∧ nv = .int .i64 (at_ : Int) ∧ av = .int .i64 (at_ : Int) ∧ at_ ≤ todo.length ∧ Hid (Below w.heap.size w wr) ∧ Hid (wr.heap[p]? = some (.cells (f.cells (some ⟨kb, ko, none⟩) n) 28 (0, 0))) ∧ Hid (OwnI w wr ta todo.length tc todo) ∧ Hid (OwnB w wr gs f.kinds.length (seenL f.kinds.length todo)) ∧ Hid (BfI f (i : Int) (xn : Int) todo at_)) (fun _ _ av _ => CL - (intOf av).toNat)
      case atStart => exact ⟨0, [(xn : Int)], some ⟨y8, 0, none⟩, 1, rfl, rfl, rfl, Nat.zero_le _, BF, XF, OT, OS, BI⟩
      case round =>
        clear BF XF OT OS BI
        obtain ⟨at_, todo, ta, tc, rfl, rfl, rfl, hat, BF, XF, OT, OS, BI⟩ := hrel
        have TLE : Hid (todo.length ≤ CL) := Lib.hid (by rw [← hCL.out, CSE.out]; exact BI.out.len_le HV.out)
        by_cases hatl : at_ < todo.length
        · have t0 : decide ((at_ : Int) < (todo.length : Int)) = true := by simp; omega
          have HAT : Hid (at_ < todo.length) := Lib.hid hatl
          have HA64 : Hid ((at_ : Int) + 1 ≤ 9223372036854775807) := Lib.hid (by have := TLE.out; have := CSB.out; omega)
          obtain ⟨x, hx⟩ : ∃ x, todo[at_]? = some x := ⟨_, List.getElem?_eq_getElem hatl⟩
          have HX1 := Lib.hid hx
          have RXI := Lib.hid (BI.out.inr x (List.mem_of_getElem? hx))
          have XIN : Hid (InF f x) := Lib.hid ((regF HV.out).rg.inr x i RXI.out).1
          have CPX := Lib.hid (cellP_in HV.out XIN.out)
          have NPX := Lib.hid (neighP_cell HV.out XIN.out)
          obtain ⟨tb, htb⟩ := OT.out.at HAT.out
          subst htb
          obtain ⟨x2, hx2⟩ : ∃ z : Nat, Hid (x = (z : Int)) := ⟨x.toNat, Lib.hid (by have := XIN.out.1; omega)⟩
          have X2L : Hid (x2 < f.kinds.length) := Lib.hid (by have := XIN.out.2; have := hx2.out; omega)
          clear hx
          have ha64 := HA64.out
          go_upto_region 14 with fail
          clear t0 ha64
          have za : at_ < todo.length := HAT.out
          apply cut_w2 (P := fun (W9 : World) (x12 : Nat) => Hid (Below w.heap.size w W9 ∧ OwnI w W9 (some ⟨tb, 0, none⟩) todo.length tc todo ∧ OwnB w W9 gs f.kinds.length (seenL f.kinds.length todo) ∧ W9.heap[p]? = some (.cells (f.cells (some ⟨kb, ko, none⟩) n) 28 (0, 0)) ∧ W9.heap[x12]? = some (.cells (cellA (cellF f x)) 41 (0, 0))))
          · intro REST
            have hd : Below wr.heap.size wr wr.drew := (Below.refl _ _).drew
            replace BF := Lib.hid (BF.out.trans (hd.mono BF.out.size))
            replace OT := Lib.hid (OT.out.below hd)
            replace OS := Lib.hid (OS.out.below hd)
            replace XF := Lib.hid (qblk hd XF.out)
            clear hd
            refine zD (fun W => Below wr.drew.heap.size wr.drew W) (Below.refl _ _) (fun hHeld => ?_)
            have BV := Lib.hid hHeld
            generalize wr.drew = V3 at *
            refine zT 0 rfl (.agg (f.cells (some ⟨kb, ko, none⟩) n)) (qyrow (by kernel_rfl) 28 _ rfl p rfl _ 28 (0, 0) _ (fun W hW => qblk hW XF.out) Tryz.underlying28 rfl (by exact (qJF f (some ⟨kb, ko, none⟩) n))) ?_
            refine zW 1 rfl (.slice (some ⟨tb, 0, none⟩) todo.length tc) ?_
            refine zW 2 rfl (.int .i64 (at_ : Int)) ?_
            refine zW 3 rfl (.pointer (some ⟨tb, at_, none⟩)) ?_
            refine zS 4 rfl (.int .i64 x) (fun W hW => by have c := rdi_at (OT.out.below hW).rd HX1.out; rw [Nat.zero_add] at c; go_simp; (try rfl)) ?_
            refine zM [5, 9] rfl (fun K hK => ?_) (zn (i := 9) (fun K hK => ?_))
            · go_simp
              refine (cellP_any f (some ⟨kb, ko, none⟩) n x _ (HRU.out _ (BF.out.trans (BV.out.mono BF.out.size)))).mono ?_
              rintro e Z1 ⟨rfl, b⟩
              rw [CPX.out]
              have BV2 := Lib.hid (BV.out.trans (b.mono BV.out.size))
              clear b BV
              have BV := BV2
              clear BV2
              try dsimp only
              refine zK hK BV.out (fun hHeld => ?_)
              clear hK K
              refine zW 6 rfl (.tuple #[.agg (cellA (cellF f x)), .int .i64 0]) ?_
              refine zW 7 rfl (.agg (cellA (cellF f x))) ?_
              refine zW 8 rfl (.int .i64 0) ?_
              refine zR 9 rfl (fun K hK => ?_)
              rw [if_pos (by kernel_rfl)]
              refine qbuild (w' := Z1.alloc (.cells #[.int .i64 0, .int .i64 0] 41)) (.pointer (some ⟨Z1.heap.size, 0, none⟩)) (by kernel_rfl) ?_
              have Ax12 := Lib.hid (al1 Z1 (.cells #[.int .i64 0, .int .i64 0] 41)).2
              have b := zB Z1 (.cells #[.int .i64 0, .int .i64 0] 41)
              obtain ⟨x12, hx12⟩ : ∃ x, Hid (Z1.heap.size = x) := ⟨_, Lib.hid rfl⟩
              have Gx12 : Hid (V3.heap.size ≤ x12) := Lib.hid (by have h1 := hx12.out; have h2 := BV.out.size; omega)
              have BV2 := Lib.hid (BV.out.trans (b.mono BV.out.size))
              clear BV
              have BV := BV2
              clear BV2
              rw [hx12.out] at Ax12 ⊢
              clear b
              generalize hV9 : Z1.alloc (.cells #[.int .i64 0, .int .i64 0] 41) = A2 at *
              clear hV9
              refine zK hK BV.out (fun hHeld => ?_)
              clear hK K
              refine zR 10 rfl (fun K hK => ?_)
              rw [if_pos (by kernel_rfl)]
              refine qstore 41 _ _ rfl x12 #[.int .i64 0, .int .i64 0] (cellA (cellF f x)) 41 rfl rfl Ax12.out (by exact (qJC (cellF f x))) rfl (qoneC (cellF f x)) ?_
              intro S1 h8 hg8 hs8
              have BX : Hid (Below V3.heap.size V3 S1) := Lib.hid (BV.out.grown hg8 BV.out.size (fun kk e => by cases e; exact Gx12.out))
              clear BV
              have BV := BX
              clear BX
              have Xx12 := Lib.hid h8
              clear h8 hg8 hs8 Ax12
              refine zK hK BV.out (fun hHeld => ?_)
              clear hK K
              refine zW 11 rfl (.int .i64 0) ?_
              refine zE ?_
              have bz := BV.out
              exact REST S1 x12 (Lib.hid ⟨BF.out.trans (bz.mono BF.out.size), OT.out.below bz, OS.out.below bz, qblk bz XF.out, Xx12.out⟩)
            · rw [if_pos (by kernel_rfl)]
              refine qbuild (w' := V3.alloc (.cells #[.int .i64 0, .int .i64 0] 41)) (.pointer (some ⟨V3.heap.size, 0, none⟩)) (by kernel_rfl) ?_
              have Ax12 := Lib.hid (al1 V3 (.cells #[.int .i64 0, .int .i64 0] 41)).2
              have b := zB V3 (.cells #[.int .i64 0, .int .i64 0] 41)
              obtain ⟨x12, hx12⟩ : ∃ x, Hid (V3.heap.size = x) := ⟨_, Lib.hid rfl⟩
              have Gx12 : Hid (V3.heap.size ≤ x12) := Lib.hid (by have h1 := hx12.out; have h2 := BV.out.size; omega)
              have BV2 := Lib.hid (BV.out.trans (b.mono BV.out.size))
              clear BV
              have BV := BV2
              clear BV2
              rw [hx12.out] at Ax12 ⊢
              clear b
              generalize hV9 : V3.alloc (.cells #[.int .i64 0, .int .i64 0] 41) = A1 at *
              clear hV9
              refine zK hK BV.out (fun hHeld => ?_)
              clear hK K
              refine zR 5 rfl (fun K hK => ?_)
              go_simp
              refine (cellP_any f (some ⟨kb, ko, none⟩) n x _ (HRU.out _ (BF.out.trans (BV.out.mono BF.out.size)))).mono ?_
              rintro e Z2 ⟨rfl, b⟩
              rw [CPX.out]
              replace Ax12 := Lib.hid (qblk b Ax12.out)
              have BV2 := Lib.hid (BV.out.trans (b.mono BV.out.size))
              clear b BV
              have BV := BV2
              clear BV2
              try dsimp only
              refine zK hK BV.out (fun hHeld => ?_)
              clear hK K
              refine zW 6 rfl (.tuple #[.agg (cellA (cellF f x)), .int .i64 0]) ?_
              refine zW 7 rfl (.agg (cellA (cellF f x))) ?_
              refine zW 8 rfl (.int .i64 0) ?_
              refine zR 10 rfl (fun K hK => ?_)
              rw [if_pos (by kernel_rfl)]
              refine qstore 41 _ _ rfl x12 #[.int .i64 0, .int .i64 0] (cellA (cellF f x)) 41 rfl rfl Ax12.out (by exact (qJC (cellF f x))) rfl (qoneC (cellF f x)) ?_
              intro S1 h8 hg8 hs8
              have BX : Hid (Below V3.heap.size V3 S1) := Lib.hid (BV.out.grown hg8 BV.out.size (fun kk e => by cases e; exact Gx12.out))
              clear BV
              have BV := BX
              clear BX
              have Xx12 := Lib.hid h8
              clear h8 hg8 hs8 Ax12
              refine zK hK BV.out (fun hHeld => ?_)
              clear hK K
              refine zW 11 rfl (.int .i64 0) ?_
              refine zE ?_
              have bz := BV.out
              exact REST S1 x12 (Lib.hid ⟨BF.out.trans (bz.mono BF.out.size), OT.out.below bz, OS.out.below bz, qblk bz XF.out, Xx12.out⟩)
          · intro W9 x12 HX
            clear BF OT OS XF
            obtain ⟨BF, OT, OS, XF, Xx12⟩ := HX.out
            replace BF := Lib.hid BF
            replace OT := Lib.hid OT
            replace OS := Lib.hid OS
            replace XF := Lib.hid XF
            replace Xx12 := Lib.hid Xx12
            clear HX
            clear za
            go_upto_region 15 with fail
            refine yB ?_
            refine yW (.agg (f.cells (some ⟨kb, ko, none⟩) n)) ?_ (qyrow (by kernel_rfl) 28 _ rfl p rfl _ 28 (0, 0) _ (fun W hW => by rw [hW]; exact XF.out) Tryz.underlying28 rfl (by exact (qJF f (some ⟨kb, ko, none⟩) n)))
            refine yW (.agg (cellA (cellF f x))) ?_ (qyrow (by kernel_rfl) 41 _ rfl x12 rfl _ 41 (0, 0) _ (fun W hW => by rw [hW]; exact Xx12.out) Tryz.underlying41 rfl (by exact (qJC (cellF f x))))
            refine yR (fun K hK => ?_)
            go_simp
            refine (neighP_any f (some ⟨kb, ko, none⟩) n (cellF f x) _ (HRU.out _ BF.out)).mono ?_
            rintro e U1 ⟨⟨ba, bc, rfl, own⟩, b⟩
            rw [NPX.out] at own ⊢
            try dsimp only at own ⊢
            rw [List.length_map] at own ⊢
            obtain ⟨NL, hNL⟩ : ∃ z, Hid (neighF f x = z) := ⟨_, Lib.hid rfl⟩
            rw [hNL.out] at own ⊢
            obtain ⟨NB, hNB⟩ : ∃ z, Hid (NL.length = z) := ⟨_, Lib.hid rfl⟩
            rw [hNB.out] at own ⊢
            have OC : Hid (OwnC w U1 ba NB bc (NL.map (cellF f))) := Lib.hid (own_mono own BF.out.size)
            clear own
            replace BF := Lib.hid (BF.out.trans (b.mono BF.out.size))
            replace OT := Lib.hid (OT.out.below b)
            replace OS := Lib.hid (OS.out.below b)
            replace XF := Lib.hid (qblk b XF.out)
            replace Xx12 := Lib.hid (qblk b Xx12.out)
            clear b
            try dsimp only
            refine yK hK ?_
            clear hK K
            refine yMs [.tuple #[.slice ba NB bc, .int .i64 0], .slice ba NB bc, .int .i64 0, .slice ba NB bc, .int .i64 0] (fun W => ⟨.inl ⟨by kernel_rfl, by kernel_rfl⟩, .inl ⟨by kernel_rfl, by kernel_rfl⟩, .inl ⟨by kernel_rfl, by kernel_rfl⟩, .inl ⟨by kernel_rfl, by kernel_rfl⟩, .inl ⟨by kernel_rfl, by kernel_rfl⟩, trivial⟩) ?_
            refine yE ?_
            go_upto_region 16 with fail
            refine yB ?_
            refine yM (.int .i64 0) ?_
            refine yW (.bool false) ?_ (.inl ⟨by kernel_rfl, by intro W hW; (try rw [hW]); go_simp; (try simp)⟩)
            refine yM (.bool false) ?_
            refine yM (.int .i64 0) ?_
            refine yW (.bool false) ?_ (.inl ⟨by kernel_rfl, by intro W hW; (try rw [hW]); go_simp; (try simp)⟩)
            refine yM (.bool false) ?_
            refine yE ?_
            have NLB : Hid (NB ≤ 4) := Lib.hid (by rw [← hNB.out, ← hNL.out]; exact (neigh_len HV.out x).2)
            have NIN : Hid (∀ y ∈ NL, InF f y) := Lib.hid (fun y hy => by rw [← hNL.out] at hy; exact (neigh_in HV.out XIN.out hy).1)
            have SID : Hid (∀ y ∈ NL, (regionsF f).1 y = some (i : Int) ↔ landB f y = landB f x) := Lib.hid (fun y hy => by rw [← hNL.out] at hy; exact side_iff HV.out RXI.out hy)
            clear Xx12
            go_wp2_with fail
            generalize U1 = Y9 at *
            have GOT : Hid (∀ y ∈ NL.take 0, (regionsF f).1 y = some (i : Int) → y ∈ todo) := Lib.hid (by simp)
            go_loopw [9, 16] (fun s9 kv wr => ∃ (k : Nat) (todo : List Int) (ta : Option Addr) (tc : Nat), s9 = .slice ta todo.length tc ∧ kv = .int .i64 (k : Int) ∧ k ≤ NB ∧ Hid (Below w.heap.size w wr) ∧ Hid (wr.heap[p]? = some (.cells (f.cells (some ⟨kb, ko, none⟩) n) 28 (0, 0))) ∧ Hid (OwnI w wr ta todo.length tc todo) ∧ Hid (OwnB w wr gs f.kinds.length (seenL f.kinds.length todo)) ∧ Hid (OwnC w wr ba NB bc (NL.map (cellF f))) ∧ Hid (BfI f (i : Int) (xn : Int) todo at_) ∧ Hid (todo[at_]? = some x) ∧ Hid (∀ y ∈ NL.take k, (regionsF f).1 y = some (i : Int) → y ∈ todo)) (fun _ kv _ => NB - (intOf kv).toNat)
            case atStart => exact ⟨0, todo, some ⟨tb, 0, none⟩, tc, rfl, rfl, Nat.zero_le _, BF, XF, OT, OS, OC, BI, HX1, GOT⟩
            case round =>
              clear BF XF OT OS OC BI HX1 GOT TLE HAT hat hatl
              obtain ⟨k, todo, ta, tc, rfl, rfl, hk, BF, XF, OT, OS, OC, BI, HX1, GOT⟩ := hrel
              have HAT : Hid (at_ < todo.length) := Lib.hid (List.getElem?_eq_some_iff.1 HX1.out).1
              have TLE : Hid (todo.length ≤ CL) := Lib.hid (by rw [← hCL.out, CSE.out]; exact BI.out.len_le HV.out)
              by_cases hkb : k < NB
              · have t0 : decide ((k : Int) < (NB : Int)) = true := by simp; omega
                have HK64 : Hid ((k : Int) + 1 ≤ 9223372036854775807) := Lib.hid (by have := NLB.out; omega)
                have HKB : Hid (k < NB) := Lib.hid hkb
                obtain ⟨y, hy⟩ : ∃ y, NL[k]? = some y := ⟨_, List.getElem?_eq_getElem (by rw [hNB.out]; exact hkb)⟩
                have HY := Lib.hid hy
                have YIN := Lib.hid (NIN.out y (List.mem_of_getElem? hy))
                have YSD := Lib.hid (SID.out y (List.mem_of_getElem? hy))
                have IPY := Lib.hid (indexP_cell HV.out YIN.out)
                obtain ⟨yn, hyn⟩ : ∃ z : Nat, y = (z : Int) := ⟨y.toNat, by have := YIN.out.1; omega⟩
                subst hyn
                have YL : Hid (yn < f.kinds.length) := Lib.hid (by have := YIN.out.2; omega)
                have HYC : Hid ((NL.map (cellF f))[k]? = some (cellF f yn)) := Lib.hid (by rw [List.getElem?_map, hy]; rfl)
                obtain ⟨bb, bo, hbb, _⟩ := RdC.get OC.out.rd HYC.out
                subst hbb
                obtain ⟨tb, htb⟩ := OT.out.at HAT.out
                subst htb
                obtain ⟨m, hm⟩ : ∃ m, Hid (bo + k * 2 = m) := ⟨_, Lib.hid rfl⟩
                have hi2 := fun W => qidx (W := W) (c := bc) (b := bb) Tryz.underlying44 qsizeC hkb hm.out
                obtain ⟨bi, hbi⟩ : ∃ z, Hid ((ofK f yn == (i : Int)) = z) := ⟨_, Lib.hid rfl⟩
                obtain ⟨bx, hbx⟩ : ∃ z, Hid ((f.kat yn == 0) = z) := ⟨_, Lib.hid rfl⟩
                obtain ⟨bz, hbz⟩ : ∃ z, Hid ((f.kat x2 == 0) = z) := ⟨_, Lib.hid rfl⟩
                have LND : Hid (landB f (yn : Int) = bx ∧ landB f x = bz) := Lib.hid ⟨by rw [← hbx.out]; unfold landB; rw [Int.toNat_natCast, Bool.eq_iff_iff]; simp, by rw [hx2.out, ← hbz.out]; unfold landB; rw [Int.toNat_natCast, Bool.eq_iff_iff]; simp⟩
                have EQB : Hid (bi = (bx == bz)) := Lib.hid (by
                  have h1 := YSD.out
                  rw [LND.out.1, LND.out.2] at h1
                  have h2 := ofK_iff HV.out (i := (i : Int)) YIN.out
                  rw [Bool.eq_iff_iff, ← hbi.out]
                  simp only [beq_iff_eq]
                  exact h2.trans h1)
                have BIY : Hid (bi = true ↔ (regionsF f).1 (yn : Int) = some (i : Int)) := Lib.hid (by
                  rw [← hbi.out, beq_iff_eq]
                  exact ofK_iff HV.out YIN.out)
                have HXN : Hid (todo[at_]? = some (x2 : Int)) := Lib.hid (by rw [← hx2.out]; exact HX1.out)
                clear hy
                go_upto_region 21 with fail
                clear t0
                have hd : Below wr.heap.size wr wr.drew := (Below.refl _ _).drew
                replace BF := Lib.hid (BF.out.trans (hd.mono BF.out.size))
                replace OT := Lib.hid (OT.out.below hd)
                replace OS := Lib.hid (OS.out.below hd)
                replace OC := Lib.hid (OC.out.below hd)
                replace XF := Lib.hid (qblk hd XF.out)
                clear hd
                refine zD (fun W => Below wr.drew.heap.size wr.drew W) (Below.refl _ _) (fun hHeld => ?_)
                have BV := Lib.hid hHeld
                generalize wr.drew = V1 at *
                refine zT 0 rfl (.agg (f.cells (some ⟨kb, ko, none⟩) n)) (qyrow (by kernel_rfl) 28 _ rfl p rfl _ 28 (0, 0) _ (fun W hW => qblk hW XF.out) Tryz.underlying28 rfl (by exact (qJF f (some ⟨kb, ko, none⟩) n))) ?_
                refine zW 1 rfl (.slice (some ⟨bb, bo, none⟩) NB bc) ?_
                refine zW 2 rfl (.int .i64 (k : Int)) ?_
                refine zW 3 rfl (.pointer (some ⟨bb, m, none⟩)) ?_
                refine zS 4 rfl (.agg (cellA (cellF f yn))) (fun W hW => by have c0 := (rdc_at (OC.out.below hW).rd HYC.out).1; have c1 := (rdc_at (OC.out.below hW).rd HYC.out).2; rw [hm.out] at c0 c1; go_simp; (try rfl)) ?_
                refine zR 5 rfl (fun K hK => ?_)
                go_simp
                refine (indexP_any f (some ⟨kb, ko, none⟩) n (cellF f yn) _ (HRU.out _ (BF.out.trans (BV.out.mono BF.out.size)))).mono ?_
                rintro e Z1 ⟨rfl, b⟩
                rw [IPY.out]
                have BV2 := Lib.hid (BV.out.trans (b.mono BV.out.size))
                clear b BV
                have BV := BV2
                clear BV2
                try dsimp only
                refine zK hK BV.out (fun hHeld => ?_)
                clear hK K
                refine zW 6 rfl (.tuple #[.int .i64 (yn : Int), .int .i64 0]) ?_
                refine zW 7 rfl (.int .i64 (yn : Int)) ?_
                refine zW 8 rfl (.int .i64 0) ?_
                refine zW 9 rfl (.int .i64 (yn : Int)) ?_
                refine zW 10 rfl (.int .i64 0) ?_
                refine zE ?_
                have bz := BV.out
                replace BF := Lib.hid (BF.out.trans (bz.mono BF.out.size))
                replace OT := Lib.hid (OT.out.below bz)
                replace OS := Lib.hid (OS.out.below bz)
                replace OC := Lib.hid (OC.out.below bz)
                replace XF := Lib.hid (qblk bz XF.out)
                clear bz
                clear BV
                clear hi2
                have RO := Lib.hid (ROU.out Z1 BF.out)
                have HR := Lib.hid (HRU.out Z1 BF.out)
                go_upto_region 22 with fail
                have zy : yn < f.kinds.length := YL.out
                have zx : x2 < f.kinds.length := X2L.out
                have za : at_ < todo.length := HAT.out
                have hd : Below Z1.heap.size Z1 Z1.drew := (Below.refl _ _).drew
                replace BF := Lib.hid (BF.out.trans (hd.mono BF.out.size))
                replace OT := Lib.hid (OT.out.below hd)
                replace OS := Lib.hid (OS.out.below hd)
                replace OC := Lib.hid (OC.out.below hd)
                replace RO := Lib.hid (RO.out.below hd)
                replace HR := Lib.hid (HR.out.below hd)
                replace XF := Lib.hid (qblk hd XF.out)
                clear hd
                refine zD (fun W => Below Z1.drew.heap.size Z1.drew W) (Below.refl _ _) (fun hHeld => ?_)
                have BV := Lib.hid hHeld
                generalize Z1.drew = V2 at *
                refine zW 0 rfl (.int .i64 0) ?_
                refine zW 1 rfl (.bool false) (hy := .inl ⟨by kernel_rfl, by intro W hW; (try rw [hW]); go_simp; (try simp)⟩) ?_
                refine zW 2 rfl (.bool false) ?_
                refine zW 3 rfl (.slice (some ⟨ob, oo, none⟩) f.kinds.length oc) ?_
                refine zW 4 rfl (.int .i64 (yn : Int)) ?_
                refine zW 5 rfl (.pointer (some ⟨ob, oo + yn, none⟩)) ?_
                refine zS 6 rfl (.int .i64 (ofK f yn)) (fun W hW => by have c := rdi_at (RO.out.below hW) (ofL_at YL.out); go_simp) ?_
                refine zW 7 rfl (.int .i64 (i : Int)) ?_
                refine zW 8 rfl (.bool bi) (hy := .inl ⟨by kernel_rfl, by intro W _; go_simp; first | done | exact hbi.out⟩) ?_
                refine zW 9 rfl (.pointer (some ⟨p, 3, none⟩)) ?_
                refine zS 10 rfl (.slice (some ⟨kb, ko, none⟩) f.kinds.length n) (fun W hW => by have c := qcell (qblk hW XF.out) 3 (.slice (some ⟨kb, ko, none⟩) f.kinds.length n) rfl; go_simp) ?_
                refine zW 11 rfl (.int .i64 (yn : Int)) ?_
                refine zW 12 rfl (.pointer (some ⟨kb, ko + yn, none⟩)) ?_
                refine zS 13 rfl (.int .i64 (f.kat yn)) (fun W hW => by have c := rdi_at (HR.out.below hW) (FaceV.kat_at YL.out); go_simp) ?_
                refine zW 14 rfl (.bool bx) (hy := .inl ⟨by kernel_rfl, by intro W _; go_simp; first | done | exact hbx.out⟩) ?_
                refine zW 15 rfl (.pointer (some ⟨p, 3, none⟩)) ?_
                refine zS 16 rfl (.slice (some ⟨kb, ko, none⟩) f.kinds.length n) (fun W hW => by have c := qcell (qblk hW XF.out) 3 (.slice (some ⟨kb, ko, none⟩) f.kinds.length n) rfl; go_simp) ?_
                refine zW 17 rfl (.slice (some ⟨tb, 0, none⟩) todo.length tc) ?_
                refine zW 18 rfl (.int .i64 (at_ : Int)) ?_
                refine zW 19 rfl (.pointer (some ⟨tb, at_, none⟩)) ?_
                refine zS 20 rfl (.int .i64 (x2 : Int)) (fun W hW => by have c := rdi_at (OT.out.below hW).rd HXN.out; rw [Nat.zero_add] at c; go_simp; (try rfl)) ?_
                refine zW 21 rfl (.pointer (some ⟨kb, ko + x2, none⟩)) ?_
                refine zS 22 rfl (.int .i64 (f.kat x2)) (fun W hW => by have c := rdi_at (HR.out.below hW) (FaceV.kat_at X2L.out); go_simp) ?_
                refine zW 23 rfl (.bool bz) (hy := .inl ⟨by kernel_rfl, by intro W _; go_simp; first | done | exact hbz.out⟩) ?_
                refine zW 24 rfl (.bool (bx == bz)) (hy := .inl ⟨by kernel_rfl, by intro W _; cases bx <;> cases bz <;> rfl⟩) ?_
                refine zW 25 rfl (.bool false) (hy := .inl ⟨by kernel_rfl, by intro W _; rw [EQB.out]; cases bx <;> cases bz <;> rfl⟩) ?_
                refine zW 26 rfl (.bool false) ?_
                refine zE ?_
                have bz := BV.out
                replace BF := Lib.hid (BF.out.trans (bz.mono BF.out.size))
                replace OT := Lib.hid (OT.out.below bz)
                replace OS := Lib.hid (OS.out.below bz)
                replace OC := Lib.hid (OC.out.below bz)
                replace RO := Lib.hid (RO.out.below bz)
                replace HR := Lib.hid (HR.out.below bz)
                replace XF := Lib.hid (qblk bz XF.out)
                clear bz
                clear BV
                go_upto_region 24 with fail
                refine yB ?_
                refine yM (.slice (some ⟨ob, oo, none⟩) f.kinds.length oc) ?_
                refine yM (.int .i64 (yn : Int)) ?_
                refine yW (.pointer (some ⟨ob, oo + yn, none⟩)) ?_
                refine yW (.int .i64 (ofK f yn)) ?_ (.inl ⟨by kernel_rfl, by intro W hW; rw [hW]; have c := rdi_at (RO.out) (ofL_at YL.out); go_simp⟩)
                refine yM (.int .i64 (i : Int)) ?_
                cases hb9 : bi
                · refine yW (.bool false) ?_ (.inl ⟨by kernel_rfl, by intro W hW; rw [hW]; have h9 := hbi.out; go_simp; first | done | exact h9⟩)
                  refine yMs [.bool false, undef, undef, undef, undef, undef, .bool false] (fun W => ⟨.inl ⟨by kernel_rfl, by kernel_rfl⟩, .inr ⟨by kernel_rfl, rfl⟩, .inr ⟨by kernel_rfl, rfl⟩, .inr ⟨by kernel_rfl, rfl⟩, .inr ⟨by kernel_rfl, rfl⟩, .inr ⟨by kernel_rfl, rfl⟩, .inl ⟨by kernel_rfl, by kernel_rfl⟩, trivial⟩) ?_
                  refine yE ?_
                  have GOT2 := Lib.hid (mem_take_succ HY.out GOT.out (P := fun y => (regionsF f).1 y = some (i : Int) → y ∈ todo) (fun h => by have h2 := BIY.out.2 h; rw [hb9] at h2; cases h2))
                  clear RO HR
                  go_upto_region 20 with fail
                  clear zy zx za
                  have hk64 := HK64.out
                  go_wp2_with fail
                  go_roundw
                  case rel => exact ⟨k + 1, todo, some ⟨tb, 0, none⟩, tc, rfl, by simp, by omega, BF, XF, OT, OS, OC, BI, HX1, GOT2⟩
                  case measure => simp [intOf]; omega
                · refine yW (.bool true) ?_ (.inl ⟨by kernel_rfl, by intro W hW; rw [hW]; have h9 := hbi.out; go_simp; first | done | exact h9⟩)
                  refine yMs [.bool true, .slice (some ⟨gs, 0, none⟩) f.kinds.length f.kinds.length, .int .i64 (yn : Int)] (fun W => ⟨.inl ⟨by kernel_rfl, by kernel_rfl⟩, .inl ⟨by kernel_rfl, by kernel_rfl⟩, .inl ⟨by kernel_rfl, by kernel_rfl⟩, trivial⟩) ?_
                  refine yW (.pointer (some ⟨gs, yn, none⟩)) ?_
                  cases hm9 : decide ((yn : Int) ∈ todo)
                  · refine yW (.bool false) ?_ (.inl ⟨by kernel_rfl, by intro W hW; rw [hW]; have c := (OS.out.put YL.out true).2.1; rw [seenL_at YL.out, Option.getD_some, hm9] at c; go_simp⟩)
                    refine yM (.bool true) ?_
                    refine yM (.bool true) ?_
                    refine yE ?_
                    clear RO HR
                    go_upto_region 25 with fail
                    refine yB ?_
                    refine yM (.slice (some ⟨gs, 0, none⟩) f.kinds.length f.kinds.length) ?_
                    refine yM (.int .i64 (yn : Int)) ?_
                    refine yW (.pointer (some ⟨gs, yn, none⟩)) ?_
                    refine yR (fun K hK => ?_)
                    have OP := Lib.hid (OS.out.put YL.out true)
                    have cc := OP.out.2.1
                    have cf := OP.out.2.2.1
                    go_simp
                    clear cc cf
                    obtain ⟨cur9, hcur⟩ := OP.out.2.2.2.2.2
                    have HG9 := OP.out.2.2.2.1
                    replace BF := Lib.hid (qstep BF.out HG9 OP.out.2.2.2.2.1)
                    replace XF := Lib.hid (blk_putB XF.out HG9 hcur (by decide))
                    replace OT := Lib.hid (OwnI.putB2 OT.out HG9 hcur)
                    replace OC := Lib.hid (OwnC.putB2 OC.out HG9 hcur)
                    replace OS := Lib.hid OP.out.1
                    clear OP hcur HG9
                    generalize V2.setCell ⟨gs, yn, none⟩ (.bool true) = X5 at *
                    rw [seenL_set YL.out] at OS
                    refine yK hK ?_
                    clear hK K
                    refine yE ?_
                    go_upto_region 26 with fail
                    refine yB ?_
                    refine yM (.slice (some ⟨tb, 0, none⟩) todo.length tc) ?_
                    refine yM (.int .i64 (yn : Int)) ?_
                    refine yR (fun K hK => ?_)
                    refine qbuild (w' := X5.alloc (.cells #[.int .i64 (yn : Int)] 3)) (.slice (some ⟨X5.heap.size, 0, none⟩) 1 1) (by kernel_rfl) ?_
                    have LI := Lib.hid (lit_int X5 (yn : Int))
                    have b := zB X5 (.cells #[.int .i64 (yn : Int)] 3)
                    obtain ⟨y9, hy9⟩ : ∃ x, Hid (X5.heap.size = x) := ⟨_, Lib.hid rfl⟩
                    replace BF := Lib.hid (BF.out.trans (b.mono BF.out.size))
                    replace OT := Lib.hid (OT.out.below b)
                    replace OS := Lib.hid (OS.out.below b)
                    replace OC := Lib.hid (OC.out.below b)
                    replace XF := Lib.hid (qblk b XF.out)
                    clear b
                    rw [hy9.out] at LI ⊢
                    generalize hV9 : X5.alloc (.cells #[.int .i64 (yn : Int)] 3) = X6 at *
                    clear hV9
                    refine yK hK ?_
                    clear hK K
                    refine yR (fun K hK => ?_)
                    obtain ⟨ta2, tc2, X7, hrun, ho7, hk7, hb7⟩ := run_app_q X6 w.heap.size (some ⟨tb, 0, none⟩) todo.length tc todo OT.out (some ⟨y9, 0, none⟩) 1 1 [(yn : Int)] LI.out (by have := TLE.out; have := CSB.out; omega) BF.out.size
                    refine qappend _ _ _ rfl _ _ _ rfl rfl hrun ?_
                    clear hrun
                    replace OT := Lib.hid (show OwnI w X7 ta2 (todo.length + 1) tc2 (todo ++ [(yn : Int)]) from ho7)
                    replace BF := Lib.hid (hb7 _ BF.out)
                    replace XF := Lib.hid (hk7 _ _ XF.out (by simp))
                    replace OS := Lib.hid (OwnB.keep2 OS.out hk7)
                    replace OC := Lib.hid (OwnC.keep2 OC.out hk7)
                    clear ho7 hk7 hb7 LI
                    refine yK hK ?_
                    clear hK K
                    refine yM (.slice ta2 (todo.length + 1) tc2) ?_
                    refine yE ?_
                    have EL : Hid ((todo ++ [(yn : Int)]).length = todo.length + 1) := Lib.hid (by simp)
                    have GOT2 := Lib.hid (mem_take_succ HY.out (fun z hz => fun h => List.mem_append_left [(yn : Int)] (GOT.out z hz h)) (P := fun y => (regionsF f).1 y = some (i : Int) → y ∈ todo ++ [(yn : Int)]) (fun _ => by simp))
                    have BI2 := Lib.hid (BI.out.push (Nat.le_of_lt HAT.out) (BIY.out.1 hb9) (of_decide_eq_false hm9))
                    have HX2 : Hid ((todo ++ [(yn : Int)])[at_]? = some x) := Lib.hid (by rw [List.getElem?_append_left HAT.out]; exact HX1.out)
                    go_upto_region 20 with fail
                    clear zy zx za
                    have hk64 := HK64.out
                    go_wp2_with fail
                    go_roundw
                    case rel =>
                      refine ⟨k + 1, todo ++ [(yn : Int)], ta2, tc2, by rw [EL.out], by simp, by omega, BF, XF, ?_, OS, OC, BI2, HX2, GOT2⟩
                      rw [EL.out]; exact OT
                    case measure => simp [intOf]; omega
                  · refine yW (.bool true) ?_ (.inl ⟨by kernel_rfl, by intro W hW; rw [hW]; have c := (OS.out.put YL.out true).2.1; rw [seenL_at YL.out, Option.getD_some, hm9] at c; go_simp⟩)
                    refine yM (.bool false) ?_
                    refine yM (.bool false) ?_
                    refine yE ?_
                    have GOT2 := Lib.hid (mem_take_succ HY.out GOT.out (P := fun y => (regionsF f).1 y = some (i : Int) → y ∈ todo) (fun _ => of_decide_eq_true hm9))
                    clear RO HR
                    go_upto_region 20 with fail
                    clear zy zx za
                    have hk64 := HK64.out
                    go_wp2_with fail
                    go_roundw
                    case rel => exact ⟨k + 1, todo, some ⟨tb, 0, none⟩, tc, rfl, by simp, by omega, BF, XF, OT, OS, OC, BI, HX1, GOT2⟩
                    case measure => simp [intOf]; omega
              · have t0 : decide ((k : Int) < (NB : Int)) = false := by simp; omega
                have TA : Hid (NL.take k = NL) := Lib.hid (by rw [List.take_of_length_le (by rw [hNB.out]; omega)])
                rw [TA.out] at GOT
                have BI2 := Lib.hid (BI.out.next HX1.out (fun y hy => by rw [hNL.out] at hy; exact GOT.out y hy))
                go_upto_region 12 with fail
                clear t0
                have ha64 := HA64.out
                go_wp2_with fail
                go_roundw
                case rel => exact ⟨at_ + 1, todo, ta, tc, rfl, by simp, by simp, by have := HAT.out; omega, BF, XF, OT, OS, BI2⟩
                case measure => have h1 := HAT.out; have h2 := TLE.out; simp [intOf]; omega
        · have t0 : decide ((at_ : Int) < (todo.length : Int)) = false := by simp; omega
          have e : at_ = todo.length := by omega
          have TD : Hid (at_ = CL) := Lib.hid (by
            have h1 := BI.out
            rw [e] at h1
            rw [e, ← hCL.out, CSE.out]
            exact h1.done HV.out)
          have LC := Lib.hid (LCU.out wr BF.out)
          go_upto_region 27 with fail
          clear t0
          have zi : i < NS := HIN.out
          refine yB ?_
          refine yMs [.int .i64 (at_ : Int), .slice (some ⟨R, off, none⟩) NS lm, .int .i64 (i : Int)] (fun W => ⟨.inl ⟨by kernel_rfl, by kernel_rfl⟩, .inl ⟨by kernel_rfl, by kernel_rfl⟩, .inl ⟨by kernel_rfl, by kernel_rfl⟩, trivial⟩) ?_
          refine yW (.pointer (some ⟨R, off + i, none⟩)) ?_
          refine yW (.slice (some ⟨gj, oj, none⟩) CL cj) ?_ (.inl ⟨by kernel_rfl, by intro W hW; rw [hW]; have c := (LC.out).cell; rw [hCL.out] at c; go_simp; (try rfl)⟩)
          refine yW (.int .i64 (CL : Int)) ?_
          refine yW (.bool false) ?_ (.inl ⟨by kernel_rfl, by intro W hW; rw [hW]; go_simp; have h9 := TD.out; first | done | omega | (simp; done) | (simp; omega)⟩)
          refine yE ?_
          go_upto_region 3 with fail
          clear zi
          have hi64 := HI64.out
          go_wp2_with fail
          go_roundw
          case rel => exact ⟨i + 1, by simp, by omega, BF, XF⟩
          case measure => simp [intOf]; omega
    · have t0 : decide ((i : Int) < (NS : Int)) = false := by simp; omega
      go_wp2_with fail
      go_ret
      exact ⟨rfl, BF.out⟩
end Go.Proofs.YtimmadkbkimonaaGreatDoor
namespace Go.Proofs.YtimmadkbkimonaaGreatDoor
set_option linter.unusedSimpArgs false
set_option linter.unusedVariables false
open Go.RowKit

def regionOfP (f : FaceV) (c : CellV) : Int × Int := if askedF f c = 0 then (((regionsF f).1 (indexF f c.1 c.2)).getD 0, 0) else (0, askedF f c)
set_option maxHeartbeats 4000000 in
set_option maxRecDepth 100000 in
theorem regionOf_any (f : FaceV) (a : Option Addr) (n : Nat) (c : CellV) (w : World) (hr : RdI w a f.kinds.length n f.kinds) :
    Calls Tryz.prog 26 #[.agg (f.cells a n), .agg (cellA c)] w fun e w' => e = .returned (.tuple #[.int .i64 (regionOfP f c).1, .int .i64 (regionOfP f c).2]) ∧ Below w.heap.size w w' := by
  have HR := Lib.hid hr
  clear hr
  have AL := Lib.hid (al2 w (.cells (f.cells a n) 28) (.cells (cellA c) 41))
  go_enter Tryz.func26, Tryz.ntmps26
  go_upto_region 1 with fail
  obtain ⟨p, hp⟩ : ∃ p, Hid (w.heap.size = p) := ⟨_, Lib.hid rfl⟩
  obtain ⟨q, hq⟩ : ∃ q, Hid (w.heap.size + 1 = q) := ⟨_, Lib.hid rfl⟩
  rw [hq.out] at AL ⊢
  rw [hp.out] at AL ⊢
  generalize ((w.alloc (.cells (f.cells a n) 28)).alloc (.cells (cellA c) 41)) = W0 at *
  have BF : Hid (Below w.heap.size w W0) := Lib.hid (by rw [hp.out]; exact AL.out.1)
  have XF : Hid (W0.heap[p]? = some (.cells (f.cells a n) 28 (0, 0))) := Lib.hid AL.out.2.1
  have XC : Hid (W0.heap[q]? = some (.cells (cellA c) 41 (0, 0))) := Lib.hid AL.out.2.2
  clear AL
  have c0 := qcell XF.out 0 (.int .i64 f.eye) rfl
  have c1 := qcell XF.out 1 (.int .i64 f.rings) rfl
  have c2 := qcell XF.out 2 (.int .i64 f.sectors) rfl
  have c3 := qcell XF.out 3 (.slice a f.kinds.length n) rfl
  have d0 := qcell XC.out 0 (.int .i64 c.1) rfl
  have d1 := qcell XC.out 1 (.int .i64 c.2) rfl
  clear c0 c1 c2 c3 d0 d1
  replace HR := Lib.hid (HR.out.below BF.out)
  obtain ⟨A, hA⟩ : ∃ z, Hid (askedF f c = z) := ⟨_, Lib.hid rfl⟩
  go_upto_region 1 with fail
  refine yB ?_
  refine yW (.agg (f.cells a n)) ?_ (qyrow (by kernel_rfl) 28 _ rfl p rfl _ 28 (0, 0) _ (fun W hW => by rw [hW]; exact XF.out) Tryz.underlying28 rfl (by exact (qJF f a n)))
  refine yW (.agg (cellA c)) ?_ (qyrow (by kernel_rfl) 41 _ rfl q rfl _ 41 (0, 0) _ (fun W hW => by rw [hW]; exact XC.out) Tryz.underlying41 rfl (by exact (qJC c)))
  refine yR (fun K hK => ?_)
  go_simp
  refine (asked_any f a n c _ HR.out).mono ?_
  rintro e U1 ⟨rfl, b⟩
  replace BF := Lib.hid (BF.out.trans (b.mono BF.out.size))
  replace HR := Lib.hid (HR.out.below b)
  replace XF := Lib.hid (qblk b XF.out)
  replace XC := Lib.hid (qblk b XC.out)
  clear b
  rw [hA.out]
  try dsimp only
  refine yK hK ?_
  clear hK K
  refine yM (.int .i64 A) ?_
  refine yE ?_
  cases hq : decide (A ≠ 0)
  · have AZ : Hid (A = 0) := Lib.hid (by simpa using hq)
    have AK := Lib.hid (asked_zero.1 (hA.out.trans AZ.out))
    have HV := Lib.hid AK.out.1
    have HI := Lib.hid (index_back HV.out AK.out.2).1
    have IV := Lib.hid (FaceV.int HV.out)
    have HC := Lib.hid (hasF_iff.1 AK.out.2)
    have LL := Lib.hid (FaceV.len_le HV.out)
    have RF := Lib.hid (regF HV.out)
    obtain ⟨o, ho⟩ : ∃ o, Hid ((regionsF f).1 = o) := ⟨_, Lib.hid rfl⟩
    obtain ⟨M, hM⟩ : ∃ M, Hid ((regionsF f).2 = M) := ⟨_, Lib.hid rfl⟩
    obtain ⟨I, hI⟩ : ∃ I, Hid (indexF f c.1 c.2 = I) := ⟨_, Lib.hid rfl⟩
    rw [hI.out] at HI
    rw [ho.out] at RF
    obtain ⟨r, hr⟩ : ∃ r, Hid (o I = some r) := by
      obtain ⟨r, h⟩ := Option.isSome_iff_exists.1 (RF.out.dn I.toNat (by have := HI.out; omega))
      exact ⟨r, Lib.hid (by have h0 := HI.out.1; rw [show ((I.toNat : Nat) : Int) = I by omega] at h; exact h)⟩
    have HKI : Hid (I64q I) := Lib.hid (by have h1 := HI.out; have h2 := LL.out; unfold I64q; omega)
    have RP : Hid (regionOfP f c = (r, 0)) := Lib.hid (by unfold regionOfP; rw [hA.out, AZ.out, if_pos rfl, ho.out, hI.out, hr.out]; rfl)
    rw [AZ.out]
    go_upto_region 2 with fail
    refine yB ?_
    refine yM (.int .i64 0) ?_
    refine yW (.bool false) ?_
    refine yE ?_
    go_upto_region 4 with fail
    refine yB ?_
    refine yW (.agg (f.cells a n)) ?_ (qyrow (by kernel_rfl) 28 _ rfl p rfl _ 28 (0, 0) _ (fun W hW => by rw [hW]; exact XF.out) Tryz.underlying28 rfl (by exact (qJF f a n)))
    refine yR (fun K hK => ?_)
    go_simp
    refine (regions_any f a n _ HV.out HR.out).mono ?_
    rintro e U2 ⟨⟨b0, nm, rfl, mp⟩, b⟩
    rw [ho.out] at mp
    rw [hM.out]
    have MP := Lib.hid mp
    clear mp
    replace BF := Lib.hid (BF.out.trans (b.mono BF.out.size))
    replace HR := Lib.hid (HR.out.below b)
    replace XF := Lib.hid (qblk b XF.out)
    replace XC := Lib.hid (qblk b XC.out)
    clear b
    try dsimp only
    refine yK hK ?_
    clear hK K
    refine yM (.tuple #[.map (some b0), .int .i64 M]) ?_
    refine yM (.map (some b0)) ?_
    refine yM (.int .i64 M) ?_
    refine yM (.map (some b0)) ?_
    refine yM (.int .i64 M) ?_
    refine yE ?_
    go_upto_region 5 with fail
    refine yB ?_
    refine yM (.map (some b0)) ?_
    refine yW (.agg (f.cells a n)) ?_ (qyrow (by kernel_rfl) 28 _ rfl p rfl _ 28 (0, 0) _ (fun W hW => by rw [hW]; exact XF.out) Tryz.underlying28 rfl (by exact (qJF f a n)))
    refine yW (.pointer (some ⟨q, 0, none⟩)) ?_
    refine yW (.int .i64 c.1) ?_ (.inl ⟨by kernel_rfl, by intro W hW; rw [hW]; have c := qcell XC.out 0 (.int .i64 c.1) rfl; go_simp⟩)
    refine yW (.pointer (some ⟨q, 1, none⟩)) ?_
    refine yW (.int .i64 c.2) ?_ (.inl ⟨by kernel_rfl, by intro W hW; rw [hW]; have c := qcell XC.out 1 (.int .i64 c.2) rfl; go_simp⟩)
    refine yR (fun K hK => ?_)
    go_simp
    refine (index_any f a n c.1 c.2 _ (by have := IV.out; omega) (by have := IV.out; have := HC.out; omega)).mono ?_
    rintro e U3 ⟨rfl, b⟩
    replace BF := Lib.hid (BF.out.trans (b.mono BF.out.size))
    replace HR := Lib.hid (HR.out.below b)
    replace MP := Lib.hid (MP.out.below b)
    replace XF := Lib.hid (qblk b XF.out)
    replace XC := Lib.hid (qblk b XC.out)
    clear b
    rw [hI.out]
    try dsimp only
    refine yK hK ?_
    clear hK K
    refine yW (.int .i64 r) ?_ (.inl ⟨by kernel_rfl, by intro W hW; rw [hW]; have c := run_get_q MP.out Tryz.underlying115 HKI.out; rw [hr.out] at c; (try dsimp only [Option.getD] at c); go_simp⟩)
    refine yM (.int .i64 r) ?_
    refine yM (.int .i64 0) ?_
    refine yE ?_
    go_wp2_with fail
    go_ret2
    exact ⟨by rw [RP.out]; rfl, BF.out⟩
  · have hq2 : (A != 0) = true := by simpa using hq
    have RP : Hid (regionOfP f c = (0, A)) := Lib.hid (by unfold regionOfP; rw [hA.out, if_neg (of_decide_eq_true hq)])
    go_upto_region 2 with fail
    refine yB ?_
    refine yM (.int .i64 A) ?_
    refine yW (.bool true) ?_
    refine yE ?_
    go_wp2_with fail
    go_ret2
    exact ⟨by rw [RP.out]; rfl, BF.out⟩
end Go.Proofs.YtimmadkbkimonaaGreatDoor
