/- Parts of the proof, in this order: floor, ValidPattern of the reference; Dress of the reference; StonesDresses is true; What every row of this work shares: a law of the template 'true whatever the input' holds where its call gives true and leaves all old memory; []byte arguments opened; A note, a list of ints, out of a reading; A face out of a reading; what the library's variables hold; A pattern out of a reading. -/
import Derived.Test.YtimmadkbkimonaaGreatDoorRows
import Derived.ProofKit
import Derived.OpenShut
import Derived.Lib.SmallJoins
import Derived.Stop.LaidErr
import Derived.MakeChecks
import Derived.Shelf.Vars
import Derived.Test.YtimmadkbkimonaaGreatDoorKPsd5
set_option linter.unusedSimpArgs false
set_option linter.unusedVariables false
open List renaming getElem_toArray → lq0, getElem_cons_succ → lq1, getElem_cons_zero → lq2, setIfInBounds_toArray → lq3, set_cons_zero → lq4, set_cons_succ → lq5
namespace Go.Proofs.YtimmadkbkimonaaGreatDoor
set_option linter.unusedSimpArgs false
set_option linter.unusedVariables false
open Go.RowKit

theorem rround2_any (p : PatV) (a : Option Addr) (N : Nat) (x : Int) (w : World) (hl : (patF p).kinds.length = N) (hs : 1 ≤ p.harps * p.wide ∧ p.harps * p.wide ≤ 1000000) :
    Calls Tryz.prog 68 #[.agg (faceA p a N), .int .i64 x] w fun e w' => e = .returned (.int .i64 (around x (p.harps * p.wide))) ∧ Below w.heap.size w w' := by
  subst hl
  exact rround_any (patF p) a _ x w hs
theorem rnumber2_any (p : PatV) (a : Option Addr) (N : Nat) (ring x : Int) (w : World) (hl : (patF p).kinds.length = N) (hs : 1 ≤ p.harps * p.wide ∧ p.harps * p.wide ≤ 1000000) (hr : 0 ≤ ring ∧ ring ≤ 1000) :
    Calls Tryz.prog 67 #[.agg (faceA p a N), .agg (cellA (ring, around x (p.harps * p.wide)))] w fun e w' => e = .returned (.int .i64 (indexF (patF p) ring x)) ∧ Below w.heap.size w w' := by
  subst hl
  have h3 : 0 ≤ around x (p.harps * p.wide) ∧ around x (p.harps * p.wide) < p.harps * p.wide := by
    unfold around
    exact ⟨Int.emod_nonneg _ (by omega), Int.emod_lt_of_pos _ (by omega)⟩
  exact rnumber_any (patF p) a _ (ring, around x (p.harps * p.wide)) w hs (by dsimp only; omega) (by dsimp only; omega)
def rRingK (f : FaceV) (p : PatV) (x : FurV) (l : List Int) (h j : Nat) : List Int := ((List.range j).flatMap fun (k : Nat) => cutE f x (x.from_ + k) (h * p.wide)).foldl putE l
theorem rRingK_succ (f : FaceV) (p : PatV) (x : FurV) (l : List Int) (h j : Nat) : rRingK f p x l h (j + 1) = cutK f x (x.from_ + j) (h * p.wide) (rRingK f p x l h j) (wideF x) := by
  unfold rRingK
  rw [List.range_succ, List.flatMap_append, List.foldl_append, List.flatMap_singleton]
  rfl
theorem rRingK_ok {f : FaceV} {p : PatV} {x : FurV} {l : List Int} (h : Nat) (hv : ({ f with kinds := l } : FaceV).valid = true) : ∀ k, ({ f with kinds := rRingK f p x l h k } : FaceV).valid = true
  | 0 => hv
  | k + 1 => by rw [rRingK_succ]; exact cutK_ok (rRingK_ok h hv k) _
theorem rRingK_len (f : FaceV) (p : PatV) (x : FurV) (l : List Int) (h k : Nat) : (rRingK f p x l h k).length = l.length := putE_lens _ _
def rFurK (f : FaceV) (p : PatV) (x : FurV) (l : List Int) (h : Nat) : List Int := ((List.range h).flatMap fun (h : Nat) => (List.range (p.rings - x.from_).toNat).flatMap fun (k : Nat) => cutE f x (x.from_ + k) (h * p.wide)).foldl putE l
theorem rFurK_succ (f : FaceV) (p : PatV) (x : FurV) (l : List Int) (h : Nat) : rFurK f p x l (h + 1) = rRingK f p x (rFurK f p x l h) h (p.rings - x.from_).toNat := by
  unfold rFurK
  rw [List.range_succ, List.flatMap_append, List.foldl_append, List.flatMap_singleton]
  rfl
theorem rFurK_ok {f : FaceV} {p : PatV} {x : FurV} {l : List Int} (h : ({ f with kinds := l } : FaceV).valid = true) : ∀ k, ({ f with kinds := rFurK f p x l k } : FaceV).valid = true
  | 0 => h
  | k + 1 => by rw [rFurK_succ]; exact rRingK_ok _ (rFurK_ok h k) _
theorem rFurK_len (f : FaceV) (p : PatV) (x : FurV) (l : List Int) (k : Nat) : (rFurK f p x l k).length = l.length := putE_lens _ _
def rPatK (p : PatV) (k : Nat) : List Int := (p.furs.take k).foldl (fun l x => (rFurE (patF p) p x).foldl putE l) (patF p).kinds
theorem rPatK_succ (p : PatV) {k : Nat} {x : FurV} (h : p.furs[k]? = some x) : rPatK p (k + 1) = rFurK (patF p) p x (rPatK p k) p.harps.toNat := by
  unfold rPatK
  rw [List.take_add_one, h, List.foldl_append]
  rfl
theorem rPatK_all {p : PatV} (hp : p.valid = true) : ({ patF p with kinds := rPatK p p.furs.length } : FaceV) = dressF p := by
  rw [← rDress_eq hp]
  unfold rPatK rDressF
  rw [List.take_length]
theorem rPatK_ok {p : PatV} (hp : p.valid = true) : ∀ k, ({ patF p with kinds := rPatK p k } : FaceV).valid = true
  | 0 => patF_valid hp
  | k + 1 => by
    rcases Nat.lt_or_ge k p.furs.length with h | h
    · rw [rPatK_succ p (List.getElem?_eq_getElem h)]
      exact rFurK_ok (rPatK_ok hp k) _
    · have : rPatK p (k + 1) = rPatK p k := by unfold rPatK; rw [List.take_of_length_le (by omega), List.take_of_length_le h]
      rw [this]
      exact rPatK_ok hp k
theorem rPatK_len (p : PatV) : ∀ k, (rPatK p k).length = (patF p).kinds.length
  | 0 => rfl
  | k + 1 => by
    rcases Nat.lt_or_ge k p.furs.length with h | h
    · rw [rPatK_succ p (List.getElem?_eq_getElem h), rFurK_len, rPatK_len p k]
    · have : rPatK p (k + 1) = rPatK p k := by unfold rPatK; rw [List.take_of_length_le (by omega), List.take_of_length_le h]
      rw [this, rPatK_len p k]
theorem DrAt.put {w : World} {q z o g N : Nat} {p : PatV} {fa : Option Addr} {fn : Nat} {l : List Int} {W : World} (h : DrAt w q z o g N p fa fn l W) {i : Nat} (hi : i < N) (v : Int) :
    DrAt w q z o g N p fa fn (l.set i v) (W.setCell ⟨g, i, none⟩ (.int .i64 v)) ∧ W.cell? ⟨g, i, none⟩ = some (.int .i64 (l[i]?.getD 0)) ∧ W.frozen? ⟨g, i, none⟩ = false ∧ KeptBut w.heap.size W (W.setCell ⟨g, i, none⟩ (.int .i64 v)) := by
  obtain ⟨cur, hc⟩ := own_block h.own
  obtain ⟨o1, o2, o3, o4⟩ := own_put h.own hi v
  have K := kept_put (i := i) (v := .int .i64 v) hc o4 h.bel.size
  exact ⟨h.cut o1 K, o2, o3, K⟩
theorem rfloor_eq (a b : Int) (hb : 0 < b) : a / b = if a.tmod b < 0 then a.tdiv b - 1 else a.tdiv b := by
  have h4 := Int.mul_ediv_add_emod a b
  have h5 := Int.emod_nonneg a (show b ≠ 0 by omega)
  have h6 := Int.emod_lt_of_pos a hb
  have h1 := Int.mul_tdiv_add_tmod a b
  have h2 := Int.lt_tmod_of_pos a hb
  have h3 := Int.tmod_lt_of_pos a hb
  have key : ∀ (q r : Int), b * q + r = a → 0 ≤ r → r < b → a / b = q := fun q r e r0 r1 => by
    have e2 : b * (a / b - q) = r - a % b := by rw [Int.mul_sub]; omega
    have h7 : a / b - q = 0 := by
      rcases Int.lt_trichotomy (a / b - q) 0 with h | h | h
      · have := Int.mul_le_mul_of_nonneg_left (show a / b - q ≤ -1 by omega) (show 0 ≤ b by omega)
        omega
      · exact h
      · have := Int.mul_le_mul_of_nonneg_left (show 1 ≤ a / b - q by omega) (show 0 ≤ b by omega)
        omega
    omega
  by_cases h : a.tmod b < 0
  · rw [if_pos h]
    exact key _ (a.tmod b + b) (by rw [Int.mul_sub]; omega) (by omega) (by omega)
  · rw [if_neg h]
    exact key _ (a.tmod b) h1 (by omega) h3
set_option maxHeartbeats 4000000 in
set_option maxRecDepth 100000 in
theorem rfloor_any (a b : Int) (w : World) (ha : -1000000 ≤ a ∧ a ≤ 1000000) (hb : 1 ≤ b ∧ b ≤ 1000000) : Calls Tryz.prog 66 #[.int .i64 a, .int .i64 b] w fun e w' => e = .returned (.int .i64 (a / b)) ∧ Below w.heap.size w w' := by
  have NE := Lib.hid (show ¬ b = 0 by omega)
  have FQ := Lib.hid (rfloor_eq a b (by omega))
  have D1 := Lib.hid (show wrap64 (a.tdiv b) = a.tdiv b by
    have h1 : (a.tdiv b).natAbs ≤ a.natAbs := by rw [Int.natAbs_tdiv]; exact Nat.div_le_self _ _
    unfold wrap64
    omega)
  have D2 := Lib.hid (show wrap64 (a.tdiv b - 1) = a.tdiv b - 1 by
    have h1 : (a.tdiv b).natAbs ≤ a.natAbs := by rw [Int.natAbs_tdiv]; exact Nat.div_le_self _ _
    unfold wrap64
    omega)
  clear ha hb
  have ne := NE.out
  obtain ⟨T, hT⟩ : ∃ T, Hid (a.tdiv b = T) := ⟨_, Lib.hid rfl⟩
  obtain ⟨M, hM⟩ : ∃ M, Hid (a.tmod b = M) := ⟨_, Lib.hid rfl⟩
  rw [hT.out, hM.out] at FQ
  rw [hT.out] at D1 D2
  have dd := hT.out
  have mm := hM.out
  have d1 : wrap64 (a.tdiv b) = T := by rw [dd]; exact D1.out
  cases hm : decide (M < 0)
  · have FE := Lib.hid (show a / b = T by rw [FQ.out, if_neg (of_decide_eq_false hm)])
    go_enter Tryz.func66, Tryz.ntmps66
    go_wp2_with fail
    go_ret
    exact ⟨by rw [FE.out]; first | rfl | exact (congrArg (fun z => Ending.returned (.int .i64 z)) (show wrap64 (wrap64 (a.tdiv b)) = wrap64 (a.tdiv b) by rw [hT.out, D1.out, D1.out])) | exact (congrArg (fun z => Ending.returned (.int .i64 z)) (show wrap64 (wrap64 (a.tdiv b)) = T by rw [hT.out, D1.out, D1.out])) | exact (congrArg (fun z => Ending.returned (.int .i64 z)) (show wrap64 (wrap64 T) = T by rw [D1.out, D1.out])) | exact (congrArg (fun z => Ending.returned (.int .i64 z)) D1.out), Below.refl _ _⟩
  · have FE := Lib.hid (show a / b = T - 1 by rw [FQ.out, if_pos (of_decide_eq_true hm)])
    have d2 := D2.out
    go_enter Tryz.func66, Tryz.ntmps66
    go_wp2_with fail
    go_ret
    exact ⟨by rw [FE.out]; first | rfl | exact (congrArg (fun z => Ending.returned (.int .i64 z)) (show wrap64 (wrap64 T - 1) = T - 1 by rw [D1.out, D2.out])) | exact (congrArg (fun z => Ending.returned (.int .i64 z)) (show wrap64 (wrap64 T - 1) = wrap64 (T - 1) by rw [D1.out])), Below.refl _ _⟩
set_option maxHeartbeats 4000000 in
set_option maxRecDepth 100000 in
theorem rwithinB_any (x lo hi : Int) (w : World) : Calls Tryz.prog 72 #[.int .i64 x, .int .i64 lo, .int .i64 hi] w fun e w' => e = .returned (.bool (inB x lo hi)) ∧ Below w.heap.size w w' := by
  refine (rwithin_any x lo hi w).mono ?_
  rintro e w1 ⟨rfl, rfl⟩
  exact ⟨rfl, Below.refl _ _⟩
set_option maxHeartbeats 4000000 in
set_option maxRecDepth 100000 in
theorem rvalidP_any (p : PatV) (fa : Option Addr) (fn : Nat) (w : World) (hr : RdFu w fa p.furs.length fn p.furs) :
    Calls Tryz.prog 15 #[.agg (patA p fa fn)] w fun e w' => e = .returned (.bool p.valid) ∧ Below w.heap.size w w' := by
  have N0 : Hid (inB p.eye 1 16 = false → p.valid = false) := Lib.hid (fun h => by unfold PatV.valid; rw [h]; simp)
  have N1 : Hid (inB p.rings 1 24 = false → p.valid = false) := Lib.hid (fun h => by unfold PatV.valid; rw [h]; simp)
  have N2 : Hid (inB p.harps 1 96 = false → p.valid = false) := Lib.hid (fun h => by unfold PatV.valid; rw [h]; simp)
  have N3 : Hid (inB p.wide 1 96 = false → p.valid = false) := Lib.hid (fun h => by unfold PatV.valid; rw [h]; simp)
  have N4 : Hid (inB (p.harps * p.wide) 2 96 = false → p.valid = false) := Lib.hid (fun h => by unfold PatV.valid; rw [h]; simp)
  have N5 : Hid (¬ p.furs.length ≤ 16 → p.valid = false) := Lib.hid (fun h => by unfold PatV.valid; rw [decide_eq_false h]; simp)
  have NY : Hid (inB p.eye 1 16 = true → inB p.rings 1 24 = true → inB p.harps 1 96 = true → inB p.wide 1 96 = true → inB (p.harps * p.wide) 2 96 = true → p.furs.length ≤ 16 → p.valid = p.furs.all (furB p)) := Lib.hid (fun h0 h1 h2 h3 h4 h5 => by unfold PatV.valid; rw [h0, h1, h2, h3, h4, decide_eq_true h5]; simp)
  have HR := Lib.hid (fun W (hb : Below w.heap.size w W) => hr.below hb)
  clear hr
  have AL := Lib.hid (al1 w (.cells (patA p fa fn) 24))
  go_enter Tryz.func15, Tryz.ntmps15
  go_upto_region 1 with fail
  obtain ⟨q, hq⟩ : ∃ q, Hid (w.heap.size = q) := ⟨_, Lib.hid rfl⟩
  rw [hq.out] at AL ⊢
  generalize (w.alloc (.cells (patA p fa fn) 24)) = W0 at *
  have BF : Hid (Below w.heap.size w W0) := Lib.hid (by rw [hq.out]; exact AL.out.1)
  have XP : Hid (W0.heap[q]? = some (.cells (patA p fa fn) 24 (0, 0))) := Lib.hid AL.out.2
  clear AL
  have c0 := qcell XP.out 0 (.int .i64 p.eye) rfl
  have c1 := qcell XP.out 1 (.int .i64 p.rings) rfl
  have c2 := qcell XP.out 2 (.int .i64 p.harps) rfl
  have c3 := qcell XP.out 3 (.int .i64 p.wide) rfl
  have c4 := qcell XP.out 4 (.slice fa p.furs.length fn) rfl
  clear c0 c1 c2 c3 c4
  replace HR := Lib.hid HR.out
  go_upto_region 1 with fail
  refine yB ?_
  refine yW (.pointer (some ⟨q, 0, none⟩)) ?_
  refine yW (.int .i64 p.eye) ?_ (.inl ⟨by kernel_rfl, by intro W hW; rw [hW]; have c := qcell XP.out 0 (.int .i64 p.eye) rfl; go_simp⟩)
  refine yR (fun K hK => ?_)
  go_simp
  refine (rwithinB_any p.eye 1 16 _).mono ?_
  rintro e U1 ⟨rfl, b⟩
  replace BF := Lib.hid (BF.out.trans (b.mono BF.out.size))
  replace XP := Lib.hid (qblk b XP.out)
  clear b
  cases h0 : inB p.eye 1 16
  · have HN := Lib.hid (N0.out h0)
    clear h0
    try dsimp only
    refine yK hK ?_
    clear hK K
    refine yM (.bool true) ?_
    refine yM (.bool true) ?_
    go_skip
    refine yM (.bool true) ?_
    refine yM (.bool true) ?_
    go_skip
    refine yM (.bool true) ?_
    refine yM (.bool true) ?_
    go_skip
    refine yM (.bool true) ?_
    refine yE ?_
    go_wp2_with fail
    go_ret
    exact ⟨by rw [HN.out]; rfl, BF.out⟩
  · have H0 := Lib.hid h0
    clear h0
    try dsimp only
    refine yK hK ?_
    clear hK K
    refine yM (.bool false) ?_
    refine yM (.bool false) ?_
    refine yW (.pointer (some ⟨q, 1, none⟩)) ?_
    refine yW (.int .i64 p.rings) ?_ (.inl ⟨by kernel_rfl, by intro W hW; rw [hW]; have c := qcell XP.out 1 (.int .i64 p.rings) rfl; go_simp⟩)
    refine yR (fun K hK => ?_)
    go_simp
    refine (rwithinB_any p.rings 1 24 _).mono ?_
    rintro e U2 ⟨rfl, b⟩
    replace BF := Lib.hid (BF.out.trans (b.mono BF.out.size))
    replace XP := Lib.hid (qblk b XP.out)
    clear b
    cases h1 : inB p.rings 1 24
    · have HN := Lib.hid (N1.out h1)
      clear h1
      try dsimp only
      refine yK hK ?_
      clear hK K
      refine yMs [.bool true, .bool true, .bool true] (fun W => ⟨.inl ⟨by kernel_rfl, by kernel_rfl⟩, .inl ⟨by kernel_rfl, by kernel_rfl⟩, .inl ⟨by kernel_rfl, by kernel_rfl⟩, trivial⟩) ?_
      go_skip
      refine yM (.bool true) ?_
      refine yM (.bool true) ?_
      go_skip
      refine yM (.bool true) ?_
      refine yE ?_
      go_wp2_with fail
      go_ret
      exact ⟨by rw [HN.out]; rfl, BF.out⟩
    · have H1 := Lib.hid h1
      clear h1
      try dsimp only
      refine yK hK ?_
      clear hK K
      refine yMs [.bool false, .bool false, .bool false] (fun W => ⟨.inl ⟨by kernel_rfl, by kernel_rfl⟩, .inl ⟨by kernel_rfl, by kernel_rfl⟩, .inl ⟨by kernel_rfl, by kernel_rfl⟩, trivial⟩) ?_
      refine yW (.pointer (some ⟨q, 2, none⟩)) ?_
      refine yW (.int .i64 p.harps) ?_ (.inl ⟨by kernel_rfl, by intro W hW; rw [hW]; have c := qcell XP.out 2 (.int .i64 p.harps) rfl; go_simp⟩)
      refine yR (fun K hK => ?_)
      go_simp
      refine (rwithinB_any p.harps 1 96 _).mono ?_
      rintro e U3 ⟨rfl, b⟩
      replace BF := Lib.hid (BF.out.trans (b.mono BF.out.size))
      replace XP := Lib.hid (qblk b XP.out)
      clear b
      cases h2 : inB p.harps 1 96
      · have HN := Lib.hid (N2.out h2)
        clear h2
        try dsimp only
        refine yK hK ?_
        clear hK K
        refine yMs [.bool true, .bool true, .bool true] (fun W => ⟨.inl ⟨by kernel_rfl, by kernel_rfl⟩, .inl ⟨by kernel_rfl, by kernel_rfl⟩, .inl ⟨by kernel_rfl, by kernel_rfl⟩, trivial⟩) ?_
        go_skip
        refine yM (.bool true) ?_
        refine yE ?_
        go_wp2_with fail
        go_ret
        exact ⟨by rw [HN.out]; rfl, BF.out⟩
      · have H2 := Lib.hid h2
        clear h2
        try dsimp only
        refine yK hK ?_
        clear hK K
        refine yMs [.bool false, .bool false, .bool false] (fun W => ⟨.inl ⟨by kernel_rfl, by kernel_rfl⟩, .inl ⟨by kernel_rfl, by kernel_rfl⟩, .inl ⟨by kernel_rfl, by kernel_rfl⟩, trivial⟩) ?_
        refine yW (.pointer (some ⟨q, 3, none⟩)) ?_
        refine yW (.int .i64 p.wide) ?_ (.inl ⟨by kernel_rfl, by intro W hW; rw [hW]; have c := qcell XP.out 3 (.int .i64 p.wide) rfl; go_simp⟩)
        refine yR (fun K hK => ?_)
        go_simp
        refine (rwithinB_any p.wide 1 96 _).mono ?_
        rintro e U4 ⟨rfl, b⟩
        replace BF := Lib.hid (BF.out.trans (b.mono BF.out.size))
        replace XP := Lib.hid (qblk b XP.out)
        clear b
        cases h3 : inB p.wide 1 96
        · have HN := Lib.hid (N3.out h3)
          clear h3
          try dsimp only
          refine yK hK ?_
          clear hK K
          refine yM (.bool true) ?_
          refine yM (.bool true) ?_
          refine yE ?_
          go_wp2_with fail
          go_ret
          exact ⟨by rw [HN.out]; rfl, BF.out⟩
        · have H3 := Lib.hid h3
          clear h3
          try dsimp only
          refine yK hK ?_
          clear hK K
          refine yM (.bool false) ?_
          refine yM (.bool false) ?_
          refine yE ?_
          go_upto_region 3 with fail
          refine yB ?_
          refine yW (.pointer (some ⟨q, 2, none⟩)) ?_
          refine yW (.int .i64 p.harps) ?_ (.inl ⟨by kernel_rfl, by intro W hW; rw [hW]; have c := qcell XP.out 2 (.int .i64 p.harps) rfl; go_simp⟩)
          refine yW (.pointer (some ⟨q, 3, none⟩)) ?_
          refine yW (.int .i64 p.wide) ?_ (.inl ⟨by kernel_rfl, by intro W hW; rw [hW]; have c := qcell XP.out 3 (.int .i64 p.wide) rfl; go_simp⟩)
          have ws := Lib.hid (show wrap64 (p.harps * p.wide) = p.harps * p.wide by
            have h2 := inB_true.1 H2.out
            have h3 := inB_true.1 H3.out
            have h5 : p.harps * p.wide ≤ 96 * 96 := Int.mul_le_mul (by omega) (by omega) (by omega) (by omega)
            have h6 := Int.mul_nonneg (show 0 ≤ p.harps by omega) (show 0 ≤ p.wide by omega)
            unfold wrap64
            omega)
          refine yW (.int .i64 (p.harps * p.wide)) ?_ (.inl ⟨by kernel_rfl, by intro W hW; rw [hW]; go_simp; exact (IntWalk.i64_left _).trans ws.out⟩)
          refine yR (fun K hK => ?_)
          go_simp
          refine (rwithinB_any (p.harps * p.wide) 2 96 _).mono ?_
          rintro e U5 ⟨rfl, b⟩
          replace BF := Lib.hid (BF.out.trans (b.mono BF.out.size))
          replace XP := Lib.hid (qblk b XP.out)
          clear b
          cases h4 : inB (p.harps * p.wide) 2 96
          · have HN := Lib.hid (N4.out h4)
            clear h4
            try dsimp only
            refine yK hK ?_
            clear hK K
            refine yM (.bool true) ?_
            refine yM (.bool true) ?_
            go_skip
            refine yM (.bool true) ?_
            refine yE ?_
            go_wp2_with fail
            go_ret
            exact ⟨by rw [HN.out]; rfl, BF.out⟩
          · have H4 := Lib.hid h4
            clear h4
            try dsimp only
            refine yK hK ?_
            clear hK K
            refine yM (.bool false) ?_
            refine yM (.bool false) ?_
            refine yW (.pointer (some ⟨q, 4, none⟩)) ?_
            refine yW (.slice fa p.furs.length fn) ?_ (.inl ⟨by kernel_rfl, by intro W hW; rw [hW]; have c := qcell XP.out 4 (.slice fa p.furs.length fn) rfl; go_simp⟩)
            refine yW (.int .i64 (p.furs.length : Int)) ?_
            cases h5 : decide ((16 : Int) < (p.furs.length : Int))
            · refine yW (.bool false) ?_ 
              refine yM (.bool false) ?_
              refine yE ?_
              have FL : Hid (p.furs.length ≤ 16) := Lib.hid (by have := of_decide_eq_false h5; omega)
              have HY := Lib.hid (NY.out H0.out H1.out H2.out H3.out H4.out FL.out)
              have HW := Lib.hid (And.intro (inB_true.1 H3.out) (inB_true.1 H1.out))
              clear N0 N1 N2 N3 N4 N5 NY H0 H1 H2 H3 H4
              go_wp2_with fail
              go_loopw [3] (fun v wr => ∃ k : Nat, v = .int .i64 (k : Int) ∧ k ≤ p.furs.length ∧ Hid (∀ j y, j < k → p.furs[j]? = some y → furB p y = true) ∧ Hid (Below w.heap.size w wr) ∧ Hid (wr.heap[q]? = some (.cells (patA p fa fn) 24 (0, 0)))) (fun v _ => p.furs.length - (intOf v).toNat)
              case atStart => exact ⟨0, rfl, Nat.zero_le _, Lib.hid (fun j y hj => by omega), BF, XP⟩
              case round =>
                clear BF XP
                obtain ⟨k, rfl, hk, KK, BF, XP⟩ := hrel
                have c4 := qcell XP.out 4 (.slice fa p.furs.length fn) rfl
                by_cases hkn : k < p.furs.length
                · have t0 : decide ((k : Int) < (p.furs.length : Int)) = true := by simp; omega
                  have HK64 : Hid ((k : Int) + 1 ≤ 9223372036854775807) := Lib.hid (by have := FL.out; omega)
                  obtain ⟨x, hx⟩ : ∃ x, p.furs[k]? = some x := ⟨_, List.getElem?_eq_getElem hkn⟩
                  have HX := Lib.hid hx
                  have HM := Lib.hid (List.mem_of_getElem? hx)
                  obtain ⟨b, off, hfa, x0, x1, x2, x3, x4, x5⟩ := (HR.out wr BF.out).get hx
                  subst hfa
                  obtain ⟨o1, ho1⟩ : ∃ o1, Hid (off + k * 6 = o1) := ⟨_, Lib.hid rfl⟩
                  rw [ho1.out] at x0 x1 x2 x3 x4 x5
                  have I6 : (Tryz.prog.info? 76).map (·.size) = some 6 := by kernel_rfl
                  have hi := fun W => qidx (W := W) (c := fn) (b := b) Tryz.underlying22 I6 hkn ho1.out
                  clear hx
                  go_upto_region 9 with fail
                  clear x0 x1 x2 x3 x4 x5 hi t0 I6
                  have AL := al1 wr (.cells (furA x) 76)
                  clear c4
                  replace BF := Lib.hid (BF.out.trans (AL.1.mono BF.out.size))
                  replace XP := Lib.hid (qblk AL.1 XP.out)
                  have XU : Hid ((wr.alloc (.cells (furA x) 76)).heap[wr.heap.size]? = some (.cells (furA x) 76 (0, 0))) := Lib.hid AL.2
                  clear AL
                  unfold furA at XU BF XP
                  generalize wr.alloc (.cells #[.int .i64 x.at_, .int .i64 x.from_, .int .i64 x.lean, .int .i64 x.leans, .int .i64 x.steep, .int .i64 x.feather] 76) = X1 at *
                  generalize wr.heap.size = u at *
                  have XU2 : Hid (X1.heap[u]? = some (.cells (furA x) 76 (0, 0))) := Lib.hid XU.out
                  clear XU
                  have M0 : Hid (inB x.at_ 0 (p.wide - 1) = false → furB p x = false) := Lib.hid (fun h => by unfold furB; rw [h]; simp)
                  have M1 : Hid (inB x.from_ 0 (p.rings - 1) = false → furB p x = false) := Lib.hid (fun h => by unfold furB; rw [h]; simp)
                  have M2 : Hid (inB x.lean (-96) 96 = false → furB p x = false) := Lib.hid (fun h => by unfold furB; rw [h]; simp)
                  have M3 : Hid (inB x.leans 1 96 = false → furB p x = false) := Lib.hid (fun h => by unfold furB; rw [h]; simp)
                  have M4 : Hid (inB x.steep 1 p.wide = false → furB p x = false) := Lib.hid (fun h => by unfold furB; rw [h]; simp)
                  have M5 : Hid (inB x.feather 0 p.wide = false → furB p x = false) := Lib.hid (fun h => by unfold furB; rw [h]; simp)
                  have MY : Hid (inB x.at_ 0 (p.wide - 1) = true → inB x.from_ 0 (p.rings - 1) = true → inB x.lean (-96) 96 = true → inB x.leans 1 96 = true → inB x.steep 1 p.wide = true → inB x.feather 0 p.wide = true → furB p x = decide (x.steep + x.feather < p.wide)) := Lib.hid (fun h0 h1 h2 h3 h4 h5 => by unfold furB; rw [h0, h1, h2, h3, h4, h5]; simp)
                  have NB : Hid (furB p x = false → p.valid = false) := Lib.hid (fun h => by
                    rw [HY.out]
                    have h9 : ¬ (p.furs.all (furB p) = true) := fun h8 => by
                      have h7 := List.all_eq_true.1 h8 x HM.out
                      rw [h] at h7
                      cases h7
                    simpa using h9)
                  have ww := Lib.hid (show wrap64 (p.wide - 1) = p.wide - 1 by have := HW.out; unfold wrap64; omega)
                  have wr1 := Lib.hid (show wrap64 (p.rings - 1) = p.rings - 1 by have := HW.out; unfold wrap64; omega)
                  refine yB ?_
                  refine yW (.pointer (some ⟨u, 0, none⟩)) ?_
                  refine yW (.int .i64 x.at_) ?_ (.inl ⟨by kernel_rfl, by intro W hW; rw [hW]; have c := qcell XU2.out 0 (.int .i64 x.at_) rfl; go_simp⟩)
                  refine yW (.pointer (some ⟨q, 3, none⟩)) ?_
                  refine yW (.int .i64 p.wide) ?_ (.inl ⟨by kernel_rfl, by intro W hW; rw [hW]; have c := qcell XP.out 3 (.int .i64 p.wide) rfl; go_simp⟩)
                  refine yW (.int .i64 (p.wide - 1)) ?_ (.inl ⟨by kernel_rfl, by intro W hW; rw [hW]; go_simp; exact (IntWalk.i64_left _).trans ww.out⟩)
                  refine yR (fun K hK => ?_)
                  go_simp
                  refine (rwithinB_any x.at_ 0 (p.wide - 1) _).mono ?_
                  rintro e U1 ⟨rfl, b⟩
                  replace BF := Lib.hid (BF.out.trans (b.mono BF.out.size))
                  replace XP := Lib.hid (qblk b XP.out)
                  replace XU2 := Lib.hid (qblk b XU2.out)
                  clear b
                  cases g0 : inB x.at_ 0 (p.wide - 1)
                  · have HN := Lib.hid (NB.out (M0.out g0))
                    clear g0
                    try dsimp only
                    refine yK hK ?_
                    clear hK K
                    refine yMs [.bool true, .bool true, undef, undef, undef, undef, undef, undef, undef, .bool true, .bool true, undef, undef, undef, undef, .bool true, .bool true, undef, undef, undef, undef, .bool true] (fun W => ⟨.inl ⟨by kernel_rfl, by kernel_rfl⟩, .inl ⟨by kernel_rfl, by kernel_rfl⟩, .inr ⟨by kernel_rfl, rfl⟩, .inr ⟨by kernel_rfl, rfl⟩, .inr ⟨by kernel_rfl, rfl⟩, .inr ⟨by kernel_rfl, rfl⟩, .inr ⟨by kernel_rfl, rfl⟩, .inr ⟨by kernel_rfl, rfl⟩, .inr ⟨by kernel_rfl, rfl⟩, .inl ⟨by kernel_rfl, by kernel_rfl⟩, .inl ⟨by kernel_rfl, by kernel_rfl⟩, .inr ⟨by kernel_rfl, rfl⟩, .inr ⟨by kernel_rfl, rfl⟩, .inr ⟨by kernel_rfl, rfl⟩, .inr ⟨by kernel_rfl, rfl⟩, .inl ⟨by kernel_rfl, by kernel_rfl⟩, .inl ⟨by kernel_rfl, by kernel_rfl⟩, .inr ⟨by kernel_rfl, rfl⟩, .inr ⟨by kernel_rfl, rfl⟩, .inr ⟨by kernel_rfl, rfl⟩, .inr ⟨by kernel_rfl, rfl⟩, .inl ⟨by kernel_rfl, by kernel_rfl⟩, trivial⟩) ?_
                    refine yE ?_
                    go_wp2_with fail
                    go_ret
                    exact ⟨by rw [HN.out]; rfl, BF.out⟩
                  · have G0 := Lib.hid g0
                    clear g0
                    try dsimp only
                    refine yK hK ?_
                    clear hK K
                    refine yM (.bool false) ?_
                    refine yM (.bool false) ?_
                    refine yW (.pointer (some ⟨u, 1, none⟩)) ?_
                    refine yW (.int .i64 x.from_) ?_ (.inl ⟨by kernel_rfl, by intro W hW; rw [hW]; have c := qcell XU2.out 1 (.int .i64 x.from_) rfl; go_simp⟩)
                    refine yW (.pointer (some ⟨q, 1, none⟩)) ?_
                    refine yW (.int .i64 p.rings) ?_ (.inl ⟨by kernel_rfl, by intro W hW; rw [hW]; have c := qcell XP.out 1 (.int .i64 p.rings) rfl; go_simp⟩)
                    refine yW (.int .i64 (p.rings - 1)) ?_ (.inl ⟨by kernel_rfl, by intro W hW; rw [hW]; go_simp; exact (IntWalk.i64_left _).trans wr1.out⟩)
                    refine yR (fun K hK => ?_)
                    go_simp
                    refine (rwithinB_any x.from_ 0 (p.rings - 1) _).mono ?_
                    rintro e U2 ⟨rfl, b⟩
                    replace BF := Lib.hid (BF.out.trans (b.mono BF.out.size))
                    replace XP := Lib.hid (qblk b XP.out)
                    replace XU2 := Lib.hid (qblk b XU2.out)
                    clear b
                    cases g1 : inB x.from_ 0 (p.rings - 1)
                    · have HN := Lib.hid (NB.out (M1.out g1))
                      clear g1
                      try dsimp only
                      refine yK hK ?_
                      clear hK K
                      refine yMs [.bool true, .bool true, .bool true, undef, undef, undef, undef, .bool true, .bool true, undef, undef, undef, undef, .bool true] (fun W => ⟨.inl ⟨by kernel_rfl, by kernel_rfl⟩, .inl ⟨by kernel_rfl, by kernel_rfl⟩, .inl ⟨by kernel_rfl, by kernel_rfl⟩, .inr ⟨by kernel_rfl, rfl⟩, .inr ⟨by kernel_rfl, rfl⟩, .inr ⟨by kernel_rfl, rfl⟩, .inr ⟨by kernel_rfl, rfl⟩, .inl ⟨by kernel_rfl, by kernel_rfl⟩, .inl ⟨by kernel_rfl, by kernel_rfl⟩, .inr ⟨by kernel_rfl, rfl⟩, .inr ⟨by kernel_rfl, rfl⟩, .inr ⟨by kernel_rfl, rfl⟩, .inr ⟨by kernel_rfl, rfl⟩, .inl ⟨by kernel_rfl, by kernel_rfl⟩, trivial⟩) ?_
                      refine yE ?_
                      go_wp2_with fail
                      go_ret
                      exact ⟨by rw [HN.out]; rfl, BF.out⟩
                    · have G1 := Lib.hid g1
                      clear g1
                      try dsimp only
                      refine yK hK ?_
                      clear hK K
                      refine yMs [.bool false, .bool false, .bool false] (fun W => ⟨.inl ⟨by kernel_rfl, by kernel_rfl⟩, .inl ⟨by kernel_rfl, by kernel_rfl⟩, .inl ⟨by kernel_rfl, by kernel_rfl⟩, trivial⟩) ?_
                      refine yW (.pointer (some ⟨u, 2, none⟩)) ?_
                      refine yW (.int .i64 x.lean) ?_ (.inl ⟨by kernel_rfl, by intro W hW; rw [hW]; have c := qcell XU2.out 2 (.int .i64 x.lean) rfl; go_simp⟩)
                      refine yR (fun K hK => ?_)
                      go_simp
                      refine (rwithinB_any x.lean (-96) 96 _).mono ?_
                      rintro e U3 ⟨rfl, b⟩
                      replace BF := Lib.hid (BF.out.trans (b.mono BF.out.size))
                      replace XP := Lib.hid (qblk b XP.out)
                      replace XU2 := Lib.hid (qblk b XU2.out)
                      clear b
                      cases g2 : inB x.lean (-96) 96
                      · have HN := Lib.hid (NB.out (M2.out g2))
                        clear g2
                        try dsimp only
                        refine yK hK ?_
                        clear hK K
                        refine yMs [.bool true, .bool true, .bool true, undef, undef, undef, undef, .bool true] (fun W => ⟨.inl ⟨by kernel_rfl, by kernel_rfl⟩, .inl ⟨by kernel_rfl, by kernel_rfl⟩, .inl ⟨by kernel_rfl, by kernel_rfl⟩, .inr ⟨by kernel_rfl, rfl⟩, .inr ⟨by kernel_rfl, rfl⟩, .inr ⟨by kernel_rfl, rfl⟩, .inr ⟨by kernel_rfl, rfl⟩, .inl ⟨by kernel_rfl, by kernel_rfl⟩, trivial⟩) ?_
                        refine yE ?_
                        go_wp2_with fail
                        go_ret
                        exact ⟨by rw [HN.out]; rfl, BF.out⟩
                      · have G2 := Lib.hid g2
                        clear g2
                        try dsimp only
                        refine yK hK ?_
                        clear hK K
                        refine yMs [.bool false, .bool false, .bool false] (fun W => ⟨.inl ⟨by kernel_rfl, by kernel_rfl⟩, .inl ⟨by kernel_rfl, by kernel_rfl⟩, .inl ⟨by kernel_rfl, by kernel_rfl⟩, trivial⟩) ?_
                        refine yW (.pointer (some ⟨u, 3, none⟩)) ?_
                        refine yW (.int .i64 x.leans) ?_ (.inl ⟨by kernel_rfl, by intro W hW; rw [hW]; have c := qcell XU2.out 3 (.int .i64 x.leans) rfl; go_simp⟩)
                        refine yR (fun K hK => ?_)
                        go_simp
                        refine (rwithinB_any x.leans 1 96 _).mono ?_
                        rintro e U4 ⟨rfl, b⟩
                        replace BF := Lib.hid (BF.out.trans (b.mono BF.out.size))
                        replace XP := Lib.hid (qblk b XP.out)
                        replace XU2 := Lib.hid (qblk b XU2.out)
                        clear b
                        cases g3 : inB x.leans 1 96
                        · have HN := Lib.hid (NB.out (M3.out g3))
                          clear g3
                          try dsimp only
                          refine yK hK ?_
                          clear hK K
                          refine yM (.bool true) ?_
                          refine yM (.bool true) ?_
                          refine yE ?_
                          go_wp2_with fail
                          go_ret
                          exact ⟨by rw [HN.out]; rfl, BF.out⟩
                        · have G3 := Lib.hid g3
                          clear g3
                          try dsimp only
                          refine yK hK ?_
                          clear hK K
                          refine yM (.bool false) ?_
                          refine yM (.bool false) ?_
                          refine yE ?_
                          go_upto_region 11 with fail
                          refine yB ?_
                          refine yW (.pointer (some ⟨u, 4, none⟩)) ?_
                          refine yW (.int .i64 x.steep) ?_ (.inl ⟨by kernel_rfl, by intro W hW; rw [hW]; have c := qcell XU2.out 4 (.int .i64 x.steep) rfl; go_simp⟩)
                          refine yW (.pointer (some ⟨q, 3, none⟩)) ?_
                          refine yW (.int .i64 p.wide) ?_ (.inl ⟨by kernel_rfl, by intro W hW; rw [hW]; have c := qcell XP.out 3 (.int .i64 p.wide) rfl; go_simp⟩)
                          refine yR (fun K hK => ?_)
                          go_simp
                          refine (rwithinB_any x.steep 1 p.wide _).mono ?_
                          rintro e U5 ⟨rfl, b⟩
                          replace BF := Lib.hid (BF.out.trans (b.mono BF.out.size))
                          replace XP := Lib.hid (qblk b XP.out)
                          replace XU2 := Lib.hid (qblk b XU2.out)
                          clear b
                          cases g4 : inB x.steep 1 p.wide
                          · have HN := Lib.hid (NB.out (M4.out g4))
                            clear g4
                            try dsimp only
                            refine yK hK ?_
                            clear hK K
                            refine yMs [.bool true, .bool true, undef, undef, undef, undef, undef, undef, .bool true, .bool true, undef, undef, undef, undef, undef, undef, undef, undef, .bool true] (fun W => ⟨.inl ⟨by kernel_rfl, by kernel_rfl⟩, .inl ⟨by kernel_rfl, by kernel_rfl⟩, .inr ⟨by kernel_rfl, rfl⟩, .inr ⟨by kernel_rfl, rfl⟩, .inr ⟨by kernel_rfl, rfl⟩, .inr ⟨by kernel_rfl, rfl⟩, .inr ⟨by kernel_rfl, rfl⟩, .inr ⟨by kernel_rfl, rfl⟩, .inl ⟨by kernel_rfl, by kernel_rfl⟩, .inl ⟨by kernel_rfl, by kernel_rfl⟩, .inr ⟨by kernel_rfl, rfl⟩, .inr ⟨by kernel_rfl, rfl⟩, .inr ⟨by kernel_rfl, rfl⟩, .inr ⟨by kernel_rfl, rfl⟩, .inr ⟨by kernel_rfl, rfl⟩, .inr ⟨by kernel_rfl, rfl⟩, .inr ⟨by kernel_rfl, rfl⟩, .inr ⟨by kernel_rfl, rfl⟩, .inl ⟨by kernel_rfl, by kernel_rfl⟩, trivial⟩) ?_
                            refine yE ?_
                            go_wp2_with fail
                            go_ret
                            exact ⟨by rw [HN.out]; rfl, BF.out⟩
                          · have G4 := Lib.hid g4
                            clear g4
                            try dsimp only
                            refine yK hK ?_
                            clear hK K
                            refine yM (.bool false) ?_
                            refine yM (.bool false) ?_
                            refine yW (.pointer (some ⟨u, 5, none⟩)) ?_
                            refine yW (.int .i64 x.feather) ?_ (.inl ⟨by kernel_rfl, by intro W hW; rw [hW]; have c := qcell XU2.out 5 (.int .i64 x.feather) rfl; go_simp⟩)
                            refine yW (.pointer (some ⟨q, 3, none⟩)) ?_
                            refine yW (.int .i64 p.wide) ?_ (.inl ⟨by kernel_rfl, by intro W hW; rw [hW]; have c := qcell XP.out 3 (.int .i64 p.wide) rfl; go_simp⟩)
                            refine yR (fun K hK => ?_)
                            go_simp
                            refine (rwithinB_any x.feather 0 p.wide _).mono ?_
                            rintro e U6 ⟨rfl, b⟩
                            replace BF := Lib.hid (BF.out.trans (b.mono BF.out.size))
                            replace XP := Lib.hid (qblk b XP.out)
                            replace XU2 := Lib.hid (qblk b XU2.out)
                            clear b
                            cases g5 : inB x.feather 0 p.wide
                            · have HN := Lib.hid (NB.out (M5.out g5))
                              clear g5
                              try dsimp only
                              refine yK hK ?_
                              clear hK K
                              refine yMs [.bool true, .bool true, .bool true, undef, undef, undef, undef, undef, undef, undef, undef, .bool true] (fun W => ⟨.inl ⟨by kernel_rfl, by kernel_rfl⟩, .inl ⟨by kernel_rfl, by kernel_rfl⟩, .inl ⟨by kernel_rfl, by kernel_rfl⟩, .inr ⟨by kernel_rfl, rfl⟩, .inr ⟨by kernel_rfl, rfl⟩, .inr ⟨by kernel_rfl, rfl⟩, .inr ⟨by kernel_rfl, rfl⟩, .inr ⟨by kernel_rfl, rfl⟩, .inr ⟨by kernel_rfl, rfl⟩, .inr ⟨by kernel_rfl, rfl⟩, .inr ⟨by kernel_rfl, rfl⟩, .inl ⟨by kernel_rfl, by kernel_rfl⟩, trivial⟩) ?_
                              refine yE ?_
                              go_wp2_with fail
                              go_ret
                              exact ⟨by rw [HN.out]; rfl, BF.out⟩
                            · have G5 := Lib.hid g5
                              clear g5
                              try dsimp only
                              refine yK hK ?_
                              clear hK K
                              refine yMs [.bool false, .bool false, .bool false] (fun W => ⟨.inl ⟨by kernel_rfl, by kernel_rfl⟩, .inl ⟨by kernel_rfl, by kernel_rfl⟩, .inl ⟨by kernel_rfl, by kernel_rfl⟩, trivial⟩) ?_
                              refine yW (.pointer (some ⟨u, 4, none⟩)) ?_
                              refine yW (.int .i64 x.steep) ?_ (.inl ⟨by kernel_rfl, by intro W hW; rw [hW]; have c := qcell XU2.out 4 (.int .i64 x.steep) rfl; go_simp⟩)
                              refine yW (.pointer (some ⟨u, 5, none⟩)) ?_
                              refine yW (.int .i64 x.feather) ?_ (.inl ⟨by kernel_rfl, by intro W hW; rw [hW]; have c := qcell XU2.out 5 (.int .i64 x.feather) rfl; go_simp⟩)
                              have wz := Lib.hid (show wrap64 (x.steep + x.feather) = x.steep + x.feather by have h4 := inB_true.1 G4.out; have h5 := inB_true.1 G5.out; have := HW.out; unfold wrap64; omega)
                              have GY := Lib.hid (MY.out G0.out G1.out G2.out G3.out G4.out G5.out)
                              refine yW (.int .i64 (x.steep + x.feather)) ?_ (.inl ⟨by kernel_rfl, by intro W hW; rw [hW]; go_simp; exact (IntWalk.i64_left _).trans wz.out⟩)
                              refine yW (.pointer (some ⟨q, 3, none⟩)) ?_
                              refine yW (.int .i64 p.wide) ?_ (.inl ⟨by kernel_rfl, by intro W hW; rw [hW]; have c := qcell XP.out 3 (.int .i64 p.wide) rfl; go_simp⟩)
                              cases gs : decide (p.wide ≤ x.steep + x.feather)
                              · have GT : Hid (furB p x = true) := Lib.hid (by rw [GY.out, decide_eq_true_eq]; have := of_decide_eq_false gs; omega)
                                refine yW (.bool false) ?_ 
                                refine yM (.bool false) ?_
                                refine yE ?_
                                go_upto_region 7 with fail
                                have hk64 := HK64.out
                                go_wp2_with fail
                                go_roundw
                                case rel => exact ⟨k + 1, by simp, by omega, Lib.hid (fun j y hj hy => by
                                    rcases Nat.lt_or_ge j k with h | h
                                    · exact KK.out j y h hy
                                    · have e : j = k := by omega
                                      subst e
                                      rw [HX.out] at hy
                                      rw [← Option.some.inj hy]
                                      exact GT.out), BF, XP⟩
                                case measure => simp [intOf]; omega
                              · have HN := Lib.hid (NB.out (by rw [GY.out, decide_eq_false_iff_not]; have := of_decide_eq_true gs; omega))
                                refine yW (.bool true) ?_ 
                                refine yM (.bool true) ?_
                                refine yE ?_
                                go_wp2_with fail
                                go_ret
                                exact ⟨by rw [HN.out]; rfl, BF.out⟩
                · have t0 : decide ((k : Int) < (p.furs.length : Int)) = false := by simp; omega
                  have e : k = p.furs.length := by omega
                  subst e
                  have HN : Hid (p.valid = true) := Lib.hid (by
                    rw [HY.out, List.all_eq_true]
                    intro x hx
                    obtain ⟨j, hj, hx2⟩ := List.mem_iff_getElem.1 hx
                    exact KK.out j x hj (by rw [List.getElem?_eq_getElem hj, hx2]))
                  go_wp2_with fail
                  go_ret
                  exact ⟨by rw [HN.out]; rfl, BF.out⟩
            · have HN := Lib.hid (N5.out (by have := of_decide_eq_true h5; omega))
              refine yW (.bool true) ?_ 
              refine yM (.bool true) ?_
              refine yE ?_
              go_wp2_with fail
              go_ret
              exact ⟨by rw [HN.out]; rfl, BF.out⟩
end Go.Proofs.YtimmadkbkimonaaGreatDoor
namespace Go.Proofs.YtimmadkbkimonaaGreatDoor
set_option linter.unusedSimpArgs false
set_option linter.unusedVariables false
open Go.RowKit

set_option maxHeartbeats 4000000 in
set_option maxRecDepth 100000 in
theorem rdressP_any (p : PatV) (fa : Option Addr) (fn : Nat) (w : World) (hr : RdFu w fa p.furs.length fn p.furs) :
    Calls Tryz.prog 13 #[.agg (patA p fa fn)] w fun e w' => (∃ a' n', e = .returned (.tuple #[.agg ((dressP p).1.cells a' n'), .int .i64 (dressP p).2]) ∧ FOwn w w' (dressP p).1 a' n') ∧ Below w.heap.size w w' := by
  have HR := Lib.hid (fun W (hb : Below w.heap.size w W) => hr.below hb)
  have VA := Lib.hid (fun W (hb : Below w.heap.size w W) => rvalidP_any p fa fn W (hr.below hb))
  clear hr
  have AL := Lib.hid (al2 w (.cells (patA p fa fn) 24) (.cells #[.int .i64 0, .int .i64 0, .int .i64 0, .slice none 0 0] 28))
  go_enter Tryz.func13, Tryz.ntmps13
  go_upto_region 1 with fail
  obtain ⟨q, hq⟩ : ∃ q, Hid (w.heap.size = q) := ⟨_, Lib.hid rfl⟩
  obtain ⟨z, hz⟩ : ∃ z, Hid (w.heap.size + 1 = z) := ⟨_, Lib.hid rfl⟩
  rw [hz.out] at AL ⊢
  rw [hq.out] at AL ⊢
  generalize ((w.alloc (.cells (patA p fa fn) 24)).alloc (.cells #[.int .i64 0, .int .i64 0, .int .i64 0, .slice none 0 0] 28)) = W0 at *
  have BF : Hid (Below w.heap.size w W0) := Lib.hid (by rw [hq.out]; exact AL.out.1)
  have XP : Hid (W0.heap[q]? = some (.cells (patA p fa fn) 24 (0, 0))) := Lib.hid AL.out.2.1
  have XZ : Hid (W0.heap[z]? = some (.cells (zeroF.cells none 0) 28 (0, 0))) := Lib.hid AL.out.2.2
  clear AL
  have c0 := qcell XP.out 0 (.int .i64 p.eye) rfl
  have c1 := qcell XP.out 1 (.int .i64 p.rings) rfl
  have c2 := qcell XP.out 2 (.int .i64 p.harps) rfl
  have c3 := qcell XP.out 3 (.int .i64 p.wide) rfl
  have c4 := qcell XP.out 4 (.slice fa p.furs.length fn) rfl
  go_wp2_with (first
    | (refine wpList_load_row rfl 24 _ rfl q rfl 24 (patA p fa fn) (0, 0) _ XP.out Tryz.underlying24 rfl (by exact (qJP p fa fn)) ?_)
    | (refine wpList_load_row rfl 28 _ rfl z rfl 28 (zeroF.cells none 0) (0, 0) _ XZ.out Tryz.underlying28 rfl (by exact (qJF zeroF none 0)) ?_)
    | fail)
  refine (VA.out W0 BF.out).mono ?_
  rintro e V1 ⟨rfl, b⟩
  clear c0 c1 c2 c3 c4
  replace BF := Lib.hid (BF.out.trans (b.mono BF.out.size))
  replace XP := Lib.hid (qblk b XP.out)
  replace XZ := Lib.hid (qblk b XZ.out)
  clear b
  have c0 := qcell XP.out 0 (.int .i64 p.eye) rfl
  have c1 := qcell XP.out 1 (.int .i64 p.rings) rfl
  have c2 := qcell XP.out 2 (.int .i64 p.harps) rfl
  have c3 := qcell XP.out 3 (.int .i64 p.wide) rfl
  have c4 := qcell XP.out 4 (.slice fa p.furs.length fn) rfl
  cases hv : p.valid
  · go_wp2_with (first
      | (refine wpList_load_row rfl 24 _ rfl q rfl 24 (patA p fa fn) (0, 0) _ XP.out Tryz.underlying24 rfl (by exact (qJP p fa fn)) ?_)
      | (refine wpList_load_row rfl 28 _ rfl z rfl 28 (zeroF.cells none 0) (0, 0) _ XZ.out Tryz.underlying28 rfl (by exact (qJF zeroF none 0)) ?_)
      | (refine wpList_qstore rfl 28 _ _ rfl z (zeroF.cells none 0) (zeroF.cells none 0) 28 rfl rfl XZ.out (by exact (qJF zeroF none 0)) rfl (qone zeroF none 0) ?_; intro VZ hzz hgz; clear c0 c1 c2 c3 c4; replace BF := Lib.hid (qstep BF.out hgz (by have h1 := hz.out; omega)); replace XP := Lib.hid (qgrown hgz XP.out (fun e => by have h1 := hq.out; have h2 := hz.out; have := Option.some.inj e; omega)); replace XZ := Lib.hid hzz; clear hzz hgz; have c0 := qcell XP.out 0 (.int .i64 p.eye) rfl; have c1 := qcell XP.out 1 (.int .i64 p.rings) rfl; have c2 := qcell XP.out 2 (.int .i64 p.harps) rfl; have c3 := qcell XP.out 3 (.int .i64 p.wide) rfl; have c4 := qcell XP.out 4 (.slice fa p.furs.length fn) rfl)
      | fail)
    (try simp only [Exit.inBlock, Exit.then])
    refine bodyPost_ret (results_ct rfl _ VZ z 28 (zeroF.cells none 0) (0, 0) _ rfl XZ.out Tryz.underlying28 rfl (by exact (qJF zeroF none 0))) rfl ?_
    unfold dressP
    rw [if_neg (by rw [hv]; decide)]
    exact ⟨⟨none, 0, rfl, FOwn.nil _ _⟩, BF.out⟩
  · have HV := Lib.hid hv
    have PV := Lib.hid (PatV.valid_iff.1 hv)
    have FV := Lib.hid (patF_valid hv)
    clear hv
    obtain ⟨N, hN⟩ : ∃ N, Hid ((patF p).kinds.length = N) := ⟨_, Lib.hid rfl⟩
    have HN : Hid (p.rings * p.harps * p.wide = (N : Int)) := Lib.hid (by
      have h0 := hN.out
      have h1 : (patF p).kinds.length = (p.rings * p.harps * p.wide).toNat := List.length_replicate
      have h2 := PV.out.1
      have h3 : 0 ≤ p.rings * p.harps * p.wide := Int.mul_nonneg (Int.mul_nonneg (by omega) (by omega)) (by omega)
      omega)
    have NL : Hid (N ≤ 2304) := Lib.hid (by have := FaceV.len_le FV.out; have := hN.out; omega)
    have HE : Hid ((patF p).kinds = List.replicate N 0) := Lib.hid (by have h1 := HN.out; show List.replicate (p.rings * p.harps * p.wide).toNat 0 = _; rw [h1, Int.toNat_natCast])
    have W1 := Lib.hid (show wrap64 (p.harps * p.wide) = p.harps * p.wide by have := PV.out.1; unfold wrap64; omega)
    have HB2 : Hid (0 ≤ p.rings * p.harps ∧ p.rings * p.harps ≤ 24 * 96) := Lib.hid (by have := PV.out.1; exact ⟨Int.mul_nonneg (by omega) (by omega), Int.mul_le_mul (by omega) (by omega) (by omega) (by omega)⟩)
    have W2 := Lib.hid (show wrap64 (p.rings * p.harps) = p.rings * p.harps by have := HB2.out; unfold wrap64; omega)
    have W3 := Lib.hid (show wrap64 (p.rings * p.harps * p.wide) = (N : Int) by have := HN.out; have := NL.out; unfold wrap64; omega)
    go_upto_region 3 with fail
    clear c0 c1 c2 c3 c4
    apply cut_w3 (P := (fun (W : World) (o g : Nat) => Hid (DrAt w q z o g N p fa fn (rPatK p 0) W ∧ w.heap.size ≤ o ∧ o ≠ q ∧ o ≠ z)))
    · intro REST
      have hd : Below V1.heap.size V1 V1.drew := (Below.refl _ _).drew
      replace BF := Lib.hid (BF.out.drew)
      replace XP := Lib.hid (qblk hd XP.out)
      replace XZ := Lib.hid (qblk hd XZ.out)
      refine zD (fun W => Below w.heap.size w W ∧ W.heap[q]? = some (.cells (patA p fa fn) 24 (0, 0)) ∧ W.heap[z]? = some (.cells (zeroF.cells none 0) 28 (0, 0))) ⟨BF.out, XP.out, XZ.out⟩ (fun hHeld => ?_)
      clear hd
      generalize V1.drew = V2 at *
      refine zW 0 rfl (.pointer (some ⟨q, 0, none⟩)) ?_
      refine zS 1 rfl (.int .i64 p.eye) (fun W hW => by have c := qcell hW.2.1 0 (.int .i64 p.eye) rfl; go_simp) ?_
      refine zW 2 rfl (.pointer (some ⟨q, 1, none⟩)) ?_
      refine zS 3 rfl (.int .i64 p.rings) (fun W hW => by have c := qcell hW.2.1 1 (.int .i64 p.rings) rfl; go_simp) ?_
      refine zW 4 rfl (.pointer (some ⟨q, 2, none⟩)) ?_
      refine zS 5 rfl (.int .i64 p.harps) (fun W hW => by have c := qcell hW.2.1 2 (.int .i64 p.harps) rfl; go_simp) ?_
      refine zW 6 rfl (.pointer (some ⟨q, 3, none⟩)) ?_
      refine zS 7 rfl (.int .i64 p.wide) (fun W hW => by have c := qcell hW.2.1 3 (.int .i64 p.wide) rfl; go_simp) ?_
      refine zW 8 rfl (.int .i64 (p.harps * p.wide)) (hy := .inl ⟨by kernel_rfl, by intro W _; go_simp; exact (IntWalk.i64_left _).trans W1.out⟩) ?_
      refine zW 9 rfl (.pointer (some ⟨q, 1, none⟩)) ?_
      refine zS 10 rfl (.int .i64 p.rings) (fun W hW => by have c := qcell hW.2.1 1 (.int .i64 p.rings) rfl; go_simp) ?_
      refine zW 11 rfl (.pointer (some ⟨q, 2, none⟩)) ?_
      refine zS 12 rfl (.int .i64 p.harps) (fun W hW => by have c := qcell hW.2.1 2 (.int .i64 p.harps) rfl; go_simp) ?_
      refine zW 13 rfl (.int .i64 (p.rings * p.harps)) (hy := .inl ⟨by kernel_rfl, by intro W _; go_simp; exact (IntWalk.i64_left _).trans W2.out⟩) ?_
      refine zW 14 rfl (.pointer (some ⟨q, 3, none⟩)) ?_
      refine zS 15 rfl (.int .i64 p.wide) (fun W hW => by have c := qcell hW.2.1 3 (.int .i64 p.wide) rfl; go_simp) ?_
      refine zW 16 rfl (.int .i64 ((N : Int))) (hy := .inl ⟨by kernel_rfl, by intro W _; go_simp; exact (IntWalk.i64_left _).trans W3.out⟩) ?_
      have B0 : Hid (w.heap.size ≤ V2.heap.size) := Lib.hid BF.out.size
      have GE := Lib.hid (show q < V2.heap.size ∧ z < V2.heap.size from ⟨qlt XP.out, qlt XZ.out⟩)
      have KE : Hid (rPatK p 0 = List.replicate N 0) := Lib.hid HE.out
      refine zM [17, 19] rfl (fun K hK => ?_) (zn (i := 19) (fun K hK => ?_))
      · rw [if_pos (by kernel_rfl)]
        have hmk := run_make_ints N (by have := NL.out; omega) V2
        refine qbuild (w' := V2.alloc (.cells ((List.replicate N (0 : Int)).map intV).toArray 3)) (.slice (some ⟨V2.heap.size, 0, none⟩) N N) (by go_simp) ?_
        clear hmk
        have OW := Lib.hid (own_ints N (by have := NL.out; omega) V2 w.heap.size BF.out.size)
        have b := zB V2 (.cells ((List.replicate N (0 : Int)).map intV).toArray 3)
        obtain ⟨g, hg⟩ : ∃ x, Hid (V2.heap.size = x) := ⟨_, Lib.hid rfl⟩
        replace BF := Lib.hid (BF.out.trans (b.mono BF.out.size))
        replace XP := Lib.hid (qblk b XP.out)
        replace XZ := Lib.hid (qblk b XZ.out)
        (try replace XO := Lib.hid (qblk b XO.out))
        rw [hg.out] at OW ⊢
        have SZg : Hid (V2.heap.size < V2.heap.size + 1) := Lib.hid (Nat.lt_succ_self _)
        clear b
        have LSg : Hid ((V2.alloc (.cells ((List.replicate N (0 : Int)).map intV).toArray 3)).heap.size = V2.heap.size + 1) := Lib.hid (by simp)
        generalize hV9 : V2.alloc (.cells ((List.replicate N (0 : Int)).map intV).toArray 3) = V3 at *
        clear hV9
        refine zK hK ⟨BF.out, XP.out, XZ.out⟩ (fun hHeld => ?_)
        clear hK K
        refine zW 18 rfl (.agg (faceA p (some ⟨g, 0, none⟩) N)) (hy := .inl ⟨by kernel_rfl, by intro W _; go_simp; rfl⟩) ?_
        refine zR 19 rfl (fun K hK => ?_)
        rw [if_pos (by kernel_rfl)]
        refine qbuild (w' := V3.alloc (.cells #[.int .i64 0, .int .i64 0, .int .i64 0, .slice none 0 0] 28)) (.pointer (some ⟨V3.heap.size, 0, none⟩)) (by kernel_rfl) ?_
        have XO := Lib.hid (al1 V3 (.cells #[.int .i64 0, .int .i64 0, .int .i64 0, .slice none 0 0] 28)).2
        have b := zB V3 (.cells #[.int .i64 0, .int .i64 0, .int .i64 0, .slice none 0 0] 28)
        obtain ⟨o, ho⟩ : ∃ x, Hid (V3.heap.size = x) := ⟨_, Lib.hid rfl⟩
        replace BF := Lib.hid (BF.out.trans (b.mono BF.out.size))
        replace XP := Lib.hid (qblk b XP.out)
        replace XZ := Lib.hid (qblk b XZ.out)
        (try replace OW := Lib.hid (own_below OW.out b))
        rw [ho.out] at XO ⊢
        have SZo : Hid (V3.heap.size < V3.heap.size + 1) := Lib.hid (Nat.lt_succ_self _)
        clear b
        have LSo : Hid ((V3.alloc (.cells #[.int .i64 0, .int .i64 0, .int .i64 0, .slice none 0 0] 28)).heap.size = V3.heap.size + 1) := Lib.hid (by simp)
        generalize hV9 : V3.alloc (.cells #[.int .i64 0, .int .i64 0, .int .i64 0, .slice none 0 0] 28) = V4 at *
        clear hV9
        refine zK hK ⟨BF.out, XP.out, XZ.out⟩ (fun hHeld => ?_)
        clear hK K
        refine zR 20 rfl (fun K hK => ?_)
        rw [if_pos (by kernel_rfl)]
        refine qstore 28 _ _ rfl o #[.int .i64 0, .int .i64 0, .int .i64 0, .slice none 0 0] (faceA p (some ⟨g, 0, none⟩) N) 28 rfl rfl XO.out (by exact qJA p (some ⟨g, 0, none⟩) N) rfl (qoneA p (some ⟨g, 0, none⟩) N) ?_
        intro X h8 hg8 hs8
        have NE : Hid (w.heap.size ≤ o ∧ o ≠ q ∧ o ≠ z) := Lib.hid (by have h1 := GE.out; have h2 := ho.out; have h3 := B0.out; have h4 := hq.out; first | omega | (have h5 := LSg.out; omega))
        replace BF := Lib.hid (qstep BF.out hg8 NE.out.1)
        replace XP := Lib.hid (qgrown hg8 XP.out (fun e => NE.out.2.1 (Option.some.inj e).symm))
        replace XZ := Lib.hid (qgrown hg8 XZ.out (fun e => NE.out.2.2 (Option.some.inj e).symm))
        replace OW := Lib.hid (OW.out.kept hg8 (.inr (qown_no OW.out XO.out (by simp)).symm))
        refine zK hK ⟨BF.out, XP.out, XZ.out⟩ (fun hHeld => ?_)
        clear hK K
        refine zE ?_
        exact REST X o g (Lib.hid ⟨⟨BF.out, XP.out, XZ.out, h8, by rw [KE.out]; exact OW.out⟩, NE.out⟩)
      · rw [if_pos (by kernel_rfl)]
        refine qbuild (w' := V2.alloc (.cells #[.int .i64 0, .int .i64 0, .int .i64 0, .slice none 0 0] 28)) (.pointer (some ⟨V2.heap.size, 0, none⟩)) (by kernel_rfl) ?_
        have XO := Lib.hid (al1 V2 (.cells #[.int .i64 0, .int .i64 0, .int .i64 0, .slice none 0 0] 28)).2
        have b := zB V2 (.cells #[.int .i64 0, .int .i64 0, .int .i64 0, .slice none 0 0] 28)
        obtain ⟨o, ho⟩ : ∃ x, Hid (V2.heap.size = x) := ⟨_, Lib.hid rfl⟩
        replace BF := Lib.hid (BF.out.trans (b.mono BF.out.size))
        replace XP := Lib.hid (qblk b XP.out)
        replace XZ := Lib.hid (qblk b XZ.out)
        (try replace OW := Lib.hid (own_below OW.out b))
        rw [ho.out] at XO ⊢
        have SZo : Hid (V2.heap.size < V2.heap.size + 1) := Lib.hid (Nat.lt_succ_self _)
        clear b
        have LSo : Hid ((V2.alloc (.cells #[.int .i64 0, .int .i64 0, .int .i64 0, .slice none 0 0] 28)).heap.size = V2.heap.size + 1) := Lib.hid (by simp)
        generalize hV9 : V2.alloc (.cells #[.int .i64 0, .int .i64 0, .int .i64 0, .slice none 0 0] 28) = V3 at *
        clear hV9
        refine zK hK ⟨BF.out, XP.out, XZ.out⟩ (fun hHeld => ?_)
        clear hK K
        refine zR 17 rfl (fun K hK => ?_)
        rw [if_pos (by kernel_rfl)]
        have hmk := run_make_ints N (by have := NL.out; omega) V3
        refine qbuild (w' := V3.alloc (.cells ((List.replicate N (0 : Int)).map intV).toArray 3)) (.slice (some ⟨V3.heap.size, 0, none⟩) N N) (by go_simp) ?_
        clear hmk
        have OW := Lib.hid (own_ints N (by have := NL.out; omega) V3 w.heap.size BF.out.size)
        have b := zB V3 (.cells ((List.replicate N (0 : Int)).map intV).toArray 3)
        obtain ⟨g, hg⟩ : ∃ x, Hid (V3.heap.size = x) := ⟨_, Lib.hid rfl⟩
        replace BF := Lib.hid (BF.out.trans (b.mono BF.out.size))
        replace XP := Lib.hid (qblk b XP.out)
        replace XZ := Lib.hid (qblk b XZ.out)
        (try replace XO := Lib.hid (qblk b XO.out))
        rw [hg.out] at OW ⊢
        have SZg : Hid (V3.heap.size < V3.heap.size + 1) := Lib.hid (Nat.lt_succ_self _)
        clear b
        have LSg : Hid ((V3.alloc (.cells ((List.replicate N (0 : Int)).map intV).toArray 3)).heap.size = V3.heap.size + 1) := Lib.hid (by simp)
        generalize hV9 : V3.alloc (.cells ((List.replicate N (0 : Int)).map intV).toArray 3) = V4 at *
        clear hV9
        refine zK hK ⟨BF.out, XP.out, XZ.out⟩ (fun hHeld => ?_)
        clear hK K
        refine zW 18 rfl (.agg (faceA p (some ⟨g, 0, none⟩) N)) (hy := .inl ⟨by kernel_rfl, by intro W _; go_simp; rfl⟩) ?_
        refine zR 20 rfl (fun K hK => ?_)
        rw [if_pos (by kernel_rfl)]
        refine qstore 28 _ _ rfl o #[.int .i64 0, .int .i64 0, .int .i64 0, .slice none 0 0] (faceA p (some ⟨g, 0, none⟩) N) 28 rfl rfl XO.out (by exact qJA p (some ⟨g, 0, none⟩) N) rfl (qoneA p (some ⟨g, 0, none⟩) N) ?_
        intro X h8 hg8 hs8
        have NE : Hid (w.heap.size ≤ o ∧ o ≠ q ∧ o ≠ z) := Lib.hid (by have h1 := GE.out; have h2 := ho.out; have h3 := B0.out; have h4 := hq.out; first | omega | (have h5 := LSg.out; omega))
        replace BF := Lib.hid (qstep BF.out hg8 NE.out.1)
        replace XP := Lib.hid (qgrown hg8 XP.out (fun e => NE.out.2.1 (Option.some.inj e).symm))
        replace XZ := Lib.hid (qgrown hg8 XZ.out (fun e => NE.out.2.2 (Option.some.inj e).symm))
        replace OW := Lib.hid (OW.out.kept hg8 (.inr (qown_no OW.out XO.out (by simp)).symm))
        refine zK hK ⟨BF.out, XP.out, XZ.out⟩ (fun hHeld => ?_)
        clear hK K
        refine zE ?_
        exact REST X o g (Lib.hid ⟨⟨BF.out, XP.out, XZ.out, h8, by rw [KE.out]; exact OW.out⟩, NE.out⟩)
    · intro X o g HD
      have DA := Lib.hid HD.out.1
      have OE := Lib.hid HD.out.2
      clear HD BF XP XZ W1 W2 W3 HB2
      have SB : Hid (1 ≤ p.harps * p.wide ∧ p.harps * p.wide ≤ 1000000) := Lib.hid (by have := PV.out.1; omega)
      have c4 := qcell DA.out.xp 4 (.slice fa p.furs.length fn) rfl
      go_wp2_with fail
      clear c4
      have FL := Lib.hid (show p.furs.length ≤ 16 from PV.out.1.2.2.2.2.2)
      go_loopw [5] (fun v wr => ∃ k : Nat, v = .int .i64 k ∧ k ≤ p.furs.length ∧ Hid (DrAt w q z o g N p fa fn (rPatK p k) wr)) (fun v _ => p.furs.length - (intOf v).toNat)
      case atStart => exact ⟨0, rfl, Nat.zero_le _, DA⟩
      case round =>
        clear DA
        obtain ⟨k, rfl, hk, DA⟩ := hrel
        have c4 := qcell DA.out.xp 4 (.slice fa p.furs.length fn) rfl
        by_cases hkn : k < p.furs.length
        · have t0 : decide ((k : Int) < (p.furs.length : Int)) = true := by simp; omega
          have HK64 : Hid ((k : Int) + 1 ≤ 9223372036854775807) := Lib.hid (by have := FL.out; omega)
          obtain ⟨x, hx⟩ : ∃ x, p.furs[k]? = some x := ⟨_, List.getElem?_eq_getElem hkn⟩
          have HX := Lib.hid hx
          have HM := Lib.hid (List.mem_of_getElem? hx)
          obtain ⟨b, off, hfa, x0, x1, x2, x3, x4, x5⟩ := (HR.out wr DA.out.bel).get hx
          subst hfa
          obtain ⟨o1, ho1⟩ : ∃ o1, Hid (off + k * 6 = o1) := ⟨_, Lib.hid rfl⟩
          rw [ho1.out] at x0 x1 x2 x3 x4 x5
          have I6 : (Tryz.prog.info? 76).map (·.size) = some 6 := by kernel_rfl
          have hi := fun W => qidx (W := W) (c := fn) (b := b) Tryz.underlying22 I6 hkn ho1.out
          clear hx
          go_upto_region 8 with fail
          clear x0 x1 x2 x3 x4 x5 hi t0 I6
          have AL := al1 wr (.cells (furA x) 76)
          clear c4
          replace DA := Lib.hid (DA.out.below AL.1)
          have XU : Hid ((wr.alloc (.cells (furA x) 76)).heap[wr.heap.size]? = some (.cells (furA x) 76 (0, 0))) := Lib.hid AL.2
          clear AL
          unfold furA at XU DA
          generalize wr.alloc (.cells #[.int .i64 x.at_, .int .i64 x.from_, .int .i64 x.lean, .int .i64 x.leans, .int .i64 x.steep, .int .i64 x.feather] 76) = X1 at *
          generalize wr.heap.size = u at *
          have XU2 : Hid (X1.heap[u]? = some (.cells (furA x) 76 (0, 0))) := Lib.hid XU.out
          clear XU
          have FB := Lib.hid (PV.out.2 x HM.out)
          obtain ⟨R, hR⟩ : ∃ R : Nat, Hid ((p.rings - x.from_).toNat = R) := ⟨_, Lib.hid rfl⟩
          have HRR : Hid (x.from_ + (R : Int) = p.rings ∧ R ≤ 24) := Lib.hid (by have h1 := FB.out; have h2 := PV.out.1; have h3 := hR.out; omega)
          obtain ⟨H, hH⟩ : ∃ H : Nat, Hid (p.harps.toNat = H) := ⟨_, Lib.hid rfl⟩
          have HH : Hid (p.harps = (H : Int) ∧ H ≤ 96) := Lib.hid (by have h2 := PV.out.1; have h3 := hH.out; omega)
          have PK := Lib.hid (rPatK_ok HV.out k)
          have PL := Lib.hid (show (rPatK p k).length = N from (rPatK_len p k).trans hN.out)
          have KS := Lib.hid (rPatK_succ p HX.out)
          rw [hH.out] at KS
          obtain ⟨l0, hl0⟩ : ∃ l, Hid (rPatK p k = l) := ⟨_, Lib.hid rfl⟩
          rw [hl0.out] at KS PK PL DA
          go_wp2_with fail
          generalize wr = Y1 at *
          go_loopw [7] (fun v wr => ∃ h : Nat, v = .int .i64 (h : Int) ∧ h ≤ H ∧ Hid (DrAt w q z o g N p (some ⟨b, off, none⟩) fn (rFurK (patF p) p x l0 h) wr) ∧ Hid (wr.heap[u]? = some (.cells (furA x) 76 (0, 0)))) (fun v _ => H - (intOf v).toNat)
          case atStart => exact ⟨0, rfl, Nat.zero_le _, DA, XU2⟩
          case round =>
            clear DA XU2
            obtain ⟨h, rfl, hh, DA, XU⟩ := hrel
            have c2 := qcell DA.out.xp 2 (.int .i64 p.harps) rfl
            by_cases hhn : h < H
            · have t0 : decide ((h : Int) < p.harps) = true := by have := HH.out; simp; omega
              have HH64 : Hid ((h : Int) + 1 ≤ 9223372036854775807) := Lib.hid (by have := HH.out; omega)
              have HHN := Lib.hid hhn
              have KS2 := Lib.hid (rFurK_succ (patF p) p x l0 h)
              rw [hR.out] at KS2
              have FK := Lib.hid (rFurK_ok (p := p) (x := x) PK.out h)
              have FN := Lib.hid (show (rFurK (patF p) p x l0 h).length = N by rw [rFurK_len]; exact PL.out)
              obtain ⟨l1, hl1⟩ : ∃ l, Hid (rFurK (patF p) p x l0 h = l) := ⟨_, Lib.hid rfl⟩
              rw [hl1.out] at KS2 FK FN DA
              go_upto_region 11 with fail
              clear t0 c2
              have u1 := qcell XU.out 1 (.int .i64 x.from_) rfl
              go_wp2_with fail
              clear u1
              generalize wr = Y2 at *
              go_loopw [8] (fun v wr => ∃ j : Nat, v = .int .i64 (x.from_ + (j : Int)) ∧ j ≤ R ∧ Hid (DrAt w q z o g N p (some ⟨b, off, none⟩) fn (rRingK (patF p) p x l1 h j) wr) ∧ Hid (wr.heap[u]? = some (.cells (furA x) 76 (0, 0)))) (fun v _ => (p.rings - intOf v).toNat)
              case atStart => exact ⟨0, by simp, Nat.zero_le _, DA, XU⟩
              case round =>
                clear DA XU
                obtain ⟨j, rfl, hj, DA, XU⟩ := hrel
                have c1 := qcell DA.out.xp 1 (.int .i64 p.rings) rfl
                by_cases hjr : j < R
                · have t0 : decide (x.from_ + (j : Int) < p.rings) = true := by have := HRR.out; simp; omega
                  obtain ⟨ring, hring⟩ : ∃ ring, Hid (x.from_ + (j : Int) = ring) := ⟨_, Lib.hid rfl⟩
                  have RG : Hid (0 ≤ ring ∧ ring ≤ p.rings - 1) := Lib.hid (by have h1 := hring.out; have h2 := HRR.out; have h3 := FB.out; omega)
                  have KS3 := Lib.hid (rRingK_succ (patF p) p x l1 h j)
                  rw [hring.out] at KS3
                  have RK := Lib.hid (rRingK_ok (p := p) (x := x) h FK.out j)
                  have RN := Lib.hid (show (rRingK (patF p) p x l1 h j).length = N by rw [rRingK_len]; exact FN.out)
                  obtain ⟨l2, hl2⟩ : ∃ l, Hid (rRingK (patF p) p x l1 h j = l) := ⟨_, Lib.hid rfl⟩
                  rw [hl2.out] at KS3 RK RN DA
                  go_upto_region 14 with fail
                  clear t0 c1
                  (try rw [hring.out])
                  have HF : Hid (0 ≤ (h : Int) * p.wide ∧ (h : Int) * p.wide ≤ 10000) := Lib.hid (by
                    have h1 := PV.out.1
                    have h2 := HH.out
                    have h3 := HHN.out
                    have h4 := Int.mul_nonneg (show (0 : Int) ≤ (h : Int) by omega) (show 0 ≤ p.wide by omega)
                    have h5 := Int.mul_le_mul (show (h : Int) ≤ 96 by omega) (show p.wide ≤ 96 by omega) (by omega) (by omega)
                    omega)
                  obtain ⟨first, hfirst⟩ : ∃ first, Hid ((h : Int) * p.wide = first) := ⟨_, Lib.hid rfl⟩
                  rw [hfirst.out] at HF KS3
                  have HLN := Lib.hid (lean_bound HV.out HM.out RG.out)
                  have W0_ := Lib.hid (show wrap64 ((h : Int) * p.wide) = first by rw [hfirst.out]; have := HF.out; unfold wrap64; omega)
                  have W1 := Lib.hid (show wrap64 (first + x.at_) = first + x.at_ by have := HF.out; have := FB.out; have := PV.out.1; unfold wrap64; omega)
                  have W2 := Lib.hid (show wrap64 (p.rings - 1) = p.rings - 1 by have := PV.out.1; unfold wrap64; omega)
                  have W3 := Lib.hid (show wrap64 (p.rings - 1 - ring) = p.rings - 1 - ring by have := PV.out.1; have := RG.out; unfold wrap64; omega)
                  have W4 := Lib.hid (show wrap64 ((p.rings - 1 - ring) * x.lean) = (p.rings - 1 - ring) * x.lean by have := HLN.out; unfold wrap64; omega)
                  obtain ⟨lean, hlean⟩ : ∃ lean, Hid ((p.rings - 1 - ring) * x.lean / x.leans = lean) := ⟨_, Lib.hid rfl⟩
                  have LQ : Hid (-2304 ≤ lean ∧ lean ≤ 2304) := Lib.hid (by
                    have h1 := HLN.out
                    have h2 := FB.out
                    rw [← hlean.out]
                    constructor
                    · exact (Int.le_ediv_iff_mul_le (by omega)).2 (by omega)
                    · have h3 := Int.ediv_le_ediv (show 0 < x.leans by omega) h1.2
                      have h4 := Int.ediv_le_self (b := x.leans) (show (0 : Int) ≤ 2304 by omega)
                      omega)
                  have W5 := Lib.hid (show wrap64 (first + x.at_ + lean) = first + x.at_ + lean by have := HF.out; have := FB.out; have := PV.out.1; have := LQ.out; unfold wrap64; omega)
                  have XP := Lib.hid DA.out.xp
                  have XO := Lib.hid DA.out.xo
                  have BF := Lib.hid DA.out.bel
                  have hd : Below wr.heap.size wr wr.drew := (Below.refl _ _).drew
                  replace BF := Lib.hid (BF.out.trans (hd.mono BF.out.size))
                  replace DA := Lib.hid (DA.out.below hd)
                  replace XP := Lib.hid (qblk hd XP.out)
                  replace XU := Lib.hid (qblk hd XU.out)
                  replace XO := Lib.hid (qblk hd XO.out)
                  clear hd
                  refine zD (fun W => Below wr.drew.heap.size wr.drew W) (Below.refl _ _) (fun hHeld => ?_)
                  have BV := Lib.hid hHeld
                  generalize wr.drew = V2 at *
                  refine zW 0 rfl (.int .i64 (h : Int)) ?_
                  refine zW 1 rfl (.pointer (some ⟨q, 3, none⟩)) ?_
                  refine zS 2 rfl (.int .i64 p.wide) (fun W hW => by have c := qcell (qblk hW XP.out) 3 (.int .i64 p.wide) rfl; go_simp) ?_
                  refine zW 3 rfl (.int .i64 (first)) (hy := .inl ⟨by kernel_rfl, by intro W hW; go_simp; exact (IntWalk.i64_left _).trans W0_.out⟩) ?_
                  refine zW 4 rfl (.pointer (some ⟨u, 0, none⟩)) ?_
                  refine zS 5 rfl (.int .i64 x.at_) (fun W hW => by have c := qcell (qblk hW XU.out) 0 (.int .i64 x.at_) rfl; go_simp) ?_
                  refine zW 6 rfl (.int .i64 (first + x.at_)) (hy := .inl ⟨by kernel_rfl, by intro W hW; go_simp; exact (IntWalk.i64_left _).trans W1.out⟩) ?_
                  refine zW 7 rfl (.pointer (some ⟨q, 1, none⟩)) ?_
                  refine zS 8 rfl (.int .i64 p.rings) (fun W hW => by have c := qcell (qblk hW XP.out) 1 (.int .i64 p.rings) rfl; go_simp) ?_
                  refine zW 9 rfl (.int .i64 (p.rings - 1)) (hy := .inl ⟨by kernel_rfl, by intro W hW; go_simp; exact (IntWalk.i64_left _).trans W2.out⟩) ?_
                  refine zW 10 rfl (.int .i64 ring) ?_
                  refine zW 11 rfl (.int .i64 (p.rings - 1 - ring)) (hy := .inl ⟨by kernel_rfl, by intro W hW; go_simp; exact (IntWalk.i64_left _).trans W3.out⟩) ?_
                  refine zW 12 rfl (.pointer (some ⟨u, 2, none⟩)) ?_
                  refine zS 13 rfl (.int .i64 x.lean) (fun W hW => by have c := qcell (qblk hW XU.out) 2 (.int .i64 x.lean) rfl; go_simp) ?_
                  refine zW 14 rfl (.int .i64 ((p.rings - 1 - ring) * x.lean)) (hy := .inl ⟨by kernel_rfl, by intro W hW; go_simp; exact (IntWalk.i64_left _).trans W4.out⟩) ?_
                  refine zW 15 rfl (.pointer (some ⟨u, 3, none⟩)) ?_
                  refine zS 16 rfl (.int .i64 x.leans) (fun W hW => by have c := qcell (qblk hW XU.out) 3 (.int .i64 x.leans) rfl; go_simp) ?_
                  refine zR 17 rfl (fun K hK => ?_)
                  go_simp
                  refine (rfloor_any ((p.rings - 1 - ring) * x.lean) x.leans _ (by have := HLN.out; omega) (by have := FB.out; omega)).mono ?_
                  rintro e Z1 ⟨rfl, b⟩
                  rw [hlean.out]
                  have BV2 := Lib.hid (BV.out.trans (b.mono BV.out.size))
                  clear b BV
                  have BV := BV2
                  clear BV2
                  try dsimp only
                  refine zK hK BV.out (fun hHeld => ?_)
                  clear hK K
                  refine zW 18 rfl (.int .i64 (first + x.at_ + lean)) (hy := .inl ⟨by kernel_rfl, by intro W hW; go_simp; exact (IntWalk.i64_left _).trans W5.out⟩) ?_
                  refine zW 19 rfl (.int .i64 (first + x.at_ + lean)) ?_
                  refine zE ?_
                  have bz := BV.out
                  replace BF := Lib.hid (BF.out.trans (bz.mono BF.out.size))
                  replace DA := Lib.hid (DA.out.below bz)
                  replace XP := Lib.hid (qblk bz XP.out)
                  replace XU := Lib.hid (qblk bz XU.out)
                  replace XO := Lib.hid (qblk bz XO.out)
                  clear bz
                  clear BV
                  clear W0_ W1 W2 W3 W4 W5
                  obtain ⟨fr, hfr⟩ : ∃ fr, Hid (first + x.at_ + lean = fr) := ⟨_, Lib.hid rfl⟩
                  have FR : Hid (-3000 ≤ fr ∧ fr ≤ 14000) := Lib.hid (by have := HF.out; have := FB.out; have := PV.out.1; have := LQ.out; have := hfr.out; omega)
                  rw [hfr.out]
                  obtain ⟨NW, hNW⟩ : ∃ NW, Hid (wideF x = NW) := ⟨_, Lib.hid rfl⟩
                  have HNW : Hid (x.steep + x.feather = (NW : Int) ∧ NW ≤ 200) := Lib.hid (by have h1 := FB.out; have h3 := PV.out.1; have h2 := hNW.out; unfold wideF at h2; omega)
                  rw [hNW.out] at KS3
                  have LF : Hid (first + x.at_ + leanF (patF p).rings x ring = fr) := Lib.hid (by rw [← hfr.out, ← hlean.out]; rfl)
                  have ws : wrap64 (x.steep + x.feather) = (NW : Int) := by have := HNW.out; unfold wrap64; omega
                  have u4 := qcell XU.out 4 (.int .i64 x.steep) rfl
                  have u5 := qcell XU.out 5 (.int .i64 x.feather) rfl
                  clear XP XO BF
                  go_wp2_with fail
                  clear u4 u5
                  have C0 : Hid (DrAt w q z o g N p (some ⟨b, off, none⟩) fn (cutK (patF p) x ring first l2 0) Z1) := DA
                  clear DA
                  generalize Z1 = Y3 at *
                  go_loopw [10] (fun v wr => ∃ n : Nat, v = .int .i64 (n : Int) ∧ n ≤ NW ∧ Hid (DrAt w q z o g N p (some ⟨b, off, none⟩) fn (cutK (patF p) x ring first l2 n) wr) ∧ Hid (wr.heap[u]? = some (.cells (furA x) 76 (0, 0)))) (fun v _ => NW - (intOf v).toNat)
                  case atStart => exact ⟨0, rfl, Nat.zero_le _, C0, XU⟩
                  case round =>
                    clear C0 XU
                    obtain ⟨n, rfl, hn, C0, XU⟩ := hrel
                    have u4 := qcell XU.out 4 (.int .i64 x.steep) rfl
                    have u5 := qcell XU.out 5 (.int .i64 x.feather) rfl
                    by_cases hnn : n < NW
                    · have t0 : decide ((n : Int) < (NW : Int)) = true := by simp; omega
                      have HN64 : Hid ((n : Int) + 1 ≤ 9223372036854775807) := Lib.hid (by have := HNW.out; omega)
                      have WF := Lib.hid (show wrap64 (fr + (n : Int)) = fr + (n : Int) by have := FR.out; have := HNW.out; unfold wrap64; omega)
                      have IL := Lib.hid (index_lt FV.out (show 0 ≤ ring ∧ ring ≤ (patF p).rings - 1 from RG.out) (fr + (n : Int)))
                      obtain ⟨i, hi⟩ : ∃ i, Hid ((indexF (patF p) ring (fr + (n : Int))).toNat = i) := ⟨_, Lib.hid rfl⟩
                      have HI : Hid (indexF (patF p) ring (fr + (n : Int)) = (i : Int)) := Lib.hid (by have := IL.out; have := hi.out; omega)
                      have HL : Hid (i < N) := Lib.hid (by have := IL.out; have := hi.out; have := hN.out; omega)
                      have LP := Lib.hid (cutK_succ (patF p) x ring first l2 n)
                      rw [LF.out, HI.out] at LP
                      obtain ⟨l, hl⟩ : ∃ l, Hid (cutK (patF p) x ring first l2 n = l) := ⟨_, Lib.hid rfl⟩
                      rw [hl.out] at C0 LP
                      unfold putE at LP
                      dsimp only at LP
                      rw [Int.toNat_natCast] at LP
                      go_upto_region 18 with fail
                      clear t0 u4 u5
                      have DA := C0
                      clear C0
                      have XP := Lib.hid DA.out.xp
                      have XO := Lib.hid DA.out.xo
                      have BF := Lib.hid DA.out.bel
                      have hd : Below wr.heap.size wr wr.drew := (Below.refl _ _).drew
                      replace BF := Lib.hid (BF.out.trans (hd.mono BF.out.size))
                      replace DA := Lib.hid (DA.out.below hd)
                      replace XP := Lib.hid (qblk hd XP.out)
                      replace XU := Lib.hid (qblk hd XU.out)
                      replace XO := Lib.hid (qblk hd XO.out)
                      clear hd
                      refine zD (fun W => Below wr.drew.heap.size wr.drew W) (Below.refl _ _) (fun hHeld => ?_)
                      have BV := Lib.hid hHeld
                      generalize wr.drew = V3 at *
                      refine zT 0 rfl (.agg (faceA p (some ⟨g, 0, none⟩) N)) (qyrow (by kernel_rfl) 28 _ rfl o rfl _ 28 (0, 0) _ (fun W hW => qblk hW XO.out) Tryz.underlying28 rfl (by exact qJA p (some ⟨g, 0, none⟩) N)) ?_
                      refine zW 1 rfl (.int .i64 ring) ?_
                      refine zT 2 rfl (.agg (faceA p (some ⟨g, 0, none⟩) N)) (qyrow (by kernel_rfl) 28 _ rfl o rfl _ 28 (0, 0) _ (fun W hW => qblk hW XO.out) Tryz.underlying28 rfl (by exact qJA p (some ⟨g, 0, none⟩) N)) ?_
                      refine zW 3 rfl (.int .i64 fr) ?_
                      refine zW 4 rfl (.int .i64 (n : Int)) ?_
                      refine zW 5 rfl (.int .i64 (fr + (n : Int))) (hy := .inl ⟨by kernel_rfl, by intro W hW; go_simp; exact (IntWalk.i64_left _).trans WF.out⟩) ?_
                      refine zR 6 rfl (fun K hK => ?_)
                      go_simp
                      refine (rround2_any p (some ⟨g, 0, none⟩) N (fr + (n : Int)) _ hN.out SB.out).mono ?_
                      rintro e Z2 ⟨rfl, b⟩
                      have BV2 := Lib.hid (BV.out.trans (b.mono BV.out.size))
                      clear b BV
                      have BV := BV2
                      clear BV2
                      try dsimp only
                      refine zK hK BV.out (fun hHeld => ?_)
                      clear hK K
                      refine zW 7 rfl (.agg (cellA (ring, around (fr + (n : Int)) (p.harps * p.wide)))) (hy := .inl ⟨by kernel_rfl, by intro W hW; go_simp; rfl⟩) ?_
                      refine zR 8 rfl (fun K hK => ?_)
                      go_simp
                      refine (rnumber2_any p (some ⟨g, 0, none⟩) N ring (fr + (n : Int)) _ hN.out SB.out (by have := RG.out; have := PV.out.1; omega)).mono ?_
                      rintro e Z3 ⟨rfl, b⟩
                      rw [HI.out]
                      have BV2 := Lib.hid (BV.out.trans (b.mono BV.out.size))
                      clear b BV
                      have BV := BV2
                      clear BV2
                      try dsimp only
                      refine zK hK BV.out (fun hHeld => ?_)
                      clear hK K
                      refine zW 9 rfl (.int .i64 (i : Int)) ?_
                      refine zE ?_
                      have bz := BV.out
                      replace BF := Lib.hid (BF.out.trans (bz.mono BF.out.size))
                      replace DA := Lib.hid (DA.out.below bz)
                      replace XP := Lib.hid (qblk bz XP.out)
                      replace XU := Lib.hid (qblk bz XU.out)
                      replace XO := Lib.hid (qblk bz XO.out)
                      clear bz
                      clear BV
                      clear XP XO BF WF
                      have C0 := DA
                      clear DA
                      have hlt : i < N := HL.out
                      have C1 := Lib.hid (C0.out.put HL.out 1)
                      obtain ⟨y, hy⟩ : ∃ y, Hid (l[i]?.getD 0 = y) := ⟨_, Lib.hid rfl⟩
                      rw [hy.out] at LP C1
                      have cc := C1.out.2.1
                      have cf := C1.out.2.2.1
                      have c3 := qcell C0.out.xo 3 (.slice (some ⟨g, 0, none⟩) N N) rfl
                      cases he : (y == 0)
                      · have HE : Hid (y ≠ 0) := Lib.hid (by simpa using he)
                        go_upto_region 17 with fail
                        have hn64 := HN64.out
                        go_wp2_with fail
                        go_roundw
                        case rel => exact ⟨n + 1, by simp, by omega, Lib.hid (by rw [LP.out, if_neg HE.out]; exact C0.out), XU⟩
                        case measure => simp [intOf]; omega
                      · have HE : Hid (y = 0) := Lib.hid (by simpa using he)
                        go_upto_region 21 with fail
                        clear cc cf c3
                        replace XU := Lib.hid (C1.out.2.2.2.1 _ _ XU.out (by simp))
                        replace C0 := Lib.hid C1.out.1
                        clear C1
                        generalize wSet : Z3.setCell ⟨g, i, none⟩ (.int .i64 1) = V5 at *
                        clear wSet
                        have C2 := Lib.hid (C0.out.put HL.out 2)
                        have cc := C2.out.2.1
                        have cf := C2.out.2.2.1
                        have c3 := qcell C0.out.xo 3 (.slice (some ⟨g, 0, none⟩) N N) rfl
                        have u4 := qcell XU.out 4 (.int .i64 x.steep) rfl
                        cases hs : decide (x.steep ≤ (n : Int))
                        · have HS : Hid ((n : Int) < x.steep) := Lib.hid (by have := of_decide_eq_false hs; omega)
                          go_upto_region 17 with fail
                          have hn64 := HN64.out
                          go_wp2_with fail
                          go_roundw
                          case rel => exact ⟨n + 1, by simp, by omega, Lib.hid (by rw [LP.out, if_pos HE.out, if_pos HS.out]; exact C0.out), XU⟩
                          case measure => simp [intOf]; omega
                        · have HS : Hid (¬ (n : Int) < x.steep) := Lib.hid (by have := of_decide_eq_true hs; omega)
                          go_upto_region 17 with fail
                          clear cc cf c3 u4
                          replace XU := Lib.hid (C2.out.2.2.2.1 _ _ XU.out (by simp))
                          replace C0 := Lib.hid C2.out.1
                          rw [List.set_set] at C0
                          clear C2
                          generalize wSet : V5.setCell ⟨g, i, none⟩ (.int .i64 2) = V6 at *
                          clear wSet
                          have hn64 := HN64.out
                          go_wp2_with fail
                          go_roundw
                          case rel => exact ⟨n + 1, by simp, by omega, Lib.hid (by rw [LP.out, if_pos HE.out, if_neg HS.out]; exact C0.out), XU⟩
                          case measure => simp [intOf]; omega
                    · have t0 : decide ((n : Int) < (NW : Int)) = false := by simp; omega
                      have e : n = NW := by omega
                      subst e
                      rw [← KS3.out] at C0
                      have wj : wrap64 (ring + 1) = x.from_ + ((j + 1 : Nat) : Int) := by have h1 := hring.out; have h2 := HRR.out; have h3 := FB.out; have h4 := RG.out; have h5 := PV.out.1; unfold wrap64; omega
                      go_wp2_with fail
                      go_roundw
                      case rel => exact ⟨j + 1, by first | rfl | (rw [wj]), by omega, C0, XU⟩
                      case measure => have h1 := hring.out; have h2 := HRR.out; have h3 := RG.out; (try rw [wj]); simp [intOf]; omega
                · have t0 : decide (x.from_ + (j : Int) < p.rings) = false := by have := HRR.out; simp; omega
                  have e : j = R := by omega
                  subst e
                  rw [← KS2.out] at DA
                  go_upto_region 10 with fail
                  have hh64 := HH64.out
                  go_wp2_with fail
                  go_roundw
                  case rel => exact ⟨h + 1, by simp, by omega, DA, XU⟩
                  case measure => simp [intOf]; omega
            · have t0 : decide ((h : Int) < p.harps) = false := by have := HH.out; simp; omega
              have e : h = H := by omega
              subst e
              rw [← KS.out] at DA
              go_upto_region 6 with fail
              have hk64 := HK64.out
              go_wp2_with fail
              go_roundw
              case rel => exact ⟨k + 1, by simp, by omega, DA⟩
              case measure => simp [intOf]; omega
        · have t0 : decide ((k : Int) < (p.furs.length : Int)) = false := by simp; omega
          have e : k = p.furs.length := by omega
          have DE := Lib.hid (show fk p (rPatK p k) = dressF p by rw [e]; exact rPatK_all HV.out)
          have DL := Lib.hid (show (rPatK p k).length = N from (rPatK_len p k).trans hN.out)
          clear hk hkn
          subst e
          go_upto_region 23 with fail
          go_wp2_with (first
            | (refine wpList_load_row rfl 28 _ rfl o rfl 28 (faceA p (some ⟨g, 0, none⟩) N) (0, 0) _ DA.out.xo Tryz.underlying28 rfl (by exact qJA p (some ⟨g, 0, none⟩) N) ?_)
            | (refine wpList_qstore rfl 28 _ _ rfl z (zeroF.cells none 0) (faceA p (some ⟨g, 0, none⟩) N) 28 rfl rfl DA.out.xz (by exact qJA p (some ⟨g, 0, none⟩) N) rfl (qoneA p (some ⟨g, 0, none⟩) N) ?_; intro VZ hzz hgz; have OW := Lib.hid (DA.out.own.kept hgz (.inr (qown_no DA.out.own DA.out.xz (by simp)).symm)); have BF := Lib.hid (qstep DA.out.bel hgz (by have h1 := hz.out; omega)); clear DA; have XZ := Lib.hid hzz; clear hzz hgz)
            | fail)
          (try simp only [Exit.inBlock, Exit.then])
          refine bodyPost_ret (results_ct rfl _ VZ z 28 (faceA p (some ⟨g, 0, none⟩) N) (0, 0) _ rfl XZ.out Tryz.underlying28 rfl (by exact qJA p (some ⟨g, 0, none⟩) N)) rfl ?_
          unfold dressP
          rw [if_pos HV.out, ← DE.out]
          refine ⟨⟨some ⟨g, 0, none⟩, N, ?_, ?_⟩, BF.out⟩
          · rw [fk_cells p _ _ _ DL.out]
            rfl
          · have := OW.out
            unfold FOwn
            show VZ.ownsRow _ _ _ (.slice _ (rPatK p p.furs.length).length N) (rPatK p p.furs.length).length ((rPatK p p.furs.length).map intV)
            rw [DL.out]
            exact this
end Go.Proofs.YtimmadkbkimonaaGreatDoor
namespace Go.Proofs.YtimmadkbkimonaaGreatDoor
set_option linter.unusedSimpArgs false
set_option linter.unusedVariables false
open Go.RowKit

set_option maxHeartbeats 4000000 in
set_option maxRecDepth 100000 in
theorem dresses_any (p : PatV) (fa : Option Addr) (fn : Nat) (w : World) (he : EnvW w) (hr : RdFu w fa p.furs.length fn p.furs) :
    Calls Tryz.prog 3 #[.agg (patA p fa fn)] w fun e w' => e = .returned (.bool true) ∧ Below w.heap.size w w' := by
  have EV := Lib.hid (fun W (hb : Below w.heap.size w W) => he.below hb)
  have HR := Lib.hid hr
  clear he hr
  have AL := Lib.hid (al1 w (.cells (patA p fa fn) 24))
  go_enter Tryz.func3, Tryz.ntmps3
  go_upto_region 1 with fail
  obtain ⟨q, hq⟩ : ∃ q, Hid (w.heap.size = q) := ⟨_, Lib.hid rfl⟩
  rw [hq.out] at AL ⊢
  generalize (w.alloc (.cells (patA p fa fn) 24)) = W0 at *
  have BF : Hid (Below w.heap.size w W0) := Lib.hid (by rw [hq.out]; exact AL.out.1)
  have XP : Hid (W0.heap[q]? = some (.cells (patA p fa fn) 24 (0, 0))) := Lib.hid AL.out.2
  clear AL
  have c0 := qcell XP.out 0 (.int .i64 p.eye) rfl
  have c1 := qcell XP.out 1 (.int .i64 p.rings) rfl
  have c2 := qcell XP.out 2 (.int .i64 p.harps) rfl
  have c3 := qcell XP.out 3 (.int .i64 p.wide) rfl
  have c4 := qcell XP.out 4 (.slice fa p.furs.length fn) rfl
  clear c0 c1 c2 c3 c4
  replace HR := Lib.hid (HR.out.below BF.out)
  go_upto_region 1 with fail
  refine yB ?_
  refine yR (fun K hK => ?_)
  go_simp
  refine (awake_any _ (EV.out _ BF.out)).mono ?_
  rintro e U1 ⟨rfl, b⟩
  replace BF := Lib.hid (BF.out.trans (b.mono BF.out.size))
  replace HR := Lib.hid (HR.out.below b)
  replace XP := Lib.hid (qblk b XP.out)
  clear b
  try dsimp only
  refine yK hK ?_
  clear hK K
  refine yM (.bool true) ?_
  refine yE ?_
  go_upto_region 2 with fail
  refine yB ?_
  refine yW (.pointer (some ⟨q, 4, none⟩)) ?_
  refine yW (.slice fa p.furs.length fn) ?_ (.inl ⟨by kernel_rfl, by intro W hW; rw [hW]; have c := qcell XP.out 4 (.slice fa p.furs.length fn) rfl; go_simp⟩)
  refine yW (.int .i64 (p.furs.length : Int)) ?_
  cases h1 : decide ((100 : Int) < (p.furs.length : Int))
  · refine yW (.bool false) ?_ 
    refine yE ?_
    obtain ⟨D, hD⟩ : ∃ z, Hid ((dressP p).1 = z) := ⟨_, Lib.hid rfl⟩
    obtain ⟨E, hE⟩ : ∃ z, Hid ((dressP p).2 = z) := ⟨_, Lib.hid rfl⟩
    obtain ⟨V, hV⟩ : ∃ z, Hid (p.valid = z) := ⟨_, Lib.hid rfl⟩
    go_upto_region 4 with fail
    refine yB ?_
    refine yW (.agg (patA p fa fn)) ?_ (qyrow (by kernel_rfl) 24 _ rfl q rfl _ 24 (0, 0) _ (fun W hW => by rw [hW]; exact XP.out) Tryz.underlying24 rfl (by exact (qJP p fa fn)))
    refine yR (fun K hK => ?_)
    go_simp
    refine (dressP_any p fa fn _ HR.out).mono ?_
    rintro e U2 ⟨⟨b1, m1, rfl, own⟩, b⟩
    rw [hD.out] at own ⊢
    rw [hE.out]
    have R1 := Lib.hid own.rd
    clear own
    replace BF := Lib.hid (BF.out.trans (b.mono BF.out.size))
    replace HR := Lib.hid (HR.out.below b)
    replace XP := Lib.hid (qblk b XP.out)
    clear b
    try dsimp only
    refine yK hK ?_
    clear hK K
    refine yMs [.tuple #[.agg (D.cells b1 m1), .int .i64 E], .agg (D.cells b1 m1), .int .i64 E] (fun W => ⟨.inl ⟨by kernel_rfl, by kernel_rfl⟩, .inl ⟨by kernel_rfl, by kernel_rfl⟩, .inl ⟨by kernel_rfl, by kernel_rfl⟩, trivial⟩) ?_
    refine yR (fun K hK => ?_)
    refine qbuild (w' := U2.alloc (.cells #[.int .i64 0, .int .i64 0, .int .i64 0, .slice none 0 0] 28)) (.pointer (some ⟨U2.heap.size, 0, none⟩)) (by kernel_rfl) ?_
    obtain ⟨x4, hx4⟩ : ∃ x, Hid (U2.heap.size = x) := ⟨_, Lib.hid rfl⟩
    have AL := Lib.hid (al1 U2 (.cells #[.int .i64 0, .int .i64 0, .int .i64 0, .slice none 0 0] 28))
    rw [hx4.out] at AL ⊢
    refine yK hK ?_
    clear hK K
    refine yR (fun K hK => ?_)
    refine qstore 28 _ _ rfl x4 #[.int .i64 0, .int .i64 0, .int .i64 0, .slice none 0 0] (D.cells b1 m1) 28 rfl rfl AL.out.2 (by exact qJF D b1 m1) rfl (qone D b1 m1) ?_
    intro U3 h8 hg8 hs8
    have b : Below U2.heap.size U2 U3 := qstep (by have h1 := AL.out.1; rw [← hx4.out] at h1; exact h1) hg8 (Nat.le_of_eq hx4.out)
    replace BF := Lib.hid (BF.out.trans (b.mono BF.out.size))
    replace HR := Lib.hid (HR.out.below b)
    replace R1 := Lib.hid (R1.out.below b)
    replace XP := Lib.hid (qblk b XP.out)
    clear b
    have Xx4 := Lib.hid h8
    clear h8 hg8 hs8 AL
    refine yK hK ?_
    clear hK K
    refine yM (.int .i64 E) ?_
    refine yE ?_
    go_upto_region 5 with fail
    refine yB ?_
    refine yW (.agg (patA p fa fn)) ?_ (qyrow (by kernel_rfl) 24 _ rfl q rfl _ 24 (0, 0) _ (fun W hW => by rw [hW]; exact XP.out) Tryz.underlying24 rfl (by exact (qJP p fa fn)))
    refine yR (fun K hK => ?_)
    go_simp
    refine (rdressP_any p fa fn _ HR.out).mono ?_
    rintro e U4 ⟨⟨b2, m2, rfl, own⟩, b⟩
    rw [hD.out] at own ⊢
    rw [hE.out]
    have R2 := Lib.hid own.rd
    clear own
    replace BF := Lib.hid (BF.out.trans (b.mono BF.out.size))
    replace HR := Lib.hid (HR.out.below b)
    replace R1 := Lib.hid (R1.out.below b)
    replace XP := Lib.hid (qblk b XP.out)
    replace Xx4 := Lib.hid (qblk b Xx4.out)
    clear b
    try dsimp only
    refine yK hK ?_
    clear hK K
    refine yMs [.tuple #[.agg (D.cells b2 m2), .int .i64 E], .agg (D.cells b2 m2), .int .i64 E] (fun W => ⟨.inl ⟨by kernel_rfl, by kernel_rfl⟩, .inl ⟨by kernel_rfl, by kernel_rfl⟩, .inl ⟨by kernel_rfl, by kernel_rfl⟩, trivial⟩) ?_
    refine yR (fun K hK => ?_)
    refine qbuild (w' := U4.alloc (.cells #[.int .i64 0, .int .i64 0, .int .i64 0, .slice none 0 0] 28)) (.pointer (some ⟨U4.heap.size, 0, none⟩)) (by kernel_rfl) ?_
    obtain ⟨x6, hx6⟩ : ∃ x, Hid (U4.heap.size = x) := ⟨_, Lib.hid rfl⟩
    have AL := Lib.hid (al1 U4 (.cells #[.int .i64 0, .int .i64 0, .int .i64 0, .slice none 0 0] 28))
    rw [hx6.out] at AL ⊢
    refine yK hK ?_
    clear hK K
    refine yR (fun K hK => ?_)
    refine qstore 28 _ _ rfl x6 #[.int .i64 0, .int .i64 0, .int .i64 0, .slice none 0 0] (D.cells b2 m2) 28 rfl rfl AL.out.2 (by exact qJF D b2 m2) rfl (qone D b2 m2) ?_
    intro U5 h8 hg8 hs8
    have b : Below U4.heap.size U4 U5 := qstep (by have h1 := AL.out.1; rw [← hx6.out] at h1; exact h1) hg8 (Nat.le_of_eq hx6.out)
    replace BF := Lib.hid (BF.out.trans (b.mono BF.out.size))
    replace HR := Lib.hid (HR.out.below b)
    replace R1 := Lib.hid (R1.out.below b)
    replace R2 := Lib.hid (R2.out.below b)
    replace XP := Lib.hid (qblk b XP.out)
    replace Xx4 := Lib.hid (qblk b Xx4.out)
    clear b
    have Xx6 := Lib.hid h8
    clear h8 hg8 hs8 AL
    refine yK hK ?_
    clear hK K
    refine yM (.int .i64 E) ?_
    refine yE ?_
    go_upto_region 6 with fail
    have hd : Below U5.heap.size U5 U5.drew := (Below.refl _ _).drew
    replace BF := Lib.hid (BF.out.trans (hd.mono BF.out.size))
    replace HR := Lib.hid (HR.out.below hd)
    replace R1 := Lib.hid (R1.out.below hd)
    replace R2 := Lib.hid (R2.out.below hd)
    replace XP := Lib.hid (qblk hd XP.out)
    replace Xx4 := Lib.hid (qblk hd Xx4.out)
    replace Xx6 := Lib.hid (qblk hd Xx6.out)
    clear hd
    refine zD (fun W => Below U5.drew.heap.size U5.drew W) (Below.refl _ _) (fun hHeld => ?_)
    have BV := Lib.hid hHeld
    generalize U5.drew = V3 at *
    refine zW 0 rfl (.bool true) ?_
    refine zW 1 rfl (.bool true) ?_
    refine zT 2 rfl (.agg (patA p fa fn)) (qyrow (by kernel_rfl) 24 _ rfl q rfl _ 24 (0, 0) _ (fun W hW => qblk hW XP.out) Tryz.underlying24 rfl (by exact (qJP p fa fn))) ?_
    refine zT 4 rfl (.agg (patA p fa fn)) (qyrow (by kernel_rfl) 24 _ rfl q rfl _ 24 (0, 0) _ (fun W hW => qblk hW XP.out) Tryz.underlying24 rfl (by exact (qJP p fa fn))) ?_
    refine zR 3 rfl (fun K hK => ?_)
    go_simp
    refine (validP_any p fa fn _ (HR.out.below BV.out)).mono ?_
    rintro e Z1 ⟨rfl, b⟩
    rw [hV.out]
    have BV2 := Lib.hid (BV.out.trans (b.mono BV.out.size))
    clear b BV
    have BV := BV2
    clear BV2
    try dsimp only
    refine zK hK BV.out (fun hHeld => ?_)
    clear hK K
    refine zR 5 rfl (fun K hK => ?_)
    go_simp
    refine (rvalidP_any p fa fn _ (HR.out.below BV.out)).mono ?_
    rintro e Z2 ⟨rfl, b⟩
    rw [hV.out]
    have BV2 := Lib.hid (BV.out.trans (b.mono BV.out.size))
    clear b BV
    have BV := BV2
    clear BV2
    try dsimp only
    refine zK hK BV.out (fun hHeld => ?_)
    clear hK K
    refine zW 6 rfl (.bool true) (hy := .inl ⟨by kernel_rfl, by intro W _; cases V <;> rfl⟩) ?_
    refine zW 7 rfl (.bool true) ?_
    refine zW 8 rfl (.bool true) ?_
    refine zT 9 rfl (.agg (D.cells b1 m1)) (qyrow (by kernel_rfl) 28 _ rfl x4 rfl _ 28 (0, 0) _ (fun W hW => qblk hW Xx4.out) Tryz.underlying28 rfl (by exact (qJF D b1 m1))) ?_
    refine zT 10 rfl (.agg (D.cells b2 m2)) (qyrow (by kernel_rfl) 28 _ rfl x6 rfl _ 28 (0, 0) _ (fun W hW => qblk hW Xx6.out) Tryz.underlying28 rfl (by exact (qJF D b2 m2))) ?_
    refine zR 11 rfl (fun K hK => ?_)
    go_simp
    refine (rsame_any D b1 m1 D b2 m2 _ (R1.out.below BV.out) (R2.out.below BV.out)).mono ?_
    rintro e Z3 ⟨rfl, b⟩
    rw [show sameF D D = true from decide_eq_true rfl]
    have BV2 := Lib.hid (BV.out.trans (b.mono BV.out.size))
    clear b BV
    have BV := BV2
    clear BV2
    try dsimp only
    refine zK hK BV.out (fun hHeld => ?_)
    clear hK K
    refine zW 12 rfl (.bool true) ?_
    refine zW 13 rfl (.bool true) ?_
    refine zW 14 rfl (.int .i64 E) ?_
    refine zW 15 rfl (.int .i64 E) ?_
    refine zW 16 rfl (.bool true) ?_
    refine zW 17 rfl (.bool true) ?_
    refine zW 18 rfl (.bool true) ?_
    refine zE ?_
    have bz := BV.out
    replace BF := Lib.hid (BF.out.trans (bz.mono BF.out.size))
    replace HR := Lib.hid (HR.out.below bz)
    replace R1 := Lib.hid (R1.out.below bz)
    replace R2 := Lib.hid (R2.out.below bz)
    replace XP := Lib.hid (qblk bz XP.out)
    replace Xx4 := Lib.hid (qblk bz Xx4.out)
    replace Xx6 := Lib.hid (qblk bz Xx6.out)
    clear bz
    clear BV
    go_wp2_with fail
    go_ret
    exact ⟨rfl, BF.out⟩
  · refine yW (.bool true) ?_ 
    refine yE ?_
    go_wp2_with fail
    go_ret
    exact ⟨rfl, BF.out⟩
end Go.Proofs.YtimmadkbkimonaaGreatDoor
namespace Go.Proofs.YtimmadkbkimonaaGreatDoor
open Go.ChangeShapes Go.WideShapes Go.ChangeAt Go.RowKit

theorem Tryz.own : ownKnob Tryz.prog.godebug = none := by kernel_rfl
theorem Tryz.laidOut : laidOutB Tryz.prog = true := by kernel_rfl

theorem below_trodAll {H : Type} {enc : TypeId × Value → H} {P : Program} (hl : laidOutB P = true) {W W' : World} (hb : Below W.heap.size W W') :
    ∀ (ts : List TypeId) {vs : List Value} {ds : List (DataW H)} {ps : List MemPlace}, ts.all (fun t => P.readableRec t && decide (t < P.types.size)) = true → (∀ x ∈ ps, x.block < W.heap.size) →
      DataW.TrodAll enc P W 0 (fun _ => true) true ts vs ds ps → DataW.TrodAll enc P W' 0 (fun b => decide (b < W.heap.size)) true ts vs ds ps
  | [], [], [], _, _, _, h => h
  | [], _ :: _, _, _, _, _, h => h.elim
  | [], [], _ :: _, _, _, _, h => h.elim
  | _ :: _, [], _, _, _, _, h => h.elim
  | _ :: _, _ :: _, [], _, _, _, h => h.elim
  | t :: ts, v :: vs, d :: ds, ps, hr, hlt, h => by
    obtain ⟨p, q, h1, h2, rfl⟩ := h
    simp only [List.all_cons, Bool.and_eq_true, decide_eq_true_eq] at hr
    exact ⟨p, q, Below.trod hl hr.1.1 hr.1.2 h1 hb (fun x hx => hlt x (List.mem_append_left _ hx)), below_trodAll hl hb ts hr.2 (fun x hx => hlt x (List.mem_append_right _ hx)) h2, rfl⟩

theorem post_of_law {H : Type} {enc : TypeId × Value → H} {P : Program} (hl : laidOutB P = true) {t : TypeId} (ht : P.underlying t = some .bool) {f : Func} {s : ChangeSpec} {W W' : World} {args : Array Value} {ds : List (DataW H)} {ps : List MemPlace}
    (hv : s.vars = []) (hf : f.resultTypes = #[t]) (hr : f.params.toList.all (fun t => P.readableRec t && decide (t < P.types.size)) = true)
    (hW : DataW.Whole enc P f.params.toList s.vars false W args.toList ds [] ps) (hA : DataW.TrodAll enc P W 0 (fun _ => true) true f.params.toList args.toList ds ps)
    (hs : s.fn H (ds ++ []) = { results := [.lit (.bool true)], args := ds }) (hb : Below W.heap.size W W') : s.post enc P f false true false false W args (.bool true) W' := by
  refine ⟨ds, [], ps, [], ps, [], hW, ?_, ?_, ?_, hb.frame _, fun h => by cases h⟩
  · rw [hs, hf]
    exact trodAll_mk1 (shut_bool ht _)
  · rw [hs]
    exact below_trodAll hl hb _ hr hW.lt hA
  · rw [hs, hv]
    rfl

end Go.Proofs.YtimmadkbkimonaaGreatDoor
namespace Go.Proofs.YtimmadkbkimonaaGreatDoor
open Go.ChangeShapes Go.WideShapes Go.ChangeAt Go.RowKit

theorem Tryz.cells3 : Tryz.prog.cellsOf 3 = 1 := by kernel_rfl
section
variable {H : Type} {enc : TypeId × Value → H} {W : World} {fuel : Nat}

theorem get_some {α : Type} {xs : List α} {n i : Nat} (h : xs.length = n) (hi : i < n) : ∃ y, xs[i]? = some y := ⟨xs[i]'(by omega), List.getElem?_eq_getElem (by omega)⟩
end
end Go.Proofs.YtimmadkbkimonaaGreatDoor
namespace Go.Proofs.YtimmadkbkimonaaGreatDoor
set_option linter.constructorNameAsVariable false
open Go.ChangeShapes Go.WideShapes Go.ChangeAt Go.RowKit

section
variable {H : Type} {enc : TypeId × Value → H} {W : World}
end
theorem gE3 : Tryz.prog.globalNamed "strconv.ErrSyntax" = some 3 := by kernel_rfl
theorem gE4 : Tryz.prog.globalNamed "strconv.ErrRange" = some 4 := by kernel_rfl
theorem gE3t : (Tryz.prog.globals[3]?).map (·.type) = some 89 := by kernel_rfl
theorem gE4t : (Tryz.prog.globals[4]?).map (·.type) = some 89 := by kernel_rfl
theorem gstar : "*" ++ "errors.errorString" = "*errors.errorString" := by decide
theorem rowE (u : TypeId) (h : Tryz.prog.typeName? 3 u = some "*errors.errorString") : u = 212 :=
  typeName_ptr_named (nm := "errors.errorString") (by rw [gstar]; kernel_rfl) (by kernel_rfl) (by decide) u (by rw [gstar]; exact h)
theorem Tryz.cells214 : Tryz.prog.cellsOf 214 = 1 := by kernel_rfl
theorem Tryz.cells9 : Tryz.prog.cellsOf 9 = 1 := by kernel_rfl
theorem env_of {W : World} (hL : laidMetH Tryz.prog Rows.stonesCellsRow.laid W) (hs : W.ShapedOpen Tryz.prog) : EnvW W := by
  rw [MakeChecks.laidMetH_plain _ _ _ (by kernel_rfl)] at hL
  obtain ⟨a0, s0, hv0, _⟩ := laid_sentinel hL.tail.tail.tail.tail gE4 gE4t Tryz.underlying89 rowE Tryz.underlying212 Tryz.underlying214 rfl rfl Tryz.underlying9 Tryz.cells214 Tryz.cells9
  obtain ⟨a1, s1, hv1, _⟩ := laid_sentinel hL.tail.tail.tail.tail.tail gE3 gE3t Tryz.underlying89 rowE Tryz.underlying212 Tryz.underlying214 rfl rfl Tryz.underlying9 Tryz.cells214 Tryz.cells9
  refine ⟨Go.Proofs.cell_of_shapedOpen_int (zero := #[.int .i64 0]) (t := 3) hs (of_decide_eq_true (by kernel_rfl)) (by kernel_rfl) rfl (by kernel_rfl) (by kernel_rfl) Tryz.underlying3, ⟨.iface 212 (.pointer (some a1)), ?_, .inr ⟨_, _, rfl⟩⟩, ⟨.iface 212 (.pointer (some a0)), ?_, .inr ⟨_, _, rfl⟩⟩⟩
  · have h0 := World.var?_cell gE3 hv1 0
    simpa using h0
  · have h0 := World.var?_cell gE4 hv0 0
    simpa using h0
end Go.Proofs.YtimmadkbkimonaaGreatDoor
namespace Go.Proofs.YtimmadkbkimonaaGreatDoor
set_option linter.constructorNameAsVariable false
set_option linter.unusedSimpArgs false
set_option linter.unusedVariables false
open Go.ChangeShapes Go.WideShapes Go.ChangeAt Go.RowKit

theorem Tryz.cells76 : Tryz.prog.cellsOf 76 = 6 := by kernel_rfl
theorem Tryz.cells24 : Tryz.prog.cellsOf 24 = 5 := by kernel_rfl
theorem Tryz.cells22 : Tryz.prog.cellsOf 22 = 1 := by kernel_rfl
section
variable {H : Type} {enc : TypeId × Value → H} {W : World}
theorem sp_spot {a : Addr} {n : Nat} {cs : List Value} (hn : 0 < n) (h : W.cells? 0 a n = some cs) : a.spot = none := by
  have h2 := World.cells?_some h
  have h3 := h2.2.2 0 (by have := h2.1; omega)
  rw [List.getElem?_eq_getElem (by have := h2.1; omega)] at h3
  simpa [Addr.add] using World.cell?_spot h3
theorem sp_rows {fuel : Nat} {cs : List Value} {y : DataW H × List MemPlace} {t e : TypeId} {k : Nat} (ht : Tryz.prog.underlying t = some (.slice e)) (hc : Tryz.prog.cellsOf e = k) (hk : 0 < k)
    (h : DataW.trod enc Tryz.prog W 0 (fun _ => true) true fuel t cs = some y) :
    ∃ a n c, cs = [.slice a n c] ∧ n ≤ c ∧ c ≤ maxLen ∧ (c = 0 ∨ ∃ b off, a = some ⟨b, off, none⟩ ∧ ∀ i, i < n → ∃ es m z, DataW.trod enc Tryz.prog W 0 (fun _ => true) true m e es = some z ∧ W.rangeAt b (off + i * k) es) := by
  rcases DataW.trod_slice ht h with ⟨hcs, hx⟩ | ⟨a, len', cap', elems, rest, m, _, hcs, hx, hb, hl, hm, hlen, hel, hsp, hns⟩
  · exact ⟨none, 0, 0, hcs, Nat.le_refl _, Nat.zero_le _, .inl rfl⟩
  · rw [hc] at hel hsp
    refine ⟨some a, len', cap', hcs, hl, hm, ?_⟩
    rcases Nat.eq_zero_or_pos cap' with h0 | h0
    · exact .inl h0
    · have hspot : a.spot = none := by
        rcases Nat.eq_zero_or_pos len' with h1 | h1
        · obtain ⟨h2, h3⟩ := hsp rfl
          have h4 := h3 0 (by omega)
          rw [List.getElem?_eq_getElem (by omega)] at h4
          cases hq : W.cells? 0 (a.add ((len' + 0) * k)) k with
          | none => rw [hq] at h4; cases h4
          | some cs => rw [show (len' + 0) * k = 0 by rw [h1]; simp] at hq; have := sp_spot hk hq; simpa [Addr.add] using this
        · have h4 := hel 0 h1
          rw [List.getElem?_eq_getElem (by omega)] at h4
          cases hq : W.cells? 0 (a.add (0 * k)) k with
          | none => rw [hq] at h4; cases h4
          | some cs => rw [Nat.zero_mul] at hq; have := sp_spot hk hq; simpa [Addr.add] using this
      obtain ⟨ab, ao, spot⟩ := a
      simp only at hspot
      subst hspot
      refine .inr ⟨ab, ao, rfl, fun i hi => ?_⟩
      have h1 := hel i hi
      rw [List.getElem?_eq_getElem (by omega)] at h1
      cases hcs : W.cells? 0 ((⟨ab, ao, none⟩ : Addr).add (i * k)) k with
      | none => rw [hcs] at h1; cases h1
      | some es =>
        rw [hcs] at h1
        have h2 := World.cells?_some hcs
        refine ⟨es, m, _, h1, fun j v hv => ?_⟩
        have hj : j < es.length := (List.getElem?_eq_some_iff.1 hv).1
        have h3 := h2.2.2 j (by have := h2.1; omega)
        rw [hv] at h3
        simpa [Addr.add_lit] using h3
theorem sp_choose {α : Type} {n : Nat} {P : Nat → α → Prop} (h : ∀ i, i < n → ∃ x, P i x) : ∃ l : List α, l.length = n ∧ ∀ i x, l[i]? = some x → P i x := by
  induction n with
  | zero => exact ⟨[], rfl, by simp⟩
  | succ n ih =>
    obtain ⟨l, h1, h2⟩ := ih (fun i hi => h i (by omega))
    obtain ⟨x, hx⟩ := h n (by omega)
    refine ⟨l ++ [x], by simp [h1], fun i y hy => ?_⟩
    rcases Nat.lt_or_ge i l.length with hi | hi
    · rw [List.getElem?_append_left hi] at hy; exact h2 i y hy
    · rw [List.getElem?_append_right hi] at hy
      have : i - l.length = 0 := by
        rcases Nat.eq_zero_or_pos (i - l.length) with h0 | h0
        · exact h0
        · rw [List.getElem?_eq_none (by simp; omega)] at hy; cases hy
      rw [this] at hy
      simp at hy
      subst hy
      have : i = n := by omega
      rw [this]; exact hx
set_option maxRecDepth 100000 in
theorem open_fur1 {fuel : Nat} {cs : List Value} {y : DataW H × List MemPlace} (h : DataW.trod enc Tryz.prog W 0 (fun _ => true) true fuel 76 cs = some y) : ∃ x : FurV, cs = (furA x).toList := by
  obtain ⟨xs, m, _, _, hl, hlen, hf⟩ := DataW.trod_struct Tryz.underlying76 h
  rw [Tryz.cells76] at hl
  match cs, hl with
  | [c0, c1, c2, c3, c4, c5], _ =>
    obtain ⟨y0, e0⟩ := get_some hlen (i := 0) (by decide)
    have g0 : DataW.trod enc Tryz.prog W 0 (fun _ => true) true m 3 (([c0, c1, c2, c3, c4, c5].drop 0).take (Tryz.prog.cellsOf 3)) = some y0 := (hf 0 _ rfl).trans e0
    rw [Tryz.cells3] at g0
    obtain ⟨x0, a0, _, _⟩ := DataW.trod_int Tryz.underlying3 g0
    simp at a0
    clear e0 g0
    obtain ⟨y1, e1⟩ := get_some hlen (i := 1) (by decide)
    have g1 : DataW.trod enc Tryz.prog W 0 (fun _ => true) true m 3 (([c0, c1, c2, c3, c4, c5].drop 1).take (Tryz.prog.cellsOf 3)) = some y1 := (hf 1 _ rfl).trans e1
    rw [Tryz.cells3] at g1
    obtain ⟨x1, a1, _, _⟩ := DataW.trod_int Tryz.underlying3 g1
    simp at a1
    clear e1 g1
    obtain ⟨y2, e2⟩ := get_some hlen (i := 2) (by decide)
    have g2 : DataW.trod enc Tryz.prog W 0 (fun _ => true) true m 3 (([c0, c1, c2, c3, c4, c5].drop 2).take (Tryz.prog.cellsOf 3)) = some y2 := (hf 2 _ rfl).trans e2
    rw [Tryz.cells3] at g2
    obtain ⟨x2, a2, _, _⟩ := DataW.trod_int Tryz.underlying3 g2
    simp at a2
    clear e2 g2
    obtain ⟨y3, e3⟩ := get_some hlen (i := 3) (by decide)
    have g3 : DataW.trod enc Tryz.prog W 0 (fun _ => true) true m 3 (([c0, c1, c2, c3, c4, c5].drop 3).take (Tryz.prog.cellsOf 3)) = some y3 := (hf 3 _ rfl).trans e3
    rw [Tryz.cells3] at g3
    obtain ⟨x3, a3, _, _⟩ := DataW.trod_int Tryz.underlying3 g3
    simp at a3
    clear e3 g3
    obtain ⟨y4, e4⟩ := get_some hlen (i := 4) (by decide)
    have g4 : DataW.trod enc Tryz.prog W 0 (fun _ => true) true m 3 (([c0, c1, c2, c3, c4, c5].drop 4).take (Tryz.prog.cellsOf 3)) = some y4 := (hf 4 _ rfl).trans e4
    rw [Tryz.cells3] at g4
    obtain ⟨x4, a4, _, _⟩ := DataW.trod_int Tryz.underlying3 g4
    simp at a4
    clear e4 g4
    obtain ⟨y5, e5⟩ := get_some hlen (i := 5) (by decide)
    have g5 : DataW.trod enc Tryz.prog W 0 (fun _ => true) true m 3 (([c0, c1, c2, c3, c4, c5].drop 5).take (Tryz.prog.cellsOf 3)) = some y5 := (hf 5 _ rfl).trans e5
    rw [Tryz.cells3] at g5
    obtain ⟨x5, a5, _, _⟩ := DataW.trod_int Tryz.underlying3 g5
    simp at a5
    clear e5 g5
    exact ⟨⟨x0, x1, x2, x3, x4, x5⟩, by rw [a0, a1, a2, a3, a4, a5]; rfl⟩
set_option maxRecDepth 100000 in
theorem open_furs1 {fuel : Nat} {cs : List Value} {y : DataW H × List MemPlace} (h : DataW.trod enc Tryz.prog W 0 (fun _ => true) true fuel 22 cs = some y) : ∃ a c l, cs = [.slice a l.length c] ∧ RdFu W a l.length c l := by
  obtain ⟨a, n, c, rfl, h1, h2, h3⟩ := sp_rows Tryz.underlying22 Tryz.cells76 (by decide) h
  rcases h3 with h3 | ⟨b, off, rfl, h3⟩
  · have hn : n = 0 := by omega
    subst hn
    exact ⟨a, c, [], rfl, by rfl, h1, h2, .inl h3⟩
  · obtain ⟨l, h4, h5⟩ := sp_choose (P := fun i (x : FurV) => W.rangeAt b (off + i * 6) (furA x).toList) (fun i hi => by
      obtain ⟨es, m, z, h6, h7⟩ := h3 i hi
      obtain ⟨x, rfl⟩ := open_fur1 h6
      exact ⟨x, h7⟩)
    subst h4
    refine ⟨_, c, l, rfl, fursV_len l, h1, h2, .inr ⟨b, off, rfl, fun i x hx => ?_⟩⟩
    have hi := (List.getElem?_eq_some_iff.1 hx).1
    rw [fursV_len] at hi
    have hk : i / 6 < l.length := by omega
    have e : i = i / 6 * 6 + i % 6 := by omega
    have hj : i % 6 < 6 := Nat.mod_lt _ (by omega)
    have hr := h5 (i / 6) _ (List.getElem?_eq_getElem hk)
    rw [e, fursV_at l (i / 6) _ (List.getElem?_eq_getElem hk) (i % 6) hj] at hx
    have := hr (i % 6) x (by rw [← hx]; simp)
    rw [Nat.add_assoc] at this
    rw [e]
    exact this
set_option maxRecDepth 100000 in
theorem open_pat {base : Nat} {v : Value} {d : DataW H} {p : List MemPlace} (hval : Value.okWide Tryz.prog W .any base 24 v)
    (h : DataW.Trod enc Tryz.prog W 0 (fun _ => true) true 24 v d p) : ∃ (q : PatV) (a : Option Addr) (n : Nat), v = .agg (patA q a n) ∧ RdFu W a q.furs.length n q.furs := by
  obtain ⟨cs, rfl, hsz⟩ := okWide_struct Tryz.underlying24 hval
  obtain ⟨fuel, hf0⟩ := h
  obtain ⟨xs, m, _, _, hl, hlen, hf⟩ := DataW.trod_struct Tryz.underlying24 hf0
  rw [Tryz.cells24] at hsz
  obtain ⟨l⟩ := cs
  match l, hsz with
  | [c0, c1, c2, c3, c4], _ =>
    obtain ⟨y0, e0⟩ := get_some hlen (i := 0) (by decide)
    have g0 : DataW.trod enc Tryz.prog W 0 (fun _ => true) true m 3 (([c0, c1, c2, c3, c4].drop 0).take (Tryz.prog.cellsOf 3)) = some y0 := (hf 0 _ rfl).trans e0
    rw [Tryz.cells3] at g0
    obtain ⟨x0, a0, _, _⟩ := DataW.trod_int Tryz.underlying3 g0
    simp at a0
    clear e0 g0
    obtain ⟨y1, e1⟩ := get_some hlen (i := 1) (by decide)
    have g1 : DataW.trod enc Tryz.prog W 0 (fun _ => true) true m 3 (([c0, c1, c2, c3, c4].drop 1).take (Tryz.prog.cellsOf 3)) = some y1 := (hf 1 _ rfl).trans e1
    rw [Tryz.cells3] at g1
    obtain ⟨x1, a1, _, _⟩ := DataW.trod_int Tryz.underlying3 g1
    simp at a1
    clear e1 g1
    obtain ⟨y2, e2⟩ := get_some hlen (i := 2) (by decide)
    have g2 : DataW.trod enc Tryz.prog W 0 (fun _ => true) true m 3 (([c0, c1, c2, c3, c4].drop 2).take (Tryz.prog.cellsOf 3)) = some y2 := (hf 2 _ rfl).trans e2
    rw [Tryz.cells3] at g2
    obtain ⟨x2, a2, _, _⟩ := DataW.trod_int Tryz.underlying3 g2
    simp at a2
    clear e2 g2
    obtain ⟨y3, e3⟩ := get_some hlen (i := 3) (by decide)
    have g3 : DataW.trod enc Tryz.prog W 0 (fun _ => true) true m 3 (([c0, c1, c2, c3, c4].drop 3).take (Tryz.prog.cellsOf 3)) = some y3 := (hf 3 _ rfl).trans e3
    rw [Tryz.cells3] at g3
    obtain ⟨x3, a3, _, _⟩ := DataW.trod_int Tryz.underlying3 g3
    simp at a3
    clear e3 g3
    obtain ⟨y4, e4⟩ := get_some hlen (i := 4) (by decide)
    have g4 : DataW.trod enc Tryz.prog W 0 (fun _ => true) true m 22 (([c0, c1, c2, c3, c4].drop 4).take (Tryz.prog.cellsOf 22)) = some y4 := (hf 4 _ rfl).trans e4
    rw [Tryz.cells22] at g4
    obtain ⟨a, c, l, a4, hr⟩ := open_furs1 g4
    simp at a4
    exact ⟨⟨x0, x1, x2, x3, l⟩, a, c, by rw [a0, a1, a2, a3, a4]; rfl, hr⟩
end
end Go.Proofs.YtimmadkbkimonaaGreatDoor
