/- Parts of the proof, in this order: StonesApart is true; What every row of this work shares: a law of the template 'true whatever the input' holds where its call gives true and leaves all old memory; []byte arguments opened; A note, a list of ints, out of a reading; A face out of a reading; what the library's variables hold. -/
import Derived.Test.YtimmadkbkimonaaGreatDoorRows
import Derived.ProofKit
import Derived.OpenShut
import Derived.Lib.SmallJoins
import Derived.Stop.LaidErr
import Derived.MakeChecks
import Derived.Shelf.Vars
import Derived.Test.YtimmadkbkimonaaGreatDoorKPsv6
set_option linter.unusedSimpArgs false
set_option linter.unusedVariables false
open List renaming getElem_toArray → lq0, getElem_cons_succ → lq1, getElem_cons_zero → lq2, setIfInBounds_toArray → lq3, set_cons_zero → lq4, set_cons_succ → lq5
namespace Go.Proofs.YtimmadkbkimonaaGreatDoor
set_option linter.unusedSimpArgs false
set_option linter.unusedVariables false
open Go.RowKit

theorem regionOf_cell {f : FaceV} (hv : f.valid = true) {x i : Int} (hx : (regionsF f).1 x = some i) : regionOfP f (cellF f x) = (i, 0) := by
  have hin := ((regF hv).rg.inr x i hx).1
  obtain ⟨k1, k2⟩ := cellF_has hv hin
  unfold regionOfP
  rw [if_pos (asked_zero.2 ⟨hv, k1⟩), k2, hx]
  rfl
theorem heads_lt {f : FaceV} (hv : f.valid = true) {i j : Nat} {u v : List Int} {x y : Int} (hi : (regListF f)[i]? = some u) (hj : (regListF f)[j]? = some v) (hij : i < j) (hx : u[0]? = some x) (hy : v[0]? = some y) : x < y := by
  have h := regList_heads hv
  obtain ⟨h1, rfl⟩ := List.getElem?_eq_some_iff.1 hi
  obtain ⟨h2, rfl⟩ := List.getElem?_eq_some_iff.1 hj
  have h3 := List.pairwise_iff_getElem.1 h i j h1 h2 hij
  unfold HeadLt at h3
  rw [List.head?_eq_getElem?, List.head?_eq_getElem?, hx, hy] at h3
  exact h3
set_option maxHeartbeats 4000000 in
set_option maxRecDepth 100000 in
theorem apart_any (f : FaceV) (a : Option Addr) (n : Nat) (w : World) (he : EnvW w) (hr : RdI w a f.kinds.length n f.kinds) :
    Calls Tryz.prog 6 #[.agg (f.cells a n)] w fun e w' => e = .returned (.bool true) ∧ Below w.heap.size w w' := by
  have EV := Lib.hid (fun W (hb : Below w.heap.size w W) => he.below hb)
  have HR := Lib.hid hr
  clear he hr
  have AL := Lib.hid (al1 w (.cells (f.cells a n) 28))
  go_enter Tryz.func6, Tryz.ntmps6
  go_upto_region 1 with fail
  obtain ⟨p, hp⟩ : ∃ p, Hid (w.heap.size = p) := ⟨_, Lib.hid rfl⟩
  rw [hp.out] at AL ⊢
  generalize (w.alloc (.cells (f.cells a n) 28)) = W0 at *
  have BF : Hid (Below w.heap.size w W0) := Lib.hid (by rw [hp.out]; exact AL.out.1)
  have XF : Hid (W0.heap[p]? = some (.cells (f.cells a n) 28 (0, 0))) := Lib.hid AL.out.2
  clear AL
  have c0 := qcell XF.out 0 (.int .i64 f.eye) rfl
  have c1 := qcell XF.out 1 (.int .i64 f.rings) rfl
  have c2 := qcell XF.out 2 (.int .i64 f.sectors) rfl
  have c3 := qcell XF.out 3 (.slice a f.kinds.length n) rfl
  clear c0 c1 c2 c3
  replace HR := Lib.hid (HR.out.below BF.out)
  go_upto_region 1 with fail
  refine yB ?_
  refine yR (fun K hK => ?_)
  go_simp
  refine (awake_any _ (EV.out _ BF.out)).mono ?_
  rintro e U1 ⟨rfl, b⟩
  replace BF := Lib.hid (BF.out.trans (b.mono BF.out.size))
  replace HR := Lib.hid (HR.out.below b)
  replace XF := Lib.hid (qblk b XF.out)
  clear b
  try dsimp only
  refine yK hK ?_
  clear hK K
  refine yM (.bool true) ?_
  refine yE ?_
  go_upto_region 2 with fail
  refine yB ?_
  refine yW (.agg (f.cells a n)) ?_ (qyrow (by kernel_rfl) 28 _ rfl p rfl _ 28 (0, 0) _ (fun W hW => by rw [hW]; exact XF.out) Tryz.underlying28 rfl (by exact (qJF f a n)))
  refine yR (fun K hK => ?_)
  go_simp
  refine (few_any f a n _).mono ?_
  rintro e U2 ⟨rfl, b⟩
  replace BF := Lib.hid (BF.out.trans (b.mono BF.out.size))
  replace HR := Lib.hid (HR.out.below b)
  replace XF := Lib.hid (qblk b XF.out)
  clear b
  cases hf : decide (f.kinds.length ≤ 200)
  · try dsimp only
    refine yK hK ?_
    clear hK K
    refine yM (.bool true) ?_
    refine yE ?_
    go_wp2_with fail
    go_ret
    exact ⟨rfl, BF.out⟩
  · try dsimp only
    refine yK hK ?_
    clear hK K
    refine yM (.bool false) ?_
    refine yE ?_
    by_cases hv : f.valid = true
    · have HV := Lib.hid hv
      have IV := Lib.hid (FaceV.int HV.out)
      have LL := Lib.hid (FaceV.len_le HV.out)
      have PE : Hid (regionsP f = (regListF f, 0)) := Lib.hid (by unfold regionsP; rw [if_pos hv])
      obtain ⟨NS, hNS⟩ : ∃ z, Hid ((regListF f).length = z) := ⟨_, Lib.hid rfl⟩
      have NSB : Hid (NS ≤ 2304) := Lib.hid (by
        rw [← hNS.out, regList_len]
        have h3 := (regionsN_le f f.kinds.length).2
        have h4 := LL.out
        have h5 : (regionsF f).2 = (regionsN f f.kinds.length).2 := rfl
        omega)
      clear hv
      go_upto_region 4 with fail
      refine yB ?_
      refine yW (.agg (f.cells a n)) ?_ (qyrow (by kernel_rfl) 28 _ rfl p rfl _ 28 (0, 0) _ (fun W hW => by rw [hW]; exact XF.out) Tryz.underlying28 rfl (by exact (qJF f a n)))
      refine yR (fun K hK => ?_)
      go_simp
      refine (regionsP_any f a n _ HR.out).mono ?_
      rintro e U3 ⟨⟨la, lm, rfl, own⟩, b9⟩
      have b := b9
      clear b9
      rw [PE.out] at own ⊢
      try dsimp only at own ⊢
      rw [hNS.out] at own ⊢
      have RL := Lib.hid own
      clear own
      replace BF := Lib.hid (BF.out.trans (b.mono BF.out.size))
      replace HR := Lib.hid (HR.out.below b)
      replace XF := Lib.hid (qblk b XF.out)
      clear b
      try dsimp only
      refine yK hK ?_
      clear hK K
      refine yMs [.tuple #[.slice la NS lm, .int .i64 0], .slice la NS lm, .int .i64 0, .slice la NS lm, .int .i64 0] (fun W => ⟨.inl ⟨by kernel_rfl, by kernel_rfl⟩, .inl ⟨by kernel_rfl, by kernel_rfl⟩, .inl ⟨by kernel_rfl, by kernel_rfl⟩, .inl ⟨by kernel_rfl, by kernel_rfl⟩, .inl ⟨by kernel_rfl, by kernel_rfl⟩, trivial⟩) ?_
      refine yE ?_
      go_upto_region 5 with fail
      refine yB ?_
      refine yM (.int .i64 0) ?_
      refine yW (.bool false) ?_ (.inl ⟨by kernel_rfl, by intro W hW; (try rw [hW]); go_simp; (try simp)⟩)
      refine yE ?_
      have HR0 := HR
      have RL0 := RL
      have XF0 := XF
      have BF0 := BF
      clear HR RL BF
      generalize hUV : U3 = UV at *
      have BU := Lib.hid (Below.refl UV.heap.size UV)
      clear hUV
      go_upto_region 7 with fail
      refine yB ?_
      refine yW (.pointer (some ⟨p, 3, none⟩)) ?_
      refine yW (.slice a f.kinds.length n) ?_ (.inl ⟨by kernel_rfl, by intro W hW; rw [hW]; have c := qcell XF.out 3 (.slice a f.kinds.length n) rfl; go_simp⟩)
      refine yW (.int .i64 (f.kinds.length : Int)) ?_
      refine yR (fun K hK => ?_)
      have hmk := run_make_ints f.kinds.length (by have := LL.out; omega) UV
      refine qbuild (w' := UV.alloc (.cells ((List.replicate f.kinds.length (0 : Int)).map intV).toArray 3)) (.slice (some ⟨UV.heap.size, 0, none⟩) f.kinds.length f.kinds.length) (by go_simp) ?_
      clear hmk
      have OW : Hid (OwnI UV (UV.alloc (.cells ((List.replicate f.kinds.length (0 : Int)).map intV).toArray 3)) (some ⟨UV.heap.size, 0, none⟩) f.kinds.length f.kinds.length (partK (List.replicate f.kinds.length 0) (fun _ => -1) 0)) := Lib.hid (by rw [partK_zero]; exact own_ints f.kinds.length (by have := LL.out; omega) UV UV.heap.size (Nat.le_refl _))
      have b := zB UV (.cells ((List.replicate f.kinds.length (0 : Int)).map intV).toArray 3)
      obtain ⟨g, hg⟩ : ∃ x, Hid (UV.heap.size = x) := ⟨_, Lib.hid rfl⟩
      replace BU := Lib.hid (BU.out.trans (b.mono BU.out.size))
      clear b XF
      rw [hg.out] at OW ⊢
      generalize hV9 : UV.alloc (.cells ((List.replicate f.kinds.length (0 : Int)).map intV).toArray 3) = U1 at *
      clear hV9
      refine yK hK ?_
      clear hK K
      refine yM (.slice (some ⟨g, 0, none⟩) f.kinds.length f.kinds.length) ?_
      refine yE ?_
      go_wp2_with fail
      generalize U1 = Y1 at *
      go_loopw [7] (fun v wr => ∃ k : Nat, v = .int .i64 (k : Int) ∧ k ≤ f.kinds.length ∧ Hid (Below UV.heap.size UV wr) ∧ Hid (OwnI UV wr (some ⟨g, 0, none⟩) f.kinds.length f.kinds.length (partK (List.replicate f.kinds.length 0) (fun _ => -1) k))) (fun v _ => f.kinds.length - (intOf v).toNat)
      case atStart => exact ⟨0, rfl, Nat.zero_le _, BU, OW⟩
      case round =>
        clear BU OW
        obtain ⟨k, rfl, hk, BU, OW⟩ := hrel
        by_cases hkn : k < f.kinds.length
        · have t0 : decide ((k : Int) < (f.kinds.length : Int)) = true := by simp; omega
          have HK64 : Hid ((k : Int) + 1 ≤ 9223372036854775807) := Lib.hid (by have := LL.out; omega)
          have HKN : Hid (k < f.kinds.length) := Lib.hid hkn
          have hlk : k < f.kinds.length := hkn
          go_upto_region 11 with fail
          clear t0
          refine yB ?_
          refine yM (.slice (some ⟨g, 0, none⟩) f.kinds.length f.kinds.length) ?_
          refine yM (.int .i64 (k : Int)) ?_
          refine yW (.pointer (some ⟨g, k, none⟩)) ?_
          refine yR (fun K hK => ?_)
          have OP := Lib.hid (OW.out.put HKN.out (-1) BU.out.size)
          have cc := OP.out.2.1
          have cf := OP.out.2.2.1
          go_simp
          clear cc cf
          replace BU := Lib.hid (OP.out.2.2.2.2 UV BU.out)
          replace OW := Lib.hid OP.out.1
          rw [partK_set _ _ (by rw [List.length_replicate]; exact HKN.out) rfl] at OW
          clear OP
          generalize wr.setCell ⟨g, k, none⟩ (.int .i64 (-1)) = X5 at *
          refine yK hK ?_
          clear hK K
          refine yE ?_
          go_upto_region 10 with fail
          clear hlk
          have hk64 := HK64.out
          go_wp2_with fail
          go_roundw
          case rel => exact ⟨k + 1, by simp, by omega, BU, OW⟩
          case measure => simp [intOf]; omega
        · have t0 : decide ((k : Int) < (f.kinds.length : Int)) = false := by simp; omega
          have e : k = f.kinds.length := by omega
          subst e
          rw [mkL_none, show mkL f.kinds.length (fun _ => none) = ofS f 0 0 by rw [ofS_start HV.out]; unfold mkL; simp; rw [List.map_const']; simp] at OW
          go_wp2_with fail
          clear t0
          generalize wr = Y2 at *
          go_loopw [8] (fun v wr => ∃ i : Nat, v = .int .i64 (i : Int) ∧ i ≤ NS ∧ Hid (Below UV.heap.size UV wr) ∧ Hid (OwnI UV wr (some ⟨g, 0, none⟩) f.kinds.length f.kinds.length (ofS f i 0))) (fun v _ => NS - (intOf v).toNat)
          case atStart => exact ⟨0, rfl, Nat.zero_le _, BU, OW⟩
          case round =>
            clear BU OW
            obtain ⟨i, rfl, hi, BU, OW⟩ := hrel
            by_cases hin : i < NS
            · have t0 : decide ((i : Int) < (NS : Int)) = true := by simp; omega
              have HIN : Hid (i < NS) := Lib.hid hin
              have HI64 : Hid ((i : Int) + 1 ≤ 9223372036854775807) := Lib.hid (by have := NSB.out; omega)
              obtain ⟨cs, hcs⟩ : ∃ cs, (regListF f)[i]? = some cs := ⟨_, List.getElem?_eq_getElem (by rw [hNS.out]; exact hin)⟩
              obtain ⟨R, off, aj, cj, ha, hc, hrd⟩ := RL0.out.at_ i cs hcs
              subst ha
              obtain ⟨hne, hrg⟩ := rg_mem HV.out hcs
              have CSE : Hid (cs = regAt f (regionsF f).1 i f.kinds.length) := Lib.hid (by
                have h4 := (List.getElem?_eq_some_iff.1 hcs).1
                rw [regList_len] at h4
                rw [regList_at h4] at hcs
                exact (Option.some.inj hcs).symm)
              have CSS : Hid (cs.Pairwise (· < ·)) := Lib.hid (by rw [CSE.out]; exact regAt_sorted)
              have CSB : Hid (1 ≤ cs.length ∧ cs.length ≤ 2304) := Lib.hid ⟨List.length_pos_iff.2 hne, by rw [CSE.out]; exact Nat.le_trans (regAt_len _ _ _ _) LL.out⟩
              obtain ⟨c0, hc0⟩ : ∃ x, cs[0]? = some x := ⟨_, List.getElem?_eq_getElem (List.length_pos_iff.2 hne)⟩
              obtain ⟨gj, oj, haj, _⟩ := hrd.get hc0
              subst haj
              have LC0 := Lib.hid (show LsC UV R (off + i) (some ⟨gj, oj, none⟩) cj cs from ⟨hc, hrd⟩)
              obtain ⟨i2, hi2⟩ : ∃ z : Nat, Hid (i - 1 = z) := ⟨_, Lib.hid rfl⟩
              obtain ⟨ps, hps⟩ : ∃ cs, (regListF f)[i2]? = some cs := ⟨_, List.getElem?_eq_getElem (by rw [hNS.out]; have := hi2.out; omega)⟩
              obtain ⟨R2, off2, aj2, cj2, ha2, hc2, hrd2⟩ := RL0.out.at_ i2 ps hps
              cases ha2
              obtain ⟨hne2, _⟩ := rg_mem HV.out hps
              obtain ⟨p0, hp0⟩ : ∃ x, ps[0]? = some x := ⟨_, List.getElem?_eq_getElem (List.length_pos_iff.2 hne2)⟩
              obtain ⟨gk, ok, hak, _⟩ := hrd2.get hp0
              subst hak
              have LP0 := Lib.hid (show LsC UV R (off + i2) (some ⟨gk, ok, none⟩) cj2 ps from ⟨hc2, hrd2⟩)
              have PSB : Hid (0 < ps.length) := Lib.hid (List.length_pos_iff.2 hne2)
              have HP0 := Lib.hid hp0
              have HLT : Hid (0 < i → p0 < c0) := Lib.hid (fun h0 => heads_lt HV.out hps hcs (by have := hi2.out; omega) hp0 hc0)
              have HC0 := Lib.hid hc0
              have WSI : Hid (0 < i → wrap64 ((i : Int) - 1) = (i2 : Int)) := Lib.hid (fun h0 => by have h1 := hi2.out; have h2 := HIN.out; have h3 := NSB.out; unfold wrap64; omega)
              have I2L : Hid (i2 < NS) := Lib.hid (by have := hi2.out; omega)
              have HIL : Hid (i < (regListF f).length) := Lib.hid (by rw [hNS.out]; exact hin)
              obtain ⟨CL, hCL⟩ : ∃ z, Hid (cs.length = z) := ⟨_, Lib.hid rfl⟩
              clear hcs hne hrg hc0 hc hrd hps hc2 hrd2 hne2 hp0
              go_wp2_with fail
              clear t0
              generalize wr = Y3 at *
              go_loopw [9] (fun v wr => ∃ k : Nat, v = .int .i64 (k : Int) ∧ k ≤ CL ∧ Hid (Below UV.heap.size UV wr) ∧ Hid (OwnI UV wr (some ⟨g, 0, none⟩) f.kinds.length f.kinds.length (ofS f i k))) (fun v _ => CL - (intOf v).toNat)
              case atStart => exact ⟨0, rfl, Nat.zero_le _, BU, OW⟩
              case round =>
                clear BU OW
                obtain ⟨k, rfl, hk, BU, OW⟩ := hrel
                have HR := Lib.hid (HR0.out.below BU.out)
                have RL := Lib.hid (RL0.out.below BU.out)
                have XF := Lib.hid (qblk BU.out XF0.out)
                have LC := Lib.hid (LC0.out.below BU.out)
                have LP := Lib.hid (LP0.out.below BU.out)
                by_cases hkc : k < CL
                · have HK64 : Hid ((k : Int) + 1 ≤ 9223372036854775807) := Lib.hid (by have := CSB.out; have := hCL.out; omega)
                  have HKC : Hid (k < CL) := Lib.hid hkc
                  obtain ⟨x, hx⟩ : ∃ x, cs[k]? = some x := ⟨_, List.getElem?_eq_getElem (by rw [hCL.out]; exact hkc)⟩
                  obtain ⟨xp, hxp⟩ : ∃ x, cs[k - 1]? = some x := ⟨_, List.getElem?_eq_getElem (by rw [hCL.out]; omega)⟩
                  have hx2 := hx
                  rw [CSE.out] at hx2
                  have RX : Hid ((regionsF f).1 x = some (i : Int)) := Lib.hid ((regAt_iff HV.out).1 (List.mem_of_getElem? hx2))
                  have XIN := Lib.hid ((regF HV.out).rg.inr x i RX.out).1
                  obtain ⟨xn, hxn⟩ : ∃ z : Nat, x = (z : Int) := ⟨x.toNat, by have := XIN.out.1; omega⟩
                  subst hxn
                  obtain ⟨fr1, fr2, fr3⟩ := ofS_free HV.out HIL.out hx2
                  have XL : Hid (xn < f.kinds.length) := Lib.hid fr1
                  have FR2 := Lib.hid fr2
                  have FR3 := Lib.hid fr3
                  have CPX := Lib.hid (cellP_in HV.out XIN.out)
                  have ROX := Lib.hid (regionOf_cell HV.out RX.out)
                  have HXX := Lib.hid hx
                  obtain ⟨k2, hk2⟩ : ∃ z : Nat, Hid (k - 1 = z) := ⟨_, Lib.hid rfl⟩
                  have HXP : Hid (cs[k2]? = some xp) := Lib.hid (by rw [← hk2.out]; exact hxp)
                  have K2L : Hid (k2 < CL) := Lib.hid (by have := hk2.out; omega)
                  have SRT : Hid (0 < k → xp < (xn : Int)) := Lib.hid (fun h0 => pairwise_at CSS.out hxp hx (by omega))
                  have WSK : Hid (0 < k → wrap64 ((k : Int) - 1) = (k2 : Int)) := Lib.hid (fun h0 => by have h1 := hk2.out; have h2 := HKC.out; have h3 := CSB.out; have h4 := hCL.out; unfold wrap64; omega)
                  have KZ : Hid (k = 0 → c0 = (xn : Int)) := Lib.hid (fun h0 => by subst h0; have h1 := HC0.out; rw [hx] at h1; exact (Option.some.inj h1).symm)
                  clear hx hxp hx2 fr1 fr2 fr3
                  have tc : decide ((k : Int) < (CL : Int)) = true := by simp; omega
                  have zi : i < NS := HIN.out
                  go_upto_region 16 with fail
                  refine yB ?_
                  refine yMs [.int .i64 (k : Int), .slice (some ⟨R, off, none⟩) NS lm, .int .i64 (i : Int)] (fun W => ⟨.inl ⟨by kernel_rfl, by kernel_rfl⟩, .inl ⟨by kernel_rfl, by kernel_rfl⟩, .inl ⟨by kernel_rfl, by kernel_rfl⟩, trivial⟩) ?_
                  refine yW (.pointer (some ⟨R, off + i, none⟩)) ?_
                  refine yW (.slice (some ⟨gj, oj, none⟩) CL cj) ?_ (.inl ⟨by kernel_rfl, by intro W hW; rw [hW]; have c := (LC.out).cell; rw [hCL.out] at c; go_simp; (try rfl)⟩)
                  refine yW (.int .i64 (CL : Int)) ?_
                  refine yW (.bool true) ?_ (.inl ⟨by kernel_rfl, by intro W hW; rw [hW]; go_simp; first | done | exact tc | (simp; omega)⟩)
                  refine yE ?_
                  clear tc
                  have zk : k < CL := HKC.out
                  go_upto_region 18 with fail
                  refine yB ?_
                  refine yM (.slice (some ⟨R, off, none⟩) NS lm) ?_
                  refine yM (.int .i64 (i : Int)) ?_
                  refine yW (.pointer (some ⟨R, off + i, none⟩)) ?_
                  refine yW (.slice (some ⟨gj, oj, none⟩) CL cj) ?_ (.inl ⟨by kernel_rfl, by intro W hW; rw [hW]; have c := (LC.out).cell; rw [hCL.out] at c; go_simp; (try rfl)⟩)
                  refine yM (.int .i64 (k : Int)) ?_
                  refine yW (.pointer (some ⟨gj, oj + k, none⟩)) ?_
                  refine yW (.int .i64 (xn : Int)) ?_ (.inl ⟨by kernel_rfl, by intro W hW; rw [hW]; have c := rdi_at (LC.out).rd HXX.out; go_simp⟩)
                  refine yM (.int .i64 (xn : Int)) ?_
                  refine yE ?_
                  have zx : xn < f.kinds.length := XL.out
                  have zi2 : i2 < NS := I2L.out
                  have zk2 : k2 < CL := K2L.out
                  have zp := PSB.out
                  go_upto_region 19 with fail
                  refine yB ?_
                  refine yM (.int .i64 (xn : Int)) ?_
                  refine yW (.bool false) ?_ (.inl ⟨by kernel_rfl, by intro W hW; rw [hW]; go_simp; first | done | (simp; done) | (simp; omega)⟩)
                  refine yMs [.bool false, .int .i64 (xn : Int), .slice (some ⟨g, 0, none⟩) f.kinds.length f.kinds.length] (fun W => ⟨.inl ⟨by kernel_rfl, by kernel_rfl⟩, .inl ⟨by kernel_rfl, by kernel_rfl⟩, .inl ⟨by kernel_rfl, by kernel_rfl⟩, trivial⟩) ?_
                  refine yW (.int .i64 (f.kinds.length : Int)) ?_
                  refine yW (.bool false) ?_ (.inl ⟨by kernel_rfl, by intro W hW; rw [hW]; go_simp; first | done | (simp; done) | (simp; omega)⟩)
                  refine yMs [.bool false, .bool false, .slice (some ⟨g, 0, none⟩) f.kinds.length f.kinds.length, .int .i64 (xn : Int)] (fun W => ⟨.inl ⟨by kernel_rfl, by kernel_rfl⟩, .inl ⟨by kernel_rfl, by kernel_rfl⟩, .inl ⟨by kernel_rfl, by kernel_rfl⟩, .inl ⟨by kernel_rfl, by kernel_rfl⟩, trivial⟩) ?_
                  refine yW (.pointer (some ⟨g, xn, none⟩)) ?_
                  refine yW (.int .i64 (-1)) ?_ (.inl ⟨by kernel_rfl, by intro W hW; rw [hW]; have c := rdi_at (OW.out).rd FR2.out; rw [Nat.zero_add] at c; go_simp; (try rfl)⟩)
                  refine yW (.bool false) ?_
                  refine yMs [.bool false, .bool false, .int .i64 (k : Int)] (fun W => ⟨.inl ⟨by kernel_rfl, by kernel_rfl⟩, .inl ⟨by kernel_rfl, by kernel_rfl⟩, .inl ⟨by kernel_rfl, by kernel_rfl⟩, trivial⟩) ?_
                  cases hk0 : decide ((0 : Int) < (k : Int))
                  · refine yW (.bool false) ?_ (.inl ⟨by kernel_rfl, by intro W hW; rw [hW]; go_simp; first | done | (simpa using hk0) | (have h9 := of_decide_eq_true hk0; omega) | (have h9 := of_decide_eq_false hk0; omega)⟩)
                    refine yMs [.bool false, undef, undef, undef, undef, undef, undef, undef, undef, undef, undef, .bool false, .bool false, .bool false, .int .i64 (k : Int)] (fun W => ⟨.inl ⟨by kernel_rfl, by kernel_rfl⟩, .inr ⟨by kernel_rfl, rfl⟩, .inr ⟨by kernel_rfl, rfl⟩, .inr ⟨by kernel_rfl, rfl⟩, .inr ⟨by kernel_rfl, rfl⟩, .inr ⟨by kernel_rfl, rfl⟩, .inr ⟨by kernel_rfl, rfl⟩, .inr ⟨by kernel_rfl, rfl⟩, .inr ⟨by kernel_rfl, rfl⟩, .inr ⟨by kernel_rfl, rfl⟩, .inr ⟨by kernel_rfl, rfl⟩, .inl ⟨by kernel_rfl, by kernel_rfl⟩, .inl ⟨by kernel_rfl, by kernel_rfl⟩, .inl ⟨by kernel_rfl, by kernel_rfl⟩, .inl ⟨by kernel_rfl, by kernel_rfl⟩, trivial⟩) ?_
                    refine yW (.bool true) ?_ (.inl ⟨by kernel_rfl, by intro W hW; rw [hW]; go_simp; first | done | (have h9 := of_decide_eq_true hk0; omega) | (have h9 := of_decide_eq_false hk0; omega) | (have h9 := of_decide_eq_true hk0; simp; omega) | (have h9 := of_decide_eq_false hk0; simp; omega)⟩)
                    refine yM (.bool true) ?_
                    refine yM (.int .i64 (i : Int)) ?_
                    cases hi0 : decide ((0 : Int) < (i : Int))
                    · refine yW (.bool false) ?_ (.inl ⟨by kernel_rfl, by intro W hW; rw [hW]; go_simp; first | done | (simpa using hi0) | (have h9 := of_decide_eq_true hi0; omega) | (have h9 := of_decide_eq_false hi0; omega)⟩)
                      refine yMs [.bool false, .bool false, undef, undef, undef, undef, undef, undef, undef, undef, undef, .bool false, .bool false] (fun W => ⟨.inl ⟨by kernel_rfl, by kernel_rfl⟩, .inl ⟨by kernel_rfl, by kernel_rfl⟩, .inr ⟨by kernel_rfl, rfl⟩, .inr ⟨by kernel_rfl, rfl⟩, .inr ⟨by kernel_rfl, rfl⟩, .inr ⟨by kernel_rfl, rfl⟩, .inr ⟨by kernel_rfl, rfl⟩, .inr ⟨by kernel_rfl, rfl⟩, .inr ⟨by kernel_rfl, rfl⟩, .inr ⟨by kernel_rfl, rfl⟩, .inr ⟨by kernel_rfl, rfl⟩, .inl ⟨by kernel_rfl, by kernel_rfl⟩, .inl ⟨by kernel_rfl, by kernel_rfl⟩, trivial⟩) ?_
                      refine yE ?_
                      go_upto_region 21 with fail
                      refine yB ?_
                      refine yMs [.slice (some ⟨g, 0, none⟩) f.kinds.length f.kinds.length, .int .i64 (xn : Int), .int .i64 (i : Int)] (fun W => ⟨.inl ⟨by kernel_rfl, by kernel_rfl⟩, .inl ⟨by kernel_rfl, by kernel_rfl⟩, .inl ⟨by kernel_rfl, by kernel_rfl⟩, trivial⟩) ?_
                      refine yW (.pointer (some ⟨g, xn, none⟩)) ?_
                      refine yR (fun K hK => ?_)
                      have OP := Lib.hid (OW.out.put XL.out (i : Int) BU.out.size)
                      have cc := OP.out.2.1
                      have cf := OP.out.2.2.1
                      go_simp
                      clear cc cf
                      replace BU := Lib.hid (OP.out.2.2.2.2 UV BU.out)
                      replace OW := Lib.hid OP.out.1
                      rw [FR3.out] at OW
                      clear HR RL XF LC LP
                      clear OP
                      generalize wr.setCell ⟨g, xn, none⟩ (.int .i64 (i : Int)) = X6 at *
                      refine yK hK ?_
                      clear hK K
                      refine yE ?_
                      have HR := Lib.hid (HR0.out.below BU.out)
                      have XF := Lib.hid (qblk BU.out XF0.out)
                      go_upto_region 22 with fail
                      refine yB ?_
                      refine yW (.agg (f.cells a n)) ?_ (qyrow (by kernel_rfl) 28 _ rfl p rfl _ 28 (0, 0) _ (fun W hW => by rw [hW]; exact XF.out) Tryz.underlying28 rfl (by exact (qJF f a n)))
                      refine yM (.int .i64 (xn : Int)) ?_
                      refine yR (fun K hK => ?_)
                      go_simp
                      refine (cellP_any f a n (xn : Int) _ HR.out).mono ?_
                      rintro e U4 ⟨rfl, b⟩
                      rw [CPX.out]
                      replace BU := Lib.hid (BU.out.trans (b.mono BU.out.size))
                      replace HR := Lib.hid (HR.out.below b)
                      replace OW := Lib.hid (OW.out.below b)
                      replace XF := Lib.hid (qblk b XF.out)
                      clear b
                      try dsimp only
                      refine yK hK ?_
                      clear hK K
                      refine yMs [.tuple #[.agg (cellA (cellF f (xn : Int))), .int .i64 0], .agg (cellA (cellF f (xn : Int))), .int .i64 0] (fun W => ⟨.inl ⟨by kernel_rfl, by kernel_rfl⟩, .inl ⟨by kernel_rfl, by kernel_rfl⟩, .inl ⟨by kernel_rfl, by kernel_rfl⟩, trivial⟩) ?_
                      refine yR (fun K hK => ?_)
                      refine qbuild (w' := U4.alloc (.cells #[.int .i64 0, .int .i64 0] 41)) (.pointer (some ⟨U4.heap.size, 0, none⟩)) (by kernel_rfl) ?_
                      obtain ⟨x11, hx11⟩ : ∃ x, Hid (U4.heap.size = x) := ⟨_, Lib.hid rfl⟩
                      have AL := Lib.hid (al1 U4 (.cells #[.int .i64 0, .int .i64 0] 41))
                      rw [hx11.out] at AL ⊢
                      refine yK hK ?_
                      clear hK K
                      refine yR (fun K hK => ?_)
                      refine qstore 41 _ _ rfl x11 #[.int .i64 0, .int .i64 0] (cellA (cellF f (xn : Int))) 41 rfl rfl AL.out.2 (by exact (qJC (cellF f (xn : Int)))) rfl (qoneC (cellF f (xn : Int))) ?_
                      intro U5 h8 hg8 hs8
                      have b : Below U4.heap.size U4 U5 := qstep (by have h1 := AL.out.1; rw [← hx11.out] at h1; exact h1) hg8 (Nat.le_of_eq hx11.out)
                      replace BU := Lib.hid (BU.out.trans (b.mono BU.out.size))
                      replace HR := Lib.hid (HR.out.below b)
                      replace OW := Lib.hid (OW.out.below b)
                      replace XF := Lib.hid (qblk b XF.out)
                      clear b
                      have Xx11 := Lib.hid h8
                      clear h8 hg8 hs8 AL
                      refine yK hK ?_
                      clear hK K
                      refine yM (.int .i64 0) ?_
                      refine yE ?_
                      go_upto_region 23 with fail
                      refine yB ?_
                      refine yW (.agg (f.cells a n)) ?_ (qyrow (by kernel_rfl) 28 _ rfl p rfl _ 28 (0, 0) _ (fun W hW => by rw [hW]; exact XF.out) Tryz.underlying28 rfl (by exact (qJF f a n)))
                      refine yW (.agg (cellA (cellF f (xn : Int)))) ?_ (qyrow (by kernel_rfl) 41 _ rfl x11 rfl _ 41 (0, 0) _ (fun W hW => by rw [hW]; exact Xx11.out) Tryz.underlying41 rfl (by exact (qJC (cellF f (xn : Int)))))
                      refine yR (fun K hK => ?_)
                      go_simp
                      refine (regionOf_any f a n (cellF f (xn : Int)) _ HR.out).mono ?_
                      rintro e U6 ⟨rfl, b⟩
                      rw [ROX.out]
                      replace BU := Lib.hid (BU.out.trans (b.mono BU.out.size))
                      replace HR := Lib.hid (HR.out.below b)
                      replace OW := Lib.hid (OW.out.below b)
                      replace XF := Lib.hid (qblk b XF.out)
                      replace Xx11 := Lib.hid (qblk b Xx11.out)
                      clear b
                      try dsimp only
                      refine yK hK ?_
                      clear hK K
                      refine yMs [.tuple #[.int .i64 (i : Int), .int .i64 0], .int .i64 (i : Int), .int .i64 0, .int .i64 (i : Int), .int .i64 0] (fun W => ⟨.inl ⟨by kernel_rfl, by kernel_rfl⟩, .inl ⟨by kernel_rfl, by kernel_rfl⟩, .inl ⟨by kernel_rfl, by kernel_rfl⟩, .inl ⟨by kernel_rfl, by kernel_rfl⟩, .inl ⟨by kernel_rfl, by kernel_rfl⟩, trivial⟩) ?_
                      refine yE ?_
                      go_upto_region 24 with fail
                      refine yB ?_
                      refine yM (.int .i64 0) ?_
                      refine yW (.bool false) ?_ (.inl ⟨by kernel_rfl, by intro W hW; (try rw [hW]); go_simp; (try simp)⟩)
                      refine yM (.bool false) ?_
                      refine yM (.int .i64 0) ?_
                      refine yW (.bool false) ?_ (.inl ⟨by kernel_rfl, by intro W hW; (try rw [hW]); go_simp; (try simp)⟩)
                      refine yMs [.bool false, .bool false, .int .i64 (i : Int), .int .i64 (i : Int)] (fun W => ⟨.inl ⟨by kernel_rfl, by kernel_rfl⟩, .inl ⟨by kernel_rfl, by kernel_rfl⟩, .inl ⟨by kernel_rfl, by kernel_rfl⟩, .inl ⟨by kernel_rfl, by kernel_rfl⟩, trivial⟩) ?_
                      refine yW (.bool false) ?_ (.inl ⟨by kernel_rfl, by intro W hW; (try rw [hW]); go_simp; (try simp)⟩)
                      refine yM (.bool false) ?_
                      refine yE ?_
                      go_upto_region 17 with fail
                      clear zi zk zx zi2 zk2 zp
                      have hk64 := HK64.out
                      go_wp2_with fail
                      go_roundw
                      case rel => exact ⟨k + 1, by simp, by have := HKC.out; omega, BU, OW⟩
                      case measure => have := HKC.out; simp [intOf]; omega
                    · refine yW (.bool true) ?_ (.inl ⟨by kernel_rfl, by intro W hW; rw [hW]; go_simp; first | done | (simpa using hi0) | (have h9 := of_decide_eq_true hi0; omega) | (have h9 := of_decide_eq_false hi0; omega)⟩)
                      refine yMs [.bool true, .bool true, .int .i64 (xn : Int), .slice (some ⟨R, off, none⟩) NS lm, .int .i64 (i : Int)] (fun W => ⟨.inl ⟨by kernel_rfl, by kernel_rfl⟩, .inl ⟨by kernel_rfl, by kernel_rfl⟩, .inl ⟨by kernel_rfl, by kernel_rfl⟩, .inl ⟨by kernel_rfl, by kernel_rfl⟩, .inl ⟨by kernel_rfl, by kernel_rfl⟩, trivial⟩) ?_
                      refine yW (.int .i64 (i2 : Int)) ?_ (.inl ⟨by kernel_rfl, by intro W hW; rw [hW]; go_simp; exact (IntWalk.i64_left _).trans (WSI.out (by have := of_decide_eq_true hi0; omega))⟩)
                      refine yW (.pointer (some ⟨R, off + i2, none⟩)) ?_
                      refine yW (.slice (some ⟨gk, ok, none⟩) ps.length cj2) ?_ (.inl ⟨by kernel_rfl, by intro W hW; rw [hW]; have c := (LP.out).cell; go_simp⟩)
                      refine yW (.pointer (some ⟨gk, ok, none⟩)) ?_
                      refine yW (.int .i64 p0) ?_ (.inl ⟨by kernel_rfl, by intro W hW; rw [hW]; have c := rdi_at (LP.out).rd HP0.out; rw [Nat.add_zero] at c; go_simp; (try rfl)⟩)
                      refine yW (.bool false) ?_ (.inl ⟨by kernel_rfl, by intro W hW; rw [hW]; go_simp; have h9 := HLT.out (by have := of_decide_eq_true hi0; omega); have h8 := KZ.out (by have := of_decide_eq_false hk0; omega); first | done | (simp; done) | (simp; omega)⟩)
                      refine yM (.bool false) ?_
                      refine yM (.bool false) ?_
                      refine yE ?_
                      go_upto_region 21 with fail
                      refine yB ?_
                      refine yMs [.slice (some ⟨g, 0, none⟩) f.kinds.length f.kinds.length, .int .i64 (xn : Int), .int .i64 (i : Int)] (fun W => ⟨.inl ⟨by kernel_rfl, by kernel_rfl⟩, .inl ⟨by kernel_rfl, by kernel_rfl⟩, .inl ⟨by kernel_rfl, by kernel_rfl⟩, trivial⟩) ?_
                      refine yW (.pointer (some ⟨g, xn, none⟩)) ?_
                      refine yR (fun K hK => ?_)
                      have OP := Lib.hid (OW.out.put XL.out (i : Int) BU.out.size)
                      have cc := OP.out.2.1
                      have cf := OP.out.2.2.1
                      go_simp
                      clear cc cf
                      replace BU := Lib.hid (OP.out.2.2.2.2 UV BU.out)
                      replace OW := Lib.hid OP.out.1
                      rw [FR3.out] at OW
                      clear HR RL XF LC LP
                      clear OP
                      generalize wr.setCell ⟨g, xn, none⟩ (.int .i64 (i : Int)) = X6 at *
                      refine yK hK ?_
                      clear hK K
                      refine yE ?_
                      have HR := Lib.hid (HR0.out.below BU.out)
                      have XF := Lib.hid (qblk BU.out XF0.out)
                      go_upto_region 22 with fail
                      refine yB ?_
                      refine yW (.agg (f.cells a n)) ?_ (qyrow (by kernel_rfl) 28 _ rfl p rfl _ 28 (0, 0) _ (fun W hW => by rw [hW]; exact XF.out) Tryz.underlying28 rfl (by exact (qJF f a n)))
                      refine yM (.int .i64 (xn : Int)) ?_
                      refine yR (fun K hK => ?_)
                      go_simp
                      refine (cellP_any f a n (xn : Int) _ HR.out).mono ?_
                      rintro e U4 ⟨rfl, b⟩
                      rw [CPX.out]
                      replace BU := Lib.hid (BU.out.trans (b.mono BU.out.size))
                      replace HR := Lib.hid (HR.out.below b)
                      replace OW := Lib.hid (OW.out.below b)
                      replace XF := Lib.hid (qblk b XF.out)
                      clear b
                      try dsimp only
                      refine yK hK ?_
                      clear hK K
                      refine yMs [.tuple #[.agg (cellA (cellF f (xn : Int))), .int .i64 0], .agg (cellA (cellF f (xn : Int))), .int .i64 0] (fun W => ⟨.inl ⟨by kernel_rfl, by kernel_rfl⟩, .inl ⟨by kernel_rfl, by kernel_rfl⟩, .inl ⟨by kernel_rfl, by kernel_rfl⟩, trivial⟩) ?_
                      refine yR (fun K hK => ?_)
                      refine qbuild (w' := U4.alloc (.cells #[.int .i64 0, .int .i64 0] 41)) (.pointer (some ⟨U4.heap.size, 0, none⟩)) (by kernel_rfl) ?_
                      obtain ⟨x11, hx11⟩ : ∃ x, Hid (U4.heap.size = x) := ⟨_, Lib.hid rfl⟩
                      have AL := Lib.hid (al1 U4 (.cells #[.int .i64 0, .int .i64 0] 41))
                      rw [hx11.out] at AL ⊢
                      refine yK hK ?_
                      clear hK K
                      refine yR (fun K hK => ?_)
                      refine qstore 41 _ _ rfl x11 #[.int .i64 0, .int .i64 0] (cellA (cellF f (xn : Int))) 41 rfl rfl AL.out.2 (by exact (qJC (cellF f (xn : Int)))) rfl (qoneC (cellF f (xn : Int))) ?_
                      intro U5 h8 hg8 hs8
                      have b : Below U4.heap.size U4 U5 := qstep (by have h1 := AL.out.1; rw [← hx11.out] at h1; exact h1) hg8 (Nat.le_of_eq hx11.out)
                      replace BU := Lib.hid (BU.out.trans (b.mono BU.out.size))
                      replace HR := Lib.hid (HR.out.below b)
                      replace OW := Lib.hid (OW.out.below b)
                      replace XF := Lib.hid (qblk b XF.out)
                      clear b
                      have Xx11 := Lib.hid h8
                      clear h8 hg8 hs8 AL
                      refine yK hK ?_
                      clear hK K
                      refine yM (.int .i64 0) ?_
                      refine yE ?_
                      go_upto_region 23 with fail
                      refine yB ?_
                      refine yW (.agg (f.cells a n)) ?_ (qyrow (by kernel_rfl) 28 _ rfl p rfl _ 28 (0, 0) _ (fun W hW => by rw [hW]; exact XF.out) Tryz.underlying28 rfl (by exact (qJF f a n)))
                      refine yW (.agg (cellA (cellF f (xn : Int)))) ?_ (qyrow (by kernel_rfl) 41 _ rfl x11 rfl _ 41 (0, 0) _ (fun W hW => by rw [hW]; exact Xx11.out) Tryz.underlying41 rfl (by exact (qJC (cellF f (xn : Int)))))
                      refine yR (fun K hK => ?_)
                      go_simp
                      refine (regionOf_any f a n (cellF f (xn : Int)) _ HR.out).mono ?_
                      rintro e U6 ⟨rfl, b⟩
                      rw [ROX.out]
                      replace BU := Lib.hid (BU.out.trans (b.mono BU.out.size))
                      replace HR := Lib.hid (HR.out.below b)
                      replace OW := Lib.hid (OW.out.below b)
                      replace XF := Lib.hid (qblk b XF.out)
                      replace Xx11 := Lib.hid (qblk b Xx11.out)
                      clear b
                      try dsimp only
                      refine yK hK ?_
                      clear hK K
                      refine yMs [.tuple #[.int .i64 (i : Int), .int .i64 0], .int .i64 (i : Int), .int .i64 0, .int .i64 (i : Int), .int .i64 0] (fun W => ⟨.inl ⟨by kernel_rfl, by kernel_rfl⟩, .inl ⟨by kernel_rfl, by kernel_rfl⟩, .inl ⟨by kernel_rfl, by kernel_rfl⟩, .inl ⟨by kernel_rfl, by kernel_rfl⟩, .inl ⟨by kernel_rfl, by kernel_rfl⟩, trivial⟩) ?_
                      refine yE ?_
                      go_upto_region 24 with fail
                      refine yB ?_
                      refine yM (.int .i64 0) ?_
                      refine yW (.bool false) ?_ (.inl ⟨by kernel_rfl, by intro W hW; (try rw [hW]); go_simp; (try simp)⟩)
                      refine yM (.bool false) ?_
                      refine yM (.int .i64 0) ?_
                      refine yW (.bool false) ?_ (.inl ⟨by kernel_rfl, by intro W hW; (try rw [hW]); go_simp; (try simp)⟩)
                      refine yMs [.bool false, .bool false, .int .i64 (i : Int), .int .i64 (i : Int)] (fun W => ⟨.inl ⟨by kernel_rfl, by kernel_rfl⟩, .inl ⟨by kernel_rfl, by kernel_rfl⟩, .inl ⟨by kernel_rfl, by kernel_rfl⟩, .inl ⟨by kernel_rfl, by kernel_rfl⟩, trivial⟩) ?_
                      refine yW (.bool false) ?_ (.inl ⟨by kernel_rfl, by intro W hW; (try rw [hW]); go_simp; (try simp)⟩)
                      refine yM (.bool false) ?_
                      refine yE ?_
                      go_upto_region 17 with fail
                      clear zi zk zx zi2 zk2 zp
                      have hk64 := HK64.out
                      go_wp2_with fail
                      go_roundw
                      case rel => exact ⟨k + 1, by simp, by have := HKC.out; omega, BU, OW⟩
                      case measure => have := HKC.out; simp [intOf]; omega
                  · refine yW (.bool true) ?_ (.inl ⟨by kernel_rfl, by intro W hW; rw [hW]; go_simp; first | done | (simpa using hk0) | (have h9 := of_decide_eq_true hk0; omega) | (have h9 := of_decide_eq_false hk0; omega)⟩)
                    refine yMs [.bool true, .int .i64 (xn : Int), .slice (some ⟨R, off, none⟩) NS lm, .int .i64 (i : Int)] (fun W => ⟨.inl ⟨by kernel_rfl, by kernel_rfl⟩, .inl ⟨by kernel_rfl, by kernel_rfl⟩, .inl ⟨by kernel_rfl, by kernel_rfl⟩, .inl ⟨by kernel_rfl, by kernel_rfl⟩, trivial⟩) ?_
                    refine yW (.pointer (some ⟨R, off + i, none⟩)) ?_
                    refine yW (.slice (some ⟨gj, oj, none⟩) CL cj) ?_ (.inl ⟨by kernel_rfl, by intro W hW; rw [hW]; have c := (LC.out).cell; rw [hCL.out] at c; go_simp; (try rfl)⟩)
                    refine yM (.int .i64 (k : Int)) ?_
                    refine yW (.int .i64 (k2 : Int)) ?_ (.inl ⟨by kernel_rfl, by intro W hW; rw [hW]; go_simp; exact (IntWalk.i64_left _).trans (WSK.out (by have := of_decide_eq_true hk0; omega))⟩)
                    refine yW (.pointer (some ⟨gj, oj + k2, none⟩)) ?_
                    refine yW (.int .i64 xp) ?_ (.inl ⟨by kernel_rfl, by intro W hW; rw [hW]; have c := rdi_at (LC.out).rd HXP.out; go_simp⟩)
                    refine yW (.bool false) ?_ (.inl ⟨by kernel_rfl, by intro W hW; rw [hW]; go_simp; have h9 := SRT.out (by have := of_decide_eq_true hk0; omega); first | done | (simp; done) | (simp; omega)⟩)
                    refine yMs [.bool false, .bool false, .bool false, .int .i64 (k : Int)] (fun W => ⟨.inl ⟨by kernel_rfl, by kernel_rfl⟩, .inl ⟨by kernel_rfl, by kernel_rfl⟩, .inl ⟨by kernel_rfl, by kernel_rfl⟩, .inl ⟨by kernel_rfl, by kernel_rfl⟩, trivial⟩) ?_
                    refine yW (.bool false) ?_ (.inl ⟨by kernel_rfl, by intro W hW; rw [hW]; go_simp; first | done | (have h9 := of_decide_eq_true hk0; omega) | (have h9 := of_decide_eq_false hk0; omega) | (have h9 := of_decide_eq_true hk0; simp; omega) | (have h9 := of_decide_eq_false hk0; simp; omega)⟩)
                    refine yMs [.bool false, undef, undef, .bool false, .bool false, undef, undef, undef, undef, undef, undef, undef, undef, undef, .bool false, .bool false] (fun W => ⟨.inl ⟨by kernel_rfl, by kernel_rfl⟩, .inr ⟨by kernel_rfl, rfl⟩, .inr ⟨by kernel_rfl, rfl⟩, .inl ⟨by kernel_rfl, by kernel_rfl⟩, .inl ⟨by kernel_rfl, by kernel_rfl⟩, .inr ⟨by kernel_rfl, rfl⟩, .inr ⟨by kernel_rfl, rfl⟩, .inr ⟨by kernel_rfl, rfl⟩, .inr ⟨by kernel_rfl, rfl⟩, .inr ⟨by kernel_rfl, rfl⟩, .inr ⟨by kernel_rfl, rfl⟩, .inr ⟨by kernel_rfl, rfl⟩, .inr ⟨by kernel_rfl, rfl⟩, .inr ⟨by kernel_rfl, rfl⟩, .inl ⟨by kernel_rfl, by kernel_rfl⟩, .inl ⟨by kernel_rfl, by kernel_rfl⟩, trivial⟩) ?_
                    refine yE ?_
                    go_upto_region 21 with fail
                    refine yB ?_
                    refine yMs [.slice (some ⟨g, 0, none⟩) f.kinds.length f.kinds.length, .int .i64 (xn : Int), .int .i64 (i : Int)] (fun W => ⟨.inl ⟨by kernel_rfl, by kernel_rfl⟩, .inl ⟨by kernel_rfl, by kernel_rfl⟩, .inl ⟨by kernel_rfl, by kernel_rfl⟩, trivial⟩) ?_
                    refine yW (.pointer (some ⟨g, xn, none⟩)) ?_
                    refine yR (fun K hK => ?_)
                    have OP := Lib.hid (OW.out.put XL.out (i : Int) BU.out.size)
                    have cc := OP.out.2.1
                    have cf := OP.out.2.2.1
                    go_simp
                    clear cc cf
                    replace BU := Lib.hid (OP.out.2.2.2.2 UV BU.out)
                    replace OW := Lib.hid OP.out.1
                    rw [FR3.out] at OW
                    clear HR RL XF LC LP
                    clear OP
                    generalize wr.setCell ⟨g, xn, none⟩ (.int .i64 (i : Int)) = X6 at *
                    refine yK hK ?_
                    clear hK K
                    refine yE ?_
                    have HR := Lib.hid (HR0.out.below BU.out)
                    have XF := Lib.hid (qblk BU.out XF0.out)
                    go_upto_region 22 with fail
                    refine yB ?_
                    refine yW (.agg (f.cells a n)) ?_ (qyrow (by kernel_rfl) 28 _ rfl p rfl _ 28 (0, 0) _ (fun W hW => by rw [hW]; exact XF.out) Tryz.underlying28 rfl (by exact (qJF f a n)))
                    refine yM (.int .i64 (xn : Int)) ?_
                    refine yR (fun K hK => ?_)
                    go_simp
                    refine (cellP_any f a n (xn : Int) _ HR.out).mono ?_
                    rintro e U4 ⟨rfl, b⟩
                    rw [CPX.out]
                    replace BU := Lib.hid (BU.out.trans (b.mono BU.out.size))
                    replace HR := Lib.hid (HR.out.below b)
                    replace OW := Lib.hid (OW.out.below b)
                    replace XF := Lib.hid (qblk b XF.out)
                    clear b
                    try dsimp only
                    refine yK hK ?_
                    clear hK K
                    refine yMs [.tuple #[.agg (cellA (cellF f (xn : Int))), .int .i64 0], .agg (cellA (cellF f (xn : Int))), .int .i64 0] (fun W => ⟨.inl ⟨by kernel_rfl, by kernel_rfl⟩, .inl ⟨by kernel_rfl, by kernel_rfl⟩, .inl ⟨by kernel_rfl, by kernel_rfl⟩, trivial⟩) ?_
                    refine yR (fun K hK => ?_)
                    refine qbuild (w' := U4.alloc (.cells #[.int .i64 0, .int .i64 0] 41)) (.pointer (some ⟨U4.heap.size, 0, none⟩)) (by kernel_rfl) ?_
                    obtain ⟨x11, hx11⟩ : ∃ x, Hid (U4.heap.size = x) := ⟨_, Lib.hid rfl⟩
                    have AL := Lib.hid (al1 U4 (.cells #[.int .i64 0, .int .i64 0] 41))
                    rw [hx11.out] at AL ⊢
                    refine yK hK ?_
                    clear hK K
                    refine yR (fun K hK => ?_)
                    refine qstore 41 _ _ rfl x11 #[.int .i64 0, .int .i64 0] (cellA (cellF f (xn : Int))) 41 rfl rfl AL.out.2 (by exact (qJC (cellF f (xn : Int)))) rfl (qoneC (cellF f (xn : Int))) ?_
                    intro U5 h8 hg8 hs8
                    have b : Below U4.heap.size U4 U5 := qstep (by have h1 := AL.out.1; rw [← hx11.out] at h1; exact h1) hg8 (Nat.le_of_eq hx11.out)
                    replace BU := Lib.hid (BU.out.trans (b.mono BU.out.size))
                    replace HR := Lib.hid (HR.out.below b)
                    replace OW := Lib.hid (OW.out.below b)
                    replace XF := Lib.hid (qblk b XF.out)
                    clear b
                    have Xx11 := Lib.hid h8
                    clear h8 hg8 hs8 AL
                    refine yK hK ?_
                    clear hK K
                    refine yM (.int .i64 0) ?_
                    refine yE ?_
                    go_upto_region 23 with fail
                    refine yB ?_
                    refine yW (.agg (f.cells a n)) ?_ (qyrow (by kernel_rfl) 28 _ rfl p rfl _ 28 (0, 0) _ (fun W hW => by rw [hW]; exact XF.out) Tryz.underlying28 rfl (by exact (qJF f a n)))
                    refine yW (.agg (cellA (cellF f (xn : Int)))) ?_ (qyrow (by kernel_rfl) 41 _ rfl x11 rfl _ 41 (0, 0) _ (fun W hW => by rw [hW]; exact Xx11.out) Tryz.underlying41 rfl (by exact (qJC (cellF f (xn : Int)))))
                    refine yR (fun K hK => ?_)
                    go_simp
                    refine (regionOf_any f a n (cellF f (xn : Int)) _ HR.out).mono ?_
                    rintro e U6 ⟨rfl, b⟩
                    rw [ROX.out]
                    replace BU := Lib.hid (BU.out.trans (b.mono BU.out.size))
                    replace HR := Lib.hid (HR.out.below b)
                    replace OW := Lib.hid (OW.out.below b)
                    replace XF := Lib.hid (qblk b XF.out)
                    replace Xx11 := Lib.hid (qblk b Xx11.out)
                    clear b
                    try dsimp only
                    refine yK hK ?_
                    clear hK K
                    refine yMs [.tuple #[.int .i64 (i : Int), .int .i64 0], .int .i64 (i : Int), .int .i64 0, .int .i64 (i : Int), .int .i64 0] (fun W => ⟨.inl ⟨by kernel_rfl, by kernel_rfl⟩, .inl ⟨by kernel_rfl, by kernel_rfl⟩, .inl ⟨by kernel_rfl, by kernel_rfl⟩, .inl ⟨by kernel_rfl, by kernel_rfl⟩, .inl ⟨by kernel_rfl, by kernel_rfl⟩, trivial⟩) ?_
                    refine yE ?_
                    go_upto_region 24 with fail
                    refine yB ?_
                    refine yM (.int .i64 0) ?_
                    refine yW (.bool false) ?_ (.inl ⟨by kernel_rfl, by intro W hW; (try rw [hW]); go_simp; (try simp)⟩)
                    refine yM (.bool false) ?_
                    refine yM (.int .i64 0) ?_
                    refine yW (.bool false) ?_ (.inl ⟨by kernel_rfl, by intro W hW; (try rw [hW]); go_simp; (try simp)⟩)
                    refine yMs [.bool false, .bool false, .int .i64 (i : Int), .int .i64 (i : Int)] (fun W => ⟨.inl ⟨by kernel_rfl, by kernel_rfl⟩, .inl ⟨by kernel_rfl, by kernel_rfl⟩, .inl ⟨by kernel_rfl, by kernel_rfl⟩, .inl ⟨by kernel_rfl, by kernel_rfl⟩, trivial⟩) ?_
                    refine yW (.bool false) ?_ (.inl ⟨by kernel_rfl, by intro W hW; (try rw [hW]); go_simp; (try simp)⟩)
                    refine yM (.bool false) ?_
                    refine yE ?_
                    go_upto_region 17 with fail
                    clear zi zk zx zi2 zk2 zp
                    have hk64 := HK64.out
                    go_wp2_with fail
                    go_roundw
                    case rel => exact ⟨k + 1, by simp, by have := HKC.out; omega, BU, OW⟩
                    case measure => have := HKC.out; simp [intOf]; omega
                · have e : k = CL := by omega
                  have ON := Lib.hid (ofS_next HV.out (i := i) (k := k) (by rw [← CSE.out, hCL.out]; omega))
                  rw [ON.out] at OW
                  have tc : decide ((k : Int) < (CL : Int)) = false := by simp; omega
                  have zi : i < NS := HIN.out
                  go_upto_region 16 with fail
                  refine yB ?_
                  refine yMs [.int .i64 (k : Int), .slice (some ⟨R, off, none⟩) NS lm, .int .i64 (i : Int)] (fun W => ⟨.inl ⟨by kernel_rfl, by kernel_rfl⟩, .inl ⟨by kernel_rfl, by kernel_rfl⟩, .inl ⟨by kernel_rfl, by kernel_rfl⟩, trivial⟩) ?_
                  refine yW (.pointer (some ⟨R, off + i, none⟩)) ?_
                  refine yW (.slice (some ⟨gj, oj, none⟩) CL cj) ?_ (.inl ⟨by kernel_rfl, by intro W hW; rw [hW]; have c := (LC.out).cell; rw [hCL.out] at c; go_simp; (try rfl)⟩)
                  refine yW (.int .i64 (CL : Int)) ?_
                  refine yW (.bool false) ?_ (.inl ⟨by kernel_rfl, by intro W hW; rw [hW]; go_simp; first | done | exact tc | (simp; omega)⟩)
                  refine yE ?_
                  clear tc
                  go_upto_region 14 with fail
                  clear zi
                  have hi64 := HI64.out
                  go_wp2_with fail
                  go_roundw
                  case rel => exact ⟨i + 1, by simp, by have := HIN.out; omega, BU, OW⟩
                  case measure => have := HIN.out; simp [intOf]; omega
            · have t0 : decide ((i : Int) < (NS : Int)) = false := by simp; omega
              have e : i = NS := by omega
              rw [e, show NS = (regListF f).length from hNS.out.symm, ofS_all HV.out] at OW
              go_wp2_with fail
              clear t0
              generalize wr = Y4 at *
              go_loopw [15] (fun v wr => ∃ k : Nat, v = .int .i64 (k : Int) ∧ k ≤ f.kinds.length ∧ Hid (Below UV.heap.size UV wr) ∧ Hid (OwnI UV wr (some ⟨g, 0, none⟩) f.kinds.length f.kinds.length (ofL f))) (fun v _ => f.kinds.length - (intOf v).toNat)
              case atStart => exact ⟨0, rfl, Nat.zero_le _, BU, OW⟩
              case round =>
                clear BU OW
                obtain ⟨k, rfl, hk, BU, OW⟩ := hrel
                by_cases hkn : k < f.kinds.length
                · have t0 : decide ((k : Int) < (f.kinds.length : Int)) = true := by simp; omega
                  have HK64 : Hid ((k : Int) + 1 ≤ 9223372036854775807) := Lib.hid (by have := LL.out; omega)
                  have HKN : Hid (k < f.kinds.length) := Lib.hid hkn
                  have hlk : k < f.kinds.length := hkn
                  have NNG := Lib.hid (ofK_nonneg HV.out (x := (k : Int)) ⟨by omega, by omega⟩).1
                  go_upto_region 29 with fail
                  clear t0
                  refine yB ?_
                  refine yM (.slice (some ⟨g, 0, none⟩) f.kinds.length f.kinds.length) ?_
                  refine yM (.int .i64 (k : Int)) ?_
                  refine yW (.pointer (some ⟨g, k, none⟩)) ?_
                  refine yW (.int .i64 (ofK f k)) ?_ (.inl ⟨by kernel_rfl, by intro W hW; rw [hW]; have c := rdi_at (OW.out).rd (ofL_at HKN.out); rw [Nat.zero_add] at c; go_simp; (try rfl)⟩)
                  refine yW (.bool false) ?_ (.inl ⟨by kernel_rfl, by intro W hW; rw [hW]; go_simp; have h9 := NNG.out; first | done | (simp; done) | (simp; omega)⟩)
                  refine yE ?_
                  go_upto_region 28 with fail
                  clear hlk
                  have hk64 := HK64.out
                  go_wp2_with fail
                  go_roundw
                  case rel => exact ⟨k + 1, by simp, by have := HKN.out; omega, BU, OW⟩
                  case measure => have := HKN.out; simp [intOf]; omega
                · have t0 : decide ((k : Int) < (f.kinds.length : Int)) = false := by simp; omega
                  go_upto_region 31 with fail
                  clear t0
                  have HR := Lib.hid (HR0.out.below BU.out)
                  have RL := Lib.hid (RL0.out.below BU.out)
                  have XF := Lib.hid (qblk BU.out XF0.out)
                  have BF := Lib.hid (BF0.out.trans (BU.out.mono BF0.out.size))
                  refine yB ?_
                  refine yM (.bool true) ?_
                  refine yM (.bool true) ?_
                  refine yW (.agg (f.cells a n)) ?_ (qyrow (by kernel_rfl) 28 _ rfl p rfl _ 28 (0, 0) _ (fun W hW => by rw [hW]; exact XF.out) Tryz.underlying28 rfl (by exact (qJF f a n)))
                  refine yM (.slice la NS lm) ?_
                  refine yM (.slice (some ⟨g, 0, none⟩) f.kinds.length f.kinds.length) ?_
                  refine yR (fun K hK => ?_)
                  go_simp
                  refine (joined_any f a n la NS lm (some ⟨g, 0, none⟩) f.kinds.length _ HV.out HR.out RL.out OW.out.rd).mono ?_
                  rintro e U4 ⟨rfl, b⟩
                  replace BF := Lib.hid (BF.out.trans (b.mono BF.out.size))
                  replace HR := Lib.hid (HR.out.below b)
                  replace RL := Lib.hid (RL.out.below b)
                  replace OW := Lib.hid (OW.out.below b)
                  replace XF := Lib.hid (qblk b XF.out)
                  clear b
                  try dsimp only
                  refine yK hK ?_
                  clear hK K
                  refine yM (.bool true) ?_
                  refine yM (.bool true) ?_
                  refine yE ?_
                  go_wp2_with fail
                  go_ret
                  exact ⟨rfl, BF.out⟩
    · have hn : f.valid = false := by simpa using hv
      have PE : Hid (regionsP f = ([], 10)) := Lib.hid (by unfold regionsP; rw [if_neg (by rw [hn]; decide)])
      clear hv
      go_upto_region 4 with fail
      refine yB ?_
      refine yW (.agg (f.cells a n)) ?_ (qyrow (by kernel_rfl) 28 _ rfl p rfl _ 28 (0, 0) _ (fun W hW => by rw [hW]; exact XF.out) Tryz.underlying28 rfl (by exact (qJF f a n)))
      refine yR (fun K hK => ?_)
      go_simp
      refine (regionsP_any f a n _ HR.out).mono ?_
      rintro e U3 ⟨⟨a3, n3, rfl, own⟩, b9⟩
      have b := b9
      clear b9 own
      rw [PE.out]
      try dsimp only
      replace BF := Lib.hid (BF.out.trans (b.mono BF.out.size))
      replace HR := Lib.hid (HR.out.below b)
      replace XF := Lib.hid (qblk b XF.out)
      clear b
      try dsimp only
      refine yK hK ?_
      clear hK K
      refine yMs [.tuple #[.slice a3 0 n3, .int .i64 10], .slice a3 0 n3, .int .i64 10, .slice a3 0 n3, .int .i64 10] (fun W => ⟨.inl ⟨by kernel_rfl, by kernel_rfl⟩, .inl ⟨by kernel_rfl, by kernel_rfl⟩, .inl ⟨by kernel_rfl, by kernel_rfl⟩, .inl ⟨by kernel_rfl, by kernel_rfl⟩, .inl ⟨by kernel_rfl, by kernel_rfl⟩, trivial⟩) ?_
      refine yE ?_
      go_upto_region 5 with fail
      refine yB ?_
      refine yM (.int .i64 10) ?_
      refine yW (.bool true) ?_
      refine yE ?_
      go_upto_region 6 with fail
      refine yB ?_
      refine yMs [.bool true, .bool true, .slice a3 0 n3] (fun W => ⟨.inl ⟨by kernel_rfl, by kernel_rfl⟩, .inl ⟨by kernel_rfl, by kernel_rfl⟩, .inl ⟨by kernel_rfl, by kernel_rfl⟩, trivial⟩) ?_
      refine yW (.int .i64 0) ?_
      refine yW (.bool true) ?_ (.inl ⟨by kernel_rfl, by intro W hW; (try rw [hW]); go_simp; (try simp)⟩)
      refine yM (.bool true) ?_
      refine yM (.bool true) ?_
      refine yE ?_
      go_wp2_with fail
      go_ret
      exact ⟨rfl, BF.out⟩
end Go.Proofs.YtimmadkbkimonaaGreatDoor
namespace Go.Proofs.YtimmadkbkimonaaGreatDoor
open Go.ChangeShapes Go.WideShapes Go.ChangeAt Go.RowKit

theorem Tryz.own : ownKnob Tryz.prog.godebug = none := by kernel_rfl
theorem Tryz.laidOut : laidOutB Tryz.prog = true := by kernel_rfl

theorem below_trodAll {H : Type} {enc : TypeId × Value → H} {P : Program} (hl : laidOutB P = true) {W W' : World} (hb : Below W.heap.size W W') :
    ∀ (ts : List TypeId) {vs : List Value} {ds : List (DataW H)} {ps : List MemPlace}, ts.all (fun t => P.readableRec t && decide (t < P.types.size)) = true → (∀ x ∈ ps, x.block < W.heap.size) →
      DataW.TrodAll enc P W 0 (fun _ => true) true ts vs ds ps → DataW.TrodAll enc P W' 0 (fun b => decide (b < W.heap.size)) true ts vs ds ps
  | [], [], [], _, _, _, h => h
  | [], _ :: _, _, _, _, _, h => h.elim
  | [], [], _ :: _, _, _, _, h => h.elim
  | _ :: _, [], _, _, _, _, h => h.elim
  | _ :: _, _ :: _, [], _, _, _, h => h.elim
  | t :: ts, v :: vs, d :: ds, ps, hr, hlt, h => by
    obtain ⟨p, q, h1, h2, rfl⟩ := h
    simp only [List.all_cons, Bool.and_eq_true, decide_eq_true_eq] at hr
    exact ⟨p, q, Below.trod hl hr.1.1 hr.1.2 h1 hb (fun x hx => hlt x (List.mem_append_left _ hx)), below_trodAll hl hb ts hr.2 (fun x hx => hlt x (List.mem_append_right _ hx)) h2, rfl⟩

theorem post_of_law {H : Type} {enc : TypeId × Value → H} {P : Program} (hl : laidOutB P = true) {t : TypeId} (ht : P.underlying t = some .bool) {f : Func} {s : ChangeSpec} {W W' : World} {args : Array Value} {ds : List (DataW H)} {ps : List MemPlace}
    (hv : s.vars = []) (hf : f.resultTypes = #[t]) (hr : f.params.toList.all (fun t => P.readableRec t && decide (t < P.types.size)) = true)
    (hW : DataW.Whole enc P f.params.toList s.vars false W args.toList ds [] ps) (hA : DataW.TrodAll enc P W 0 (fun _ => true) true f.params.toList args.toList ds ps)
    (hs : s.fn H (ds ++ []) = { results := [.lit (.bool true)], args := ds }) (hb : Below W.heap.size W W') : s.post enc P f false true false false W args (.bool true) W' := by
  refine ⟨ds, [], ps, [], ps, [], hW, ?_, ?_, ?_, hb.frame _, fun h => by cases h⟩
  · rw [hs, hf]
    exact trodAll_mk1 (shut_bool ht _)
  · rw [hs]
    exact below_trodAll hl hb _ hr hW.lt hA
  · rw [hs, hv]
    rfl

end Go.Proofs.YtimmadkbkimonaaGreatDoor
namespace Go.Proofs.YtimmadkbkimonaaGreatDoor
open Go.ChangeShapes Go.WideShapes Go.ChangeAt Go.RowKit

theorem i64_of_wf {x : Int} (h : (Lit.int .i64 x).wf = true) : I64 x := by
  simp [Lit.wf, IntKind.min, IntKind.max, IntKind.signed, IntKind.bits] at h
  unfold I64
  omega
theorem Tryz.cells3 : Tryz.prog.cellsOf 3 = 1 := by kernel_rfl
theorem Tryz.cells26 : Tryz.prog.cellsOf 26 = 1 := by kernel_rfl
section
variable {H : Type} {enc : TypeId × Value → H} {W : World} {fuel : Nat}

theorem open_ri1 {cs : List Value} {y : DataW H × List MemPlace} (h : DataW.trod enc Tryz.prog W 0 (fun _ => true) true fuel 26 cs = some y) : ∃ a c l, cs = [.slice a l.length c] ∧ RdI W a l.length c l ∧ ∀ z ∈ l, I64 z := by
  rcases open_ints Tryz.underlying26 Tryz.underlying3 Tryz.cells3 h with ⟨hcs, hx⟩ | ⟨a, n, c, zs, hcs, _, hl, hm, hz, hx, hcell, hwz⟩
  · exact ⟨none, 0, [], hcs, RdA.nil _ _, fun z hz => by cases hz⟩
  · simp only [if_true] at hz
    have hlen : (zs.take n).length = n := by rw [List.length_take]; omega
    refine ⟨some a, c, zs.take n, by rw [hlen]; exact hcs, ⟨by simp, by omega, hm, ?_⟩, fun z hz => i64_of_wf (hwz z (List.mem_of_mem_take hz))⟩
    by_cases hc0 : c = 0
    · exact .inl hc0
    · obtain ⟨ab, ao, spot⟩ := a
      have hspot : spot = none := by simpa [Addr.add] using World.cell?_spot (hcell 0 (by omega))
      subst hspot
      refine .inr ⟨ab, ao, rfl, fun i x hx => ?_⟩
      rw [List.getElem?_map, List.getElem?_take] at hx
      split at hx
      · rename_i hi
        have hiz : i < zs.length := by omega
        rw [List.getElem?_eq_getElem hiz, Option.map_some] at hx
        simp only [Option.some.injEq] at hx
        subst hx
        have hc := hcell i hiz
        rw [Addr.add_lit] at hc
        rw [hc, List.getD_eq_getElem?_getD, List.getElem?_eq_getElem hiz]
        rfl
      · cases hx
end
end Go.Proofs.YtimmadkbkimonaaGreatDoor
namespace Go.Proofs.YtimmadkbkimonaaGreatDoor
set_option linter.constructorNameAsVariable false
open Go.ChangeShapes Go.WideShapes Go.ChangeAt Go.RowKit

theorem Tryz.cells28 : Tryz.prog.cellsOf 28 = 4 := by kernel_rfl
section
variable {H : Type} {enc : TypeId × Value → H} {W : World}
set_option maxRecDepth 100000 in
theorem open_face {base : Nat} {v : Value} {d : DataW H} {p : List MemPlace} (hval : Value.okWide Tryz.prog W .any base 28 v)
    (h : DataW.Trod enc Tryz.prog W 0 (fun _ => true) true 28 v d p) : ∃ (f : FaceV) (a : Option Addr) (n : Nat), v = .agg (f.cells a n) ∧ RdI W a f.kinds.length n f.kinds := by
  obtain ⟨cs, rfl, hsz⟩ := okWide_struct Tryz.underlying28 hval
  obtain ⟨fuel, hf⟩ := h
  obtain ⟨y0, y1, y2, y3, n, _, hl, g0, g1, g2, g3⟩ := Go.Joins.trod_struct4 Tryz.underlying28 hf
  rw [Tryz.cells28] at hsz
  obtain ⟨l⟩ := cs
  match l, hsz with
  | [c0, c1, c2, c3], _ =>
    have g0' : DataW.trod enc Tryz.prog W 0 (fun _ => true) true n 3 (([c0, c1, c2, c3].drop 0).take (Tryz.prog.cellsOf 3)) = some y0 := g0
    have g1' : DataW.trod enc Tryz.prog W 0 (fun _ => true) true n 3 (([c0, c1, c2, c3].drop 1).take (Tryz.prog.cellsOf 3)) = some y1 := g1
    have g2' : DataW.trod enc Tryz.prog W 0 (fun _ => true) true n 3 (([c0, c1, c2, c3].drop 2).take (Tryz.prog.cellsOf 3)) = some y2 := g2
    have g3' : DataW.trod enc Tryz.prog W 0 (fun _ => true) true n 26 (([c0, c1, c2, c3].drop 3).take (Tryz.prog.cellsOf 26)) = some y3 := g3
    rw [Tryz.cells3] at g0' g1' g2'
    rw [Tryz.cells26] at g3'
    obtain ⟨x0, a0, _, _⟩ := DataW.trod_int Tryz.underlying3 g0'
    obtain ⟨x1, a1, _, _⟩ := DataW.trod_int Tryz.underlying3 g1'
    obtain ⟨x2, a2, _, _⟩ := DataW.trod_int Tryz.underlying3 g2'
    obtain ⟨a, c, l, a3, hr, _⟩ := open_ri1 g3'
    simp at a0 a1 a2 a3
    exact ⟨⟨x0, x1, x2, l⟩, a, c, by rw [a0, a1, a2, a3]; rfl, hr⟩
end
theorem gE3 : Tryz.prog.globalNamed "strconv.ErrSyntax" = some 3 := by kernel_rfl
theorem gE4 : Tryz.prog.globalNamed "strconv.ErrRange" = some 4 := by kernel_rfl
theorem gE3t : (Tryz.prog.globals[3]?).map (·.type) = some 89 := by kernel_rfl
theorem gE4t : (Tryz.prog.globals[4]?).map (·.type) = some 89 := by kernel_rfl
theorem gstar : "*" ++ "errors.errorString" = "*errors.errorString" := by decide
theorem rowE (u : TypeId) (h : Tryz.prog.typeName? 3 u = some "*errors.errorString") : u = 212 :=
  typeName_ptr_named (nm := "errors.errorString") (by rw [gstar]; kernel_rfl) (by kernel_rfl) (by decide) u (by rw [gstar]; exact h)
theorem Tryz.cells214 : Tryz.prog.cellsOf 214 = 1 := by kernel_rfl
theorem Tryz.cells9 : Tryz.prog.cellsOf 9 = 1 := by kernel_rfl
theorem env_of {W : World} (hL : laidMetH Tryz.prog Rows.stonesCellsRow.laid W) (hs : W.ShapedOpen Tryz.prog) : EnvW W := by
  rw [MakeChecks.laidMetH_plain _ _ _ (by kernel_rfl)] at hL
  obtain ⟨a0, s0, hv0, _⟩ := laid_sentinel hL.tail.tail.tail.tail gE4 gE4t Tryz.underlying89 rowE Tryz.underlying212 Tryz.underlying214 rfl rfl Tryz.underlying9 Tryz.cells214 Tryz.cells9
  obtain ⟨a1, s1, hv1, _⟩ := laid_sentinel hL.tail.tail.tail.tail.tail gE3 gE3t Tryz.underlying89 rowE Tryz.underlying212 Tryz.underlying214 rfl rfl Tryz.underlying9 Tryz.cells214 Tryz.cells9
  refine ⟨Go.Proofs.cell_of_shapedOpen_int (zero := #[.int .i64 0]) (t := 3) hs (of_decide_eq_true (by kernel_rfl)) (by kernel_rfl) rfl (by kernel_rfl) (by kernel_rfl) Tryz.underlying3, ⟨.iface 212 (.pointer (some a1)), ?_, .inr ⟨_, _, rfl⟩⟩, ⟨.iface 212 (.pointer (some a0)), ?_, .inr ⟨_, _, rfl⟩⟩⟩
  · have h0 := World.var?_cell gE3 hv1 0
    simpa using h0
  · have h0 := World.var?_cell gE4 hv0 0
    simpa using h0
end Go.Proofs.YtimmadkbkimonaaGreatDoor
