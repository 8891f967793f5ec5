/- Parts of the proof, in this order: Dead, Drains of the reference; RegionOf of stones; RegionOf of the reference; among; StonesBeside is true; SameCells of the reference on equal lists; A look as a value; StonesRegions is true; What every row of this work shares: a law of the template 'true whatever the input' holds where its call gives true and leaves all old memory; []byte arguments opened; A note, a list of ints, out of a reading; A face out of a reading; what the library's variables hold; A cell, a look, a pattern out of a reading; A look out of a reading. -/
import Derived.Test.YtimmadkbkimonaaGreatDoorRows
import Derived.ProofKit
import Derived.OpenShut
import Derived.Lib.SmallJoins
import Derived.Stop.LaidErr
import Derived.MakeChecks
import Derived.Shelf.Vars
import Derived.Test.YtimmadkbkimonaaGreatDoorKPsq6
set_option linter.unusedSimpArgs false
set_option linter.unusedVariables false
open List renaming getElem_toArray → lq0, getElem_cons_succ → lq1, getElem_cons_zero → lq2, setIfInBounds_toArray → lq3, set_cons_zero → lq4, set_cons_succ → lq5
namespace Go.Proofs.YtimmadkbkimonaaGreatDoor
set_option linter.unusedSimpArgs false
set_option linter.unusedVariables false
open Go.RowKit

structure LsC (W : World) (R o : Nat) (aj : Option Addr) (cj : Nat) (cs : List Int) : Prop where
  cell : W.cell? ⟨R, o, none⟩ = some (.slice aj cs.length cj)
  rd : RdI W aj cs.length cj cs
theorem LsC.below {W W' : World} {R o : Nat} {aj : Option Addr} {cj : Nat} {cs : List Int} (h : LsC W R o aj cj cs) (hb : Below W.heap.size W W') : LsC W' R o aj cj cs :=
  ⟨(hb.cell (p := ⟨R, o, none⟩) (World.block_lt_of_cell? W _ h.cell)).trans h.cell, h.rd.below hb⟩
set_option maxHeartbeats 4000000 in
set_option maxRecDepth 100000 in
theorem rdeadP_any (f : FaceV) (a : Option Addr) (n : Nat) (w : World) (hr : RdI w a f.kinds.length n f.kinds) :
    Calls Tryz.prog 31 #[.agg (f.cells a n)] w fun e w' => (∃ oa oc, e = .returned (.tuple #[.slice oa (deadP f).1.length oc, .int .i64 (deadP f).2]) ∧ w'.ownsRow w.heap.size 3 1 (.slice oa (deadP f).1.length oc) (deadP f).1.length ((deadP f).1.map intV)) ∧ Below w.heap.size w w' := by
  have HR := Lib.hid hr
  clear hr
  have AL := Lib.hid (al1 w (.cells (f.cells a n) 28))
  go_enter Tryz.func31, Tryz.ntmps31
  go_upto_region 1 with fail
  obtain ⟨p, hp⟩ : ∃ p, Hid (w.heap.size = p) := ⟨_, Lib.hid rfl⟩
  rw [hp.out] at AL ⊢
  generalize (w.alloc (.cells (f.cells a n) 28)) = W0 at *
  have BF : Hid (Below w.heap.size w W0) := Lib.hid (by rw [hp.out]; exact AL.out.1)
  have XF : Hid (W0.heap[p]? = some (.cells (f.cells a n) 28 (0, 0))) := Lib.hid AL.out.2
  clear AL
  have c0 := qcell XF.out 0 (.int .i64 f.eye) rfl
  have c1 := qcell XF.out 1 (.int .i64 f.rings) rfl
  have c2 := qcell XF.out 2 (.int .i64 f.sectors) rfl
  have c3 := qcell XF.out 3 (.slice a f.kinds.length n) rfl
  clear c0 c1 c2 c3
  replace HR := Lib.hid (HR.out.below BF.out)
  refine yB ?_
  refine yW (.agg (f.cells a n)) ?_ (qyrow (by kernel_rfl) 28 _ rfl p rfl _ 28 (0, 0) _ (fun W hW => by rw [hW]; exact XF.out) Tryz.underlying28 rfl (by exact (qJF f a n)))
  refine yR (fun K hK => ?_)
  go_simp
  refine (rregionsP_any f a n _ HR.out).mono ?_
  rintro e U1 ⟨⟨b1, m1, rfl, ll⟩, b⟩
  have RL := Lib.hid ll
  clear ll
  replace BF := Lib.hid (BF.out.trans (b.mono BF.out.size))
  replace HR := Lib.hid (HR.out.below b)
  replace XF := Lib.hid (qblk b XF.out)
  clear b
  try dsimp only
  refine yK hK ?_
  clear hK K
  refine yM (.tuple #[.slice b1 (regionsP f).1.length m1, .int .i64 (regionsP f).2]) ?_
  refine yM (.slice b1 (regionsP f).1.length m1) ?_
  refine yM (.int .i64 (regionsP f).2) ?_
  refine yM (.slice b1 (regionsP f).1.length m1) ?_
  refine yM (.int .i64 (regionsP f).2) ?_
  refine yE ?_
  by_cases hv : f.valid = true
  · have HV := Lib.hid hv
    have IV := Lib.hid (FaceV.int HV.out)
    have LL := Lib.hid (FaceV.len_le HV.out)
    have PE : Hid (regionsP f = (regListF f, 0)) := Lib.hid (by unfold regionsP; rw [if_pos hv])
    clear hv
    rw [PE.out] at RL
    rw [PE.out]
    dsimp only at RL ⊢
    obtain ⟨ls, hls⟩ : ∃ x, Hid (regListF f = x) := ⟨_, Lib.hid rfl⟩
    obtain ⟨N, hN⟩ : ∃ x, Hid (ls.length = x) := ⟨_, Lib.hid rfl⟩
    rw [hls.out, hN.out] at RL
    rw [hls.out, hN.out]
    have NB : Hid (N ≤ 2304) := Lib.hid (by
      have h2 := hN.out
      rw [← hls.out, regList_len] at h2
      have h3 := (regionsN_le f f.kinds.length).2
      have h4 := LL.out
      have h5 : (regionsF f).2 = (regionsN f f.kinds.length).2 := rfl
      omega)
    have BF1 := BF
    have HRU := Lib.hid (fun W (hb : Below U1.heap.size U1 W) => HR.out.below hb)
    have RLU := Lib.hid (fun W (hb : Below U1.heap.size U1 W) => RL.out.below hb)
    have XFU := Lib.hid (fun W (hb : Below U1.heap.size U1 W) => qblk hb XF.out)
    have BU := Lib.hid (Below.refl U1.heap.size U1)
    clear BF HR RL XF
    go_wp2_with fail
    go_loopw [6, 7] (fun o v wr => ∃ (k : Nat) (oa : Option Addr) (oc : Nat), v = .int .i64 (k : Int) ∧ o = .slice oa (deadK f k).length oc ∧ k ≤ N ∧ Hid (OwnI U1 wr oa (deadK f k).length oc (deadK f k)) ∧ Hid (Below U1.heap.size U1 wr)) (fun _ v _ => N - (intOf v).toNat)
    case atStart => exact ⟨0, none, 0, rfl, rfl, Nat.zero_le _, Lib.hid (World.ownsRow_nil _ _ _ _), BU⟩
    case round =>
      clear BU
      obtain ⟨k, oa, oc, rfl, rfl, hk, OW, BU⟩ := hrel
      have HR := Lib.hid (HRU.out wr BU.out)
      have RL := Lib.hid (RLU.out wr BU.out)
      have XF := Lib.hid (XFU.out wr BU.out)
      by_cases hkn : k < N
      · have t0 : decide ((k : Int) < (N : Int)) = true := by simp; omega
        have HK64 : Hid ((k : Int) + 1 ≤ 9223372036854775807) := Lib.hid (by have := NB.out; omega)
        obtain ⟨cs, hcs⟩ : ∃ cs, ls[k]? = some cs := ⟨_, List.getElem?_eq_getElem (by rw [hN.out]; exact hkn)⟩
        obtain ⟨R, off, aj, cj, ha, hc, hrd⟩ := RL.out.at_ k cs hcs
        subst ha
        have hcs2 := hcs
        rw [← hls.out] at hcs2
        obtain ⟨hne, hin⟩ := rg_mem HV.out hcs2
        obtain ⟨x0, hx0⟩ : ∃ x, cs[0]? = some x := ⟨_, List.getElem?_eq_getElem (List.length_pos_iff.2 hne)⟩
        obtain ⟨x1, hx1⟩ : ∃ x, cs[cs.length - 1]? = some x := ⟨_, List.getElem?_eq_getElem (by have := List.length_pos_iff.2 hne; omega)⟩
        have X0 := Lib.hid (hin x0 (List.mem_of_getElem? hx0))
        have X1 := Lib.hid (hin x1 (List.mem_of_getElem? hx1))
        obtain ⟨i0, hi0⟩ : ∃ i : Nat, Hid (x0 = (i : Int)) := ⟨x0.toNat, Lib.hid (by have := X0.out; omega)⟩
        rw [hi0.out] at hx0 X0
        have IL : Hid (i0 < f.kinds.length) := Lib.hid (by have := X0.out; omega)
        have H0 := Lib.hid hx0
        have H1 := Lib.hid hx1
        have CL : Hid (1 ≤ cs.length ∧ cs.length ≤ 2304) := Lib.hid (by
          have h1 := List.length_pos_iff.2 hne
          refine ⟨h1, ?_⟩
          have h4 := (List.getElem?_eq_some_iff.1 hcs2).1
          rw [regList_len] at h4
          rw [regList_at h4] at hcs2
          have h3 := Option.some.inj hcs2
          rw [← h3]
          exact Nat.le_trans (regAt_len _ _ _ _) LL.out)
        have DB : Hid (deadB f ((regListF f)[k]?.getD []) = (!decide (f.kat i0 = 0) && decide ((cellF f x1).1 < f.rings - 1))) := Lib.hid (by
          rw [hcs2, ← rDead_eq HV.out]
          unfold rDeadB
          have e1 : (some cs).getD [] = cs := rfl
          rw [e1, show cs.head?.getD 0 = (i0 : Int) by rw [List.head?_eq_getElem?, hx0]; rfl, show cs.getLast?.getD 0 = x1 by rw [List.getLast?_eq_getElem?, hx1]; rfl, Int.toNat_natCast]
          rfl)
        obtain ⟨gj, oj, haj, _⟩ := hrd.get hx0
        subst haj
        have LC := Lib.hid (show LsC wr R (off + k) (some ⟨gj, oj, none⟩) cj cs from ⟨hc, hrd⟩)
        obtain ⟨gf, of, haf, _⟩ := HR.out.get (FaceV.kat_at IL.out)
        subst haf
        have DS := Lib.hid (deadK_succ f k)
        have DL := Lib.hid (deadK_len f k)
        clear hx0 hx1 hne hin hcs hcs2 hc hrd
        have W1 := Lib.hid (show wrap64 ((cs.length : Int) - 1) = ((cs.length - 1 : Nat) : Int) by have := CL.out; unfold wrap64; omega)
        have W2 := Lib.hid (show wrap64 (f.rings - 1) = f.rings - 1 by have := IV.out; unfold wrap64; omega)
        obtain ⟨z, hz⟩ : ∃ z : Nat, Hid (cs.length - 1 = z) := ⟨_, Lib.hid rfl⟩
        rw [hz.out] at H1 W1
        have ZL : Hid (z < cs.length) := Lib.hid (by have := CL.out; have := hz.out; omega)
        go_upto_region 8 with fail
        clear t0
        have zl := ZL.out
        have zi := IL.out
        have zc : 0 < cs.length := by have := CL.out; omega
        have zk : k < N := hkn
        have hd : Below wr.heap.size wr wr.drew := (Below.refl _ _).drew
        replace BU := Lib.hid (BU.out.trans (hd.mono BU.out.size))
        replace HR := Lib.hid (HR.out.below hd)
        replace LC := Lib.hid (LC.out.below hd)
        replace OW := Lib.hid (OW.out.below hd)
        replace XF := Lib.hid (qblk hd XF.out)
        clear hd
        refine zD (fun W => Below wr.drew.heap.size wr.drew W) (Below.refl _ _) (fun hHeld => ?_)
        have BV := Lib.hid hHeld
        generalize wr.drew = V1 at *
        refine zW 0 rfl (.pointer (some ⟨p, 3, none⟩)) ?_
        refine zS 1 rfl (.slice (some ⟨gf, of, none⟩) f.kinds.length n) (fun W hW => by have c := qcell (qblk hW XF.out) 3 (.slice (some ⟨gf, of, none⟩) f.kinds.length n) rfl; go_simp) ?_
        refine zW 2 rfl (.slice (some ⟨R, off, none⟩) N m1) ?_
        refine zW 3 rfl (.int .i64 (k : Int)) ?_
        refine zW 4 rfl (.pointer (some ⟨R, off + k, none⟩)) ?_
        refine zS 5 rfl (.slice (some ⟨gj, oj, none⟩) cs.length cj) (fun W hW => by have c := (LC.out.below hW).cell; go_simp) ?_
        refine zW 6 rfl (.pointer (some ⟨gj, oj, none⟩)) ?_
        refine zS 7 rfl (.int .i64 (i0 : Int)) (fun W hW => by have c := (show W.cell? ⟨gj, oj, none⟩ = some (.int .i64 (i0 : Int)) from rdi_at (LC.out.below hW).rd H0.out); go_simp) ?_
        refine zW 8 rfl (.pointer (some ⟨gf, of + i0, none⟩)) ?_
        refine zS 9 rfl (.int .i64 (f.kat i0)) (fun W hW => by have c := rdi_at (HR.out.below hW) (FaceV.kat_at IL.out); go_simp) ?_
        cases hq : (!decide (f.kat i0 = 0))
        · refine zW 10 rfl (.bool false) (hy := .inl ⟨by kernel_rfl, by intro W hW; go_simp; simpa using hq⟩) ?_
          refine zW 11 rfl (.bool false) ?_
          refine zW 12 rfl undef (hy := .inr ⟨by kernel_rfl, rfl⟩) ?_
          refine zW 13 rfl undef (hy := .inr ⟨by kernel_rfl, rfl⟩) ?_
          refine zW 14 rfl undef (hy := .inr ⟨by kernel_rfl, rfl⟩) ?_
          refine zW 15 rfl undef (hy := .inr ⟨by kernel_rfl, rfl⟩) ?_
          refine zW 16 rfl undef (hy := .inr ⟨by kernel_rfl, rfl⟩) ?_
          refine zW 17 rfl undef (hy := .inr ⟨by kernel_rfl, rfl⟩) ?_
          refine zW 18 rfl undef (hy := .inr ⟨by kernel_rfl, rfl⟩) ?_
          refine zW 19 rfl undef (hy := .inr ⟨by kernel_rfl, rfl⟩) ?_
          refine zW 20 rfl undef (hy := .inr ⟨by kernel_rfl, rfl⟩) ?_
          refine zW 21 rfl undef (hy := .inr ⟨by kernel_rfl, rfl⟩) ?_
          refine zW 22 rfl undef (hy := .inr ⟨by kernel_rfl, rfl⟩) ?_
          refine zW 23 rfl undef (hy := .inr ⟨by kernel_rfl, rfl⟩) ?_
          refine zW 24 rfl undef (hy := .inr ⟨by kernel_rfl, rfl⟩) ?_
          refine zW 25 rfl undef (hy := .inr ⟨by kernel_rfl, rfl⟩) ?_
          refine zW 26 rfl undef (hy := .inr ⟨by kernel_rfl, rfl⟩) ?_
          refine zW 27 rfl undef (hy := .inr ⟨by kernel_rfl, rfl⟩) ?_
          refine zW 28 rfl undef (hy := .inr ⟨by kernel_rfl, rfl⟩) ?_
          refine zW 29 rfl undef (hy := .inr ⟨by kernel_rfl, rfl⟩) ?_
          refine zW 30 rfl undef (hy := .inr ⟨by kernel_rfl, rfl⟩) ?_
          refine zW 31 rfl (.bool false) ?_
          refine zE ?_
          have bz := BV.out
          replace BU := Lib.hid (BU.out.trans (bz.mono BU.out.size))
          replace HR := Lib.hid (HR.out.below bz)
          replace LC := Lib.hid (LC.out.below bz)
          replace OW := Lib.hid (OW.out.below bz)
          replace XF := Lib.hid (qblk bz XF.out)
          clear bz
          clear BV
          have HS : Hid (deadB f ((regListF f)[k]?.getD []) = false) := Lib.hid (by rw [DB.out]; simp only [hq]; rfl)
          go_upto_region 7 with fail
          clear zl zi zc zk
          have hk64 := HK64.out
          go_wp2_with fail
          go_roundw
          case rel =>
            have e : deadK f (k + 1) = deadK f k := by rw [DS.out, if_neg (by rw [HS.out]; decide), List.append_nil]
            refine ⟨k + 1, oa, oc, by simp, by rw [e], by omega, ?_, BU⟩
            rw [e]
            exact OW
          case measure => simp [intOf]; omega
        · refine zW 10 rfl (.bool true) (hy := .inl ⟨by kernel_rfl, by intro W hW; go_simp; simpa using hq⟩) ?_
          refine zW 11 rfl (.bool true) ?_
          refine zT 12 rfl (.agg (f.cells (some ⟨gf, of, none⟩) n)) (qyrow (by kernel_rfl) 28 _ rfl p rfl _ 28 (0, 0) _ (fun W hW => qblk hW XF.out) Tryz.underlying28 rfl (by exact (qJF f (some ⟨gf, of, none⟩) n))) ?_
          refine zW 13 rfl (.slice (some ⟨R, off, none⟩) N m1) ?_
          refine zW 14 rfl (.int .i64 (k : Int)) ?_
          refine zW 15 rfl (.pointer (some ⟨R, off + k, none⟩)) ?_
          refine zS 16 rfl (.slice (some ⟨gj, oj, none⟩) cs.length cj) (fun W hW => by have c := (LC.out.below hW).cell; go_simp) ?_
          refine zW 17 rfl (.slice (some ⟨R, off, none⟩) N m1) ?_
          refine zW 18 rfl (.int .i64 (k : Int)) ?_
          refine zW 19 rfl (.pointer (some ⟨R, off + k, none⟩)) ?_
          refine zS 20 rfl (.slice (some ⟨gj, oj, none⟩) cs.length cj) (fun W hW => by have c := (LC.out.below hW).cell; go_simp) ?_
          refine zW 21 rfl (.int .i64 (cs.length : Int)) ?_
          refine zW 22 rfl (.int .i64 (z : Int)) (hy := .inl ⟨by kernel_rfl, by intro W hW; go_simp; exact (IntWalk.i64_left _).trans W1.out⟩) ?_
          refine zW 23 rfl (.pointer (some ⟨gj, oj + z, none⟩)) ?_
          refine zS 24 rfl (.int .i64 x1) (fun W hW => by have c := rdi_at (LC.out.below hW).rd H1.out; go_simp) ?_
          refine zW 27 rfl (.pointer (some ⟨p, 1, none⟩)) ?_
          refine zS 28 rfl (.int .i64 f.rings) (fun W hW => by have c := qcell (qblk hW XF.out) 1 (.int .i64 f.rings) rfl; go_simp) ?_
          refine zW 29 rfl (.int .i64 (f.rings - 1)) (hy := .inl ⟨by kernel_rfl, by intro W hW; go_simp; exact (IntWalk.i64_left _).trans W2.out⟩) ?_
          refine zR 25 rfl (fun K hK => ?_)
          go_simp
          refine (rplace_any f (some ⟨gf, of, none⟩) n x1 _ (by have := IV.out; omega) (by have := X1.out; have := LL.out; omega)).mono ?_
          rintro e Z1 ⟨rfl, b⟩
          have BV2 := Lib.hid (BV.out.trans (b.mono BV.out.size))
          clear b BV
          have BV := BV2
          clear BV2
          try dsimp only
          refine zK hK BV.out (fun hHeld => ?_)
          clear hK K
          refine zW 26 rfl (.int .i64 (cellF f x1).1) (hy := .inl ⟨by kernel_rfl, by intro W hW; go_simp; first | done | rfl⟩) ?_
          cases hs : decide ((cellF f x1).1 < f.rings - 1)
          · refine zW 30 rfl (.bool false) ?_
            refine zW 31 rfl (.bool false) ?_
            refine zE ?_
            have bz := BV.out
            replace BU := Lib.hid (BU.out.trans (bz.mono BU.out.size))
            replace HR := Lib.hid (HR.out.below bz)
            replace LC := Lib.hid (LC.out.below bz)
            replace OW := Lib.hid (OW.out.below bz)
            replace XF := Lib.hid (qblk bz XF.out)
            clear bz
            clear BV
            have HS : Hid (deadB f ((regListF f)[k]?.getD []) = false) := Lib.hid (by rw [DB.out]; simp only [hq, hs]; rfl)
            go_upto_region 7 with fail
            clear zl zi zc zk
            have hk64 := HK64.out
            go_wp2_with fail
            go_roundw
            case rel =>
              have e : deadK f (k + 1) = deadK f k := by rw [DS.out, if_neg (by rw [HS.out]; decide), List.append_nil]
              refine ⟨k + 1, oa, oc, by simp, by rw [e], by omega, ?_, BU⟩
              rw [e]
              exact OW
            case measure => simp [intOf]; omega
          · refine zW 30 rfl (.bool true) ?_
            refine zW 31 rfl (.bool true) ?_
            refine zE ?_
            have bz := BV.out
            replace BU := Lib.hid (BU.out.trans (bz.mono BU.out.size))
            replace HR := Lib.hid (HR.out.below bz)
            replace LC := Lib.hid (LC.out.below bz)
            replace OW := Lib.hid (OW.out.below bz)
            replace XF := Lib.hid (qblk bz XF.out)
            clear bz
            clear BV
            have HS : Hid (deadB f ((regListF f)[k]?.getD []) = true) := Lib.hid (by rw [DB.out, hq, hs]; rfl)
            have NK : Hid (k < 2400) := Lib.hid (by have := NB.out; omega)
            clear HR LC
            go_upto_region 9 with fail
            refine yB ?_
            refine yM (.slice oa (deadK f k).length oc) ?_
            refine yM (.int .i64 (k : Int)) ?_
            refine yR (fun K hK => ?_)
            refine qbuild (w' := Z1.alloc (.cells #[.int .i64 (k : Int)] 3)) (.slice (some ⟨Z1.heap.size, 0, none⟩) 1 1) (by kernel_rfl) ?_
            have LI := Lib.hid (lit_int Z1 (k : Int))
            have b := zB Z1 (.cells #[.int .i64 (k : Int)] 3)
            obtain ⟨y9, hy9⟩ : ∃ x, Hid (Z1.heap.size = x) := ⟨_, Lib.hid rfl⟩
            replace BU := Lib.hid (BU.out.trans (b.mono BU.out.size))
            replace OW := Lib.hid (OW.out.below b)
            replace XF := Lib.hid (qblk b XF.out)
            clear b
            rw [hy9.out] at LI ⊢
            generalize hV9 : Z1.alloc (.cells #[.int .i64 (k : Int)] 3) = X6 at *
            clear hV9
            refine yK hK ?_
            clear hK K
            refine yR (fun K hK => ?_)
            obtain ⟨oa2, oc2, X7, hrun, ho7, hk7, hb7⟩ := run_app_q X6 U1.heap.size oa (deadK f k).length oc (deadK f k) OW.out (some ⟨y9, 0, none⟩) 1 1 [(k : Int)] LI.out (by have := DL.out; have := NB.out; have := NK.out; omega) BU.out.size
            refine qappend _ _ _ rfl _ _ _ rfl rfl hrun ?_
            clear hrun
            replace OW := Lib.hid (show OwnI U1 X7 oa2 ((deadK f k).length + 1) oc2 ((deadK f k) ++ [(k : Int)]) from ho7)
            replace BU := Lib.hid (hb7 _ BU.out)
            replace XF := Lib.hid (hk7 _ _ XF.out (by simp))
            clear ho7 hk7 hb7 LI
            refine yK hK ?_
            clear hK K
            refine yM (.slice oa2 ((deadK f k).length + 1) oc2) ?_
            refine yE ?_
            go_upto_region 7 with fail
            clear zl zi zc zk
            have hk64 := HK64.out
            go_wp2_with fail
            go_roundw
            case rel =>
              have e : deadK f (k + 1) = deadK f k ++ [(k : Int)] := by rw [DS.out, if_pos HS.out]
              refine ⟨k + 1, oa2, oc2, by simp, by rw [e, List.length_append]; rfl, by omega, ?_, BU⟩
              rw [e, List.length_append]
              exact OW
            case measure => simp [intOf]; omega
      · have t0 : decide ((k : Int) < (N : Int)) = false := by simp; omega
        have e : k = N := by omega
        subst e
        have DE : Hid (deadP f = (deadK f k, 0)) := Lib.hid (by
          unfold deadP deadF
          rw [if_pos HV.out]
          have h4 : (regListF f).length = k := by rw [hls.out, hN.out]
          rw [h4]
          rfl)
        go_wp2_with fail
        go_ret2
        rw [DE.out]
        exact ⟨⟨oa, oc, rfl, own_mono OW.out BF1.out.size⟩, BF1.out.trans (BU.out.mono BF1.out.size)⟩
  · have hn : f.valid = false := by simpa using hv
    have PE : Hid (regionsP f = ([], 10)) := Lib.hid (by unfold regionsP; rw [if_neg (by rw [hn]; decide)])
    rw [PE.out]
    go_wp2_with fail
    go_ret2
    unfold deadP
    rw [if_neg (by rw [hn]; decide)]
    exact ⟨⟨none, 0, rfl, World.ownsRow_nil _ _ _ _⟩, BF.out⟩
set_option maxHeartbeats 4000000 in
set_option maxRecDepth 100000 in
theorem rdrainsP_any (f : FaceV) (a : Option Addr) (n : Nat) (w : World) (hr : RdI w a f.kinds.length n f.kinds) :
    Calls Tryz.prog 33 #[.agg (f.cells a n)] w fun e w' => e = .returned (.tuple #[.bool (drainsB f), .int .i64 (deadP f).2]) ∧ Below w.heap.size w w' := by
  have HR := Lib.hid hr
  clear hr
  have AL := Lib.hid (al1 w (.cells (f.cells a n) 28))
  go_enter Tryz.func33, Tryz.ntmps33
  go_upto_region 1 with fail
  obtain ⟨p, hp⟩ : ∃ p, Hid (w.heap.size = p) := ⟨_, Lib.hid rfl⟩
  rw [hp.out] at AL ⊢
  generalize (w.alloc (.cells (f.cells a n) 28)) = W0 at *
  have BF : Hid (Below w.heap.size w W0) := Lib.hid (by rw [hp.out]; exact AL.out.1)
  have XF : Hid (W0.heap[p]? = some (.cells (f.cells a n) 28 (0, 0))) := Lib.hid AL.out.2
  clear AL
  have c0 := qcell XF.out 0 (.int .i64 f.eye) rfl
  have c1 := qcell XF.out 1 (.int .i64 f.rings) rfl
  have c2 := qcell XF.out 2 (.int .i64 f.sectors) rfl
  have c3 := qcell XF.out 3 (.slice a f.kinds.length n) rfl
  clear c0 c1 c2 c3
  replace HR := Lib.hid (HR.out.below BF.out)
  go_upto_region 1 with fail
  refine yB ?_
  refine yW (.agg (f.cells a n)) ?_ (qyrow (by kernel_rfl) 28 _ rfl p rfl _ 28 (0, 0) _ (fun W hW => by rw [hW]; exact XF.out) Tryz.underlying28 rfl (by exact (qJF f a n)))
  refine yR (fun K hK => ?_)
  go_simp
  refine (rdeadP_any f a n _ HR.out).mono ?_
  rintro e U1 ⟨⟨b1, m1, rfl, own⟩, b⟩
  replace BF := Lib.hid (BF.out.trans (b.mono BF.out.size))
  replace HR := Lib.hid (HR.out.below b)
  replace XF := Lib.hid (qblk b XF.out)
  clear b
  clear own
  obtain ⟨N, hN⟩ : ∃ x, Hid ((deadP f).1.length = x) := ⟨_, Lib.hid rfl⟩
  obtain ⟨E, hE⟩ : ∃ x, Hid ((deadP f).2 = x) := ⟨_, Lib.hid rfl⟩
  rw [hN.out, hE.out]
  have DB : Hid (drainsB f = (decide (E = 0) && decide (N = 0))) := Lib.hid (by unfold drainsB; rw [hE.out, hN.out])
  try dsimp only
  refine yK hK ?_
  clear hK K
  refine yM (.tuple #[.slice b1 N m1, .int .i64 E]) ?_
  refine yM (.slice b1 N m1) ?_
  refine yM (.int .i64 E) ?_
  refine yM (.slice b1 N m1) ?_
  refine yM (.int .i64 E) ?_
  refine yE ?_
  go_upto_region 2 with fail
  refine yB ?_
  refine yM (.int .i64 E) ?_
  cases h1 : decide (E = 0)
  · refine yW (.bool false) ?_ (.inl ⟨by kernel_rfl, by intro W hW; rw [hW]; have h2 : (E == 0) = _ := h1; go_simp⟩) 
    refine yM (.bool false) ?_
    go_skip
    refine yM (.bool false) ?_
    refine yM (.int .i64 E) ?_
    refine yM (.bool false) ?_
    refine yM (.int .i64 E) ?_
    refine yE ?_
    have DV : Hid (drainsB f = false) := Lib.hid (by rw [DB.out]; simp only [h1]; rfl)
    go_wp2_with fail
    go_ret2
    rw [DV.out, hE.out]
    exact ⟨rfl, BF.out⟩
  · refine yW (.bool true) ?_ (.inl ⟨by kernel_rfl, by intro W hW; rw [hW]; have h2 : (E == 0) = _ := h1; go_simp⟩) 
    refine yM (.bool true) ?_
    refine yM (.slice b1 N m1) ?_
    refine yW (.int .i64 (N : Int)) ?_
    cases h2 : decide (N = 0)
    · refine yW (.bool false) ?_ (.inl ⟨by kernel_rfl, by intro W hW; rw [hW]; go_simp; simpa using h2⟩) 
      refine yM (.bool false) ?_
      refine yM (.int .i64 E) ?_
      refine yM (.bool false) ?_
      refine yM (.int .i64 E) ?_
      refine yE ?_
      have DV : Hid (drainsB f = false) := Lib.hid (by rw [DB.out]; simp only [h1, h2]; rfl)
      go_wp2_with fail
      go_ret2
      rw [DV.out, hE.out]
      exact ⟨rfl, BF.out⟩
    · refine yW (.bool true) ?_ (.inl ⟨by kernel_rfl, by intro W hW; rw [hW]; go_simp; simpa using h2⟩) 
      refine yM (.bool true) ?_
      refine yM (.int .i64 E) ?_
      refine yM (.bool true) ?_
      refine yM (.int .i64 E) ?_
      refine yE ?_
      have DV : Hid (drainsB f = true) := Lib.hid (by rw [DB.out]; simp only [h1, h2]; rfl)
      go_wp2_with fail
      go_ret2
      rw [DV.out, hE.out]
      exact ⟨rfl, BF.out⟩
end Go.Proofs.YtimmadkbkimonaaGreatDoor
namespace Go.Proofs.YtimmadkbkimonaaGreatDoor
set_option linter.unusedSimpArgs false
set_option linter.unusedVariables false
open Go.RowKit

def regionOfP (f : FaceV) (c : CellV) : Int × Int := if askedF f c = 0 then (((regionsF f).1 (indexF f c.1 c.2)).getD 0, 0) else (0, askedF f c)
set_option maxHeartbeats 4000000 in
set_option maxRecDepth 100000 in
theorem regionOf_any (f : FaceV) (a : Option Addr) (n : Nat) (c : CellV) (w : World) (hr : RdI w a f.kinds.length n f.kinds) :
    Calls Tryz.prog 26 #[.agg (f.cells a n), .agg (cellA c)] w fun e w' => e = .returned (.tuple #[.int .i64 (regionOfP f c).1, .int .i64 (regionOfP f c).2]) ∧ Below w.heap.size w w' := by
  have HR := Lib.hid hr
  clear hr
  have AL := Lib.hid (al2 w (.cells (f.cells a n) 28) (.cells (cellA c) 41))
  go_enter Tryz.func26, Tryz.ntmps26
  go_upto_region 1 with fail
  obtain ⟨p, hp⟩ : ∃ p, Hid (w.heap.size = p) := ⟨_, Lib.hid rfl⟩
  obtain ⟨q, hq⟩ : ∃ q, Hid (w.heap.size + 1 = q) := ⟨_, Lib.hid rfl⟩
  rw [hq.out] at AL ⊢
  rw [hp.out] at AL ⊢
  generalize ((w.alloc (.cells (f.cells a n) 28)).alloc (.cells (cellA c) 41)) = W0 at *
  have BF : Hid (Below w.heap.size w W0) := Lib.hid (by rw [hp.out]; exact AL.out.1)
  have XF : Hid (W0.heap[p]? = some (.cells (f.cells a n) 28 (0, 0))) := Lib.hid AL.out.2.1
  have XC : Hid (W0.heap[q]? = some (.cells (cellA c) 41 (0, 0))) := Lib.hid AL.out.2.2
  clear AL
  have c0 := qcell XF.out 0 (.int .i64 f.eye) rfl
  have c1 := qcell XF.out 1 (.int .i64 f.rings) rfl
  have c2 := qcell XF.out 2 (.int .i64 f.sectors) rfl
  have c3 := qcell XF.out 3 (.slice a f.kinds.length n) rfl
  have d0 := qcell XC.out 0 (.int .i64 c.1) rfl
  have d1 := qcell XC.out 1 (.int .i64 c.2) rfl
  clear c0 c1 c2 c3 d0 d1
  replace HR := Lib.hid (HR.out.below BF.out)
  obtain ⟨A, hA⟩ : ∃ z, Hid (askedF f c = z) := ⟨_, Lib.hid rfl⟩
  go_upto_region 1 with fail
  refine yB ?_
  refine yW (.agg (f.cells a n)) ?_ (qyrow (by kernel_rfl) 28 _ rfl p rfl _ 28 (0, 0) _ (fun W hW => by rw [hW]; exact XF.out) Tryz.underlying28 rfl (by exact (qJF f a n)))
  refine yW (.agg (cellA c)) ?_ (qyrow (by kernel_rfl) 41 _ rfl q rfl _ 41 (0, 0) _ (fun W hW => by rw [hW]; exact XC.out) Tryz.underlying41 rfl (by exact (qJC c)))
  refine yR (fun K hK => ?_)
  go_simp
  refine (asked_any f a n c _ HR.out).mono ?_
  rintro e U1 ⟨rfl, b⟩
  replace BF := Lib.hid (BF.out.trans (b.mono BF.out.size))
  replace HR := Lib.hid (HR.out.below b)
  replace XF := Lib.hid (qblk b XF.out)
  replace XC := Lib.hid (qblk b XC.out)
  clear b
  rw [hA.out]
  try dsimp only
  refine yK hK ?_
  clear hK K
  refine yM (.int .i64 A) ?_
  refine yE ?_
  cases hq : decide (A ≠ 0)
  · have AZ : Hid (A = 0) := Lib.hid (by simpa using hq)
    have AK := Lib.hid (asked_zero.1 (hA.out.trans AZ.out))
    have HV := Lib.hid AK.out.1
    have HI := Lib.hid (index_back HV.out AK.out.2).1
    have IV := Lib.hid (FaceV.int HV.out)
    have HC := Lib.hid (hasF_iff.1 AK.out.2)
    have LL := Lib.hid (FaceV.len_le HV.out)
    have RF := Lib.hid (regF HV.out)
    obtain ⟨o, ho⟩ : ∃ o, Hid ((regionsF f).1 = o) := ⟨_, Lib.hid rfl⟩
    obtain ⟨M, hM⟩ : ∃ M, Hid ((regionsF f).2 = M) := ⟨_, Lib.hid rfl⟩
    obtain ⟨I, hI⟩ : ∃ I, Hid (indexF f c.1 c.2 = I) := ⟨_, Lib.hid rfl⟩
    rw [hI.out] at HI
    rw [ho.out] at RF
    obtain ⟨r, hr⟩ : ∃ r, Hid (o I = some r) := by
      obtain ⟨r, h⟩ := Option.isSome_iff_exists.1 (RF.out.dn I.toNat (by have := HI.out; omega))
      exact ⟨r, Lib.hid (by have h0 := HI.out.1; rw [show ((I.toNat : Nat) : Int) = I by omega] at h; exact h)⟩
    have HKI : Hid (I64q I) := Lib.hid (by have h1 := HI.out; have h2 := LL.out; unfold I64q; omega)
    have RP : Hid (regionOfP f c = (r, 0)) := Lib.hid (by unfold regionOfP; rw [hA.out, AZ.out, if_pos rfl, ho.out, hI.out, hr.out]; rfl)
    rw [AZ.out]
    go_upto_region 2 with fail
    refine yB ?_
    refine yM (.int .i64 0) ?_
    refine yW (.bool false) ?_
    refine yE ?_
    go_upto_region 4 with fail
    refine yB ?_
    refine yW (.agg (f.cells a n)) ?_ (qyrow (by kernel_rfl) 28 _ rfl p rfl _ 28 (0, 0) _ (fun W hW => by rw [hW]; exact XF.out) Tryz.underlying28 rfl (by exact (qJF f a n)))
    refine yR (fun K hK => ?_)
    go_simp
    refine (regions_any f a n _ HV.out HR.out).mono ?_
    rintro e U2 ⟨⟨b0, nm, rfl, mp⟩, b⟩
    rw [ho.out] at mp
    rw [hM.out]
    have MP := Lib.hid mp
    clear mp
    replace BF := Lib.hid (BF.out.trans (b.mono BF.out.size))
    replace HR := Lib.hid (HR.out.below b)
    replace XF := Lib.hid (qblk b XF.out)
    replace XC := Lib.hid (qblk b XC.out)
    clear b
    try dsimp only
    refine yK hK ?_
    clear hK K
    refine yM (.tuple #[.map (some b0), .int .i64 M]) ?_
    refine yM (.map (some b0)) ?_
    refine yM (.int .i64 M) ?_
    refine yM (.map (some b0)) ?_
    refine yM (.int .i64 M) ?_
    refine yE ?_
    go_upto_region 5 with fail
    refine yB ?_
    refine yM (.map (some b0)) ?_
    refine yW (.agg (f.cells a n)) ?_ (qyrow (by kernel_rfl) 28 _ rfl p rfl _ 28 (0, 0) _ (fun W hW => by rw [hW]; exact XF.out) Tryz.underlying28 rfl (by exact (qJF f a n)))
    refine yW (.pointer (some ⟨q, 0, none⟩)) ?_
    refine yW (.int .i64 c.1) ?_ (.inl ⟨by kernel_rfl, by intro W hW; rw [hW]; have c := qcell XC.out 0 (.int .i64 c.1) rfl; go_simp⟩)
    refine yW (.pointer (some ⟨q, 1, none⟩)) ?_
    refine yW (.int .i64 c.2) ?_ (.inl ⟨by kernel_rfl, by intro W hW; rw [hW]; have c := qcell XC.out 1 (.int .i64 c.2) rfl; go_simp⟩)
    refine yR (fun K hK => ?_)
    go_simp
    refine (index_any f a n c.1 c.2 _ (by have := IV.out; omega) (by have := IV.out; have := HC.out; omega)).mono ?_
    rintro e U3 ⟨rfl, b⟩
    replace BF := Lib.hid (BF.out.trans (b.mono BF.out.size))
    replace HR := Lib.hid (HR.out.below b)
    replace MP := Lib.hid (MP.out.below b)
    replace XF := Lib.hid (qblk b XF.out)
    replace XC := Lib.hid (qblk b XC.out)
    clear b
    rw [hI.out]
    try dsimp only
    refine yK hK ?_
    clear hK K
    refine yW (.int .i64 r) ?_ (.inl ⟨by kernel_rfl, by intro W hW; rw [hW]; have c := run_get_q MP.out Tryz.underlying115 HKI.out; rw [hr.out] at c; (try dsimp only [Option.getD] at c); go_simp⟩)
    refine yM (.int .i64 r) ?_
    refine yM (.int .i64 0) ?_
    refine yE ?_
    go_wp2_with fail
    go_ret2
    exact ⟨by rw [RP.out]; rfl, BF.out⟩
  · have hq2 : (A != 0) = true := by simpa using hq
    have RP : Hid (regionOfP f c = (0, A)) := Lib.hid (by unfold regionOfP; rw [hA.out, if_neg (of_decide_eq_true hq)])
    go_upto_region 2 with fail
    refine yB ?_
    refine yM (.int .i64 A) ?_
    refine yW (.bool true) ?_
    refine yE ?_
    go_wp2_with fail
    go_ret2
    exact ⟨by rw [RP.out]; rfl, BF.out⟩
end Go.Proofs.YtimmadkbkimonaaGreatDoor
namespace Go.Proofs.YtimmadkbkimonaaGreatDoor
set_option linter.unusedSimpArgs false
set_option linter.unusedVariables false
open Go.RowKit

set_option maxHeartbeats 4000000 in
set_option maxRecDepth 100000 in
theorem rregionOf_any (f : FaceV) (a : Option Addr) (n : Nat) (c : CellV) (w : World) (hr : RdI w a f.kinds.length n f.kinds) :
    Calls Tryz.prog 27 #[.agg (f.cells a n), .agg (cellA c)] w fun e w' => e = .returned (.tuple #[.int .i64 (regionOfP f c).1, .int .i64 (regionOfP f c).2]) ∧ Below w.heap.size w w' := by
  have HR := Lib.hid (fun W (hb : Below w.heap.size w W) => hr.below hb)
  have AK := Lib.hid (fun W (hb : Below w.heap.size w W) => rasked_any f a n c W (hr.below hb))
  clear hr
  have AL := Lib.hid (al2 w (.cells (f.cells a n) 28) (.cells (cellA c) 41))
  go_enter Tryz.func27, Tryz.ntmps27
  go_upto_region 1 with fail
  obtain ⟨p, hp⟩ : ∃ p, Hid (w.heap.size = p) := ⟨_, Lib.hid rfl⟩
  obtain ⟨q, hq⟩ : ∃ q, Hid (w.heap.size + 1 = q) := ⟨_, Lib.hid rfl⟩
  rw [hq.out] at AL ⊢
  rw [hp.out] at AL ⊢
  generalize ((w.alloc (.cells (f.cells a n) 28)).alloc (.cells (cellA c) 41)) = W0 at *
  have BF : Hid (Below w.heap.size w W0) := Lib.hid (by rw [hp.out]; exact AL.out.1)
  have XF : Hid (W0.heap[p]? = some (.cells (f.cells a n) 28 (0, 0))) := Lib.hid AL.out.2.1
  have XC : Hid (W0.heap[q]? = some (.cells (cellA c) 41 (0, 0))) := Lib.hid AL.out.2.2
  clear AL
  have c0 := qcell XF.out 0 (.int .i64 f.eye) rfl
  have c1 := qcell XF.out 1 (.int .i64 f.rings) rfl
  have c2 := qcell XF.out 2 (.int .i64 f.sectors) rfl
  have c3 := qcell XF.out 3 (.slice a f.kinds.length n) rfl
  have d0 := qcell XC.out 0 (.int .i64 c.1) rfl
  have d1 := qcell XC.out 1 (.int .i64 c.2) rfl
  go_wp2_with (first
    | (refine wpList_load_row rfl 28 _ rfl p rfl 28 (f.cells a n) (0, 0) _ XF.out Tryz.underlying28 rfl (by exact (qJF f a n)) ?_)
    | (refine wpList_load_row rfl 41 _ rfl q rfl 41 (cellA c) (0, 0) _ XC.out Tryz.underlying41 rfl (by exact (qJC c)) ?_)
    | fail)
  refine (AK.out W0 BF.out).mono ?_
  rintro e V1 ⟨rfl, b⟩
  clear c0 c1 c2 c3 d0 d1
  replace BF := Lib.hid (BF.out.trans (b.mono BF.out.size))
  replace XF := Lib.hid (qblk b XF.out)
  replace XC := Lib.hid (qblk b XC.out)
  clear b
  have c0 := qcell XF.out 0 (.int .i64 f.eye) rfl
  have c1 := qcell XF.out 1 (.int .i64 f.rings) rfl
  have c2 := qcell XF.out 2 (.int .i64 f.sectors) rfl
  have c3 := qcell XF.out 3 (.slice a f.kinds.length n) rfl
  have d0 := qcell XC.out 0 (.int .i64 c.1) rfl
  have d1 := qcell XC.out 1 (.int .i64 c.2) rfl
  cases hk : decide (askedF f c ≠ 0)
  · have HK : Hid (askedF f c = 0) := Lib.hid (by simpa using hk)
    have ZK := Lib.hid (asked_zero.1 HK.out)
    have IV := Lib.hid (FaceV.int ZK.out.1)
    have HC := Lib.hid (hasF_iff.1 ZK.out.2)
    have IL := Lib.hid (index_lt ZK.out.1 HC.out.1 c.2)
    have hk2 : (askedF f c != 0) = false := by simpa using hk
    clear hk
    clear c0 c1 c2 c3 d0 d1
    go_upto_region 4 with fail
    refine yB ?_
    refine yW (.agg (f.cells a n)) ?_ (qyrow (by kernel_rfl) 28 _ rfl p rfl _ 28 (0, 0) _ (fun W hW => by rw [hW]; exact XF.out) Tryz.underlying28 rfl (by exact (qJF f a n)))
    refine yR (fun K hK => ?_)
    go_simp
    refine (rmarks_any f a n _ ZK.out.1 (HR.out _ BF.out)).mono ?_
    rintro e U1 ⟨⟨b0, rfl, own⟩, b⟩
    have MK := Lib.hid own.rd
    clear own
    obtain ⟨MQ, hMQ⟩ : ∃ z, Hid ((regionsF f).2 = z) := ⟨_, Lib.hid rfl⟩
    rw [hMQ.out]
    replace BF := Lib.hid (BF.out.trans (b.mono BF.out.size))
    replace XF := Lib.hid (qblk b XF.out)
    replace XC := Lib.hid (qblk b XC.out)
    clear b
    try dsimp only
    refine yK hK ?_
    clear hK K
    refine yM (.tuple #[.slice (some ⟨b0, 0, none⟩) f.kinds.length f.kinds.length, .int .i64 MQ]) ?_
    refine yM (.slice (some ⟨b0, 0, none⟩) f.kinds.length f.kinds.length) ?_
    refine yM (.int .i64 MQ) ?_
    refine yM (.slice (some ⟨b0, 0, none⟩) f.kinds.length f.kinds.length) ?_
    refine yM (.int .i64 MQ) ?_
    refine yE ?_
    obtain ⟨k, hk⟩ : ∃ k, Hid ((indexF f c.1 c.2).toNat = k) := ⟨_, Lib.hid rfl⟩
    have HI : Hid (indexF f c.1 c.2 = (k : Int)) := Lib.hid (by have := IL.out; have := hk.out; omega)
    have HJ : Hid (k < f.kinds.length) := Lib.hid (by have := IL.out; have := hk.out; omega)
    have hlt : k < f.kinds.length := HJ.out
    obtain ⟨r, hr0⟩ := Option.isSome_iff_exists.1 ((regF ZK.out.1).dn k hlt)
    have HO := Lib.hid hr0
    have HKA : Hid ((mkL f.kinds.length (regionsF f).1)[k]? = some r) := Lib.hid (by rw [mkL_at hlt, hr0]; rfl)
    clear hr0
    go_upto_region 5 with fail
    refine yB ?_
    refine yM (.slice (some ⟨b0, 0, none⟩) f.kinds.length f.kinds.length) ?_
    refine yW (.agg (f.cells a n)) ?_ (qyrow (by kernel_rfl) 28 _ rfl p rfl _ 28 (0, 0) _ (fun W hW => by rw [hW]; exact XF.out) Tryz.underlying28 rfl (by exact (qJF f a n)))
    refine yW (.agg (cellA c)) ?_ (qyrow (by kernel_rfl) 41 _ rfl q rfl _ 41 (0, 0) _ (fun W hW => by rw [hW]; exact XC.out) Tryz.underlying41 rfl (by exact (qJC c)))
    refine yR (fun K hK => ?_)
    go_simp
    refine (rnum_any f a n c _ ZK.out.1 ZK.out.2).mono ?_
    rintro e U2 ⟨rfl, b⟩
    replace BF := Lib.hid (BF.out.trans (b.mono BF.out.size))
    replace MK := Lib.hid (MK.out.below b)
    replace XF := Lib.hid (qblk b XF.out)
    replace XC := Lib.hid (qblk b XC.out)
    clear b
    rw [HI.out]
    try dsimp only
    refine yK hK ?_
    clear hK K
    refine yW (.pointer (some ⟨b0, k, none⟩)) ?_
    refine yW (.int .i64 r) ?_ (.inl ⟨by kernel_rfl, by intro W hW; rw [hW]; have c := rdi_at MK.out HKA.out; rw [Nat.zero_add] at c; go_simp⟩)
    refine yM (.int .i64 r) ?_
    refine yM (.int .i64 0) ?_
    refine yE ?_
    go_wp2_with fail
    go_ret2
    exact ⟨by unfold regionOfP; rw [if_pos HK.out, HI.out, HO.out]; rfl, BF.out⟩
  · have HK : Hid (askedF f c ≠ 0) := Lib.hid (by simpa using hk)
    have hk2 : (askedF f c != 0) = true := by simpa using hk
    clear hk
    go_wp2_with (first
      | (refine wpList_load_row rfl 28 _ rfl p rfl 28 (f.cells a n) (0, 0) _ XF.out Tryz.underlying28 rfl (by exact (qJF f a n)) ?_)
      | (refine wpList_load_row rfl 41 _ rfl q rfl 41 (cellA c) (0, 0) _ XC.out Tryz.underlying41 rfl (by exact (qJC c)) ?_)
      | fail)
    go_ret2
    exact ⟨by unfold regionOfP; rw [if_neg HK.out]; rfl, BF.out⟩
end Go.Proofs.YtimmadkbkimonaaGreatDoor
namespace Go.Proofs.YtimmadkbkimonaaGreatDoor
set_option linter.unusedSimpArgs false
set_option linter.unusedVariables false
open Go.RowKit

theorem RdC.below {w w' : World} {a : Option Addr} {n c : Nat} {l : List CellV} (h : RdC w a n c l) (hb : Below w.heap.size w w') : RdC w' a n c l := RdA.below h hb
theorem RdC.len {w : World} {a : Option Addr} {n c : Nat} {l : List CellV} (h : RdC w a n c l) : l.length = n := by have := RdA.len h; rw [cellsV_len] at this; omega
theorem RdC.get {w : World} {a : Option Addr} {n c : Nat} {l : List CellV} (h : RdC w a n c l) {k : Nat} {x : CellV} (hx : l[k]? = some x) : ∃ b off, a = some ⟨b, off, none⟩ ∧ w.cell? ⟨b, off + k * 2, none⟩ = some (.int .i64 x.1) ∧ w.cell? ⟨b, off + k * 2 + 1, none⟩ = some (.int .i64 x.2) := by
  have hl := (List.getElem?_eq_some_iff.1 hx).1
  have hn := h.len
  obtain ⟨b, off, rfl, h4⟩ := RdA.at h (by omega)
  refine ⟨b, off, rfl, h4 _ _ (cellsV_at l k x hx).1, ?_⟩
  rw [Nat.add_assoc]
  exact h4 _ _ (cellsV_at l k x hx).2
theorem rdc_at {W : World} {b off n c k : Nat} {l : List CellV} {x : CellV} (h : RdC W (some ⟨b, off, none⟩) n c l) (hx : l[k]? = some x) : W.cell? ⟨b, off + k * 2, none⟩ = some (.int .i64 x.1) ∧ W.cell? ⟨b, off + k * 2 + 1, none⟩ = some (.int .i64 x.2) := by
  obtain ⟨b2, o2, e, h2⟩ := h.get hx
  simp only [Option.some.injEq, Addr.mk.injEq, and_true] at e
  rw [e.1, e.2]
  exact h2
theorem qsizeC : (Tryz.prog.info? 41).map (·.size) = some 2 := by kernel_rfl
end Go.Proofs.YtimmadkbkimonaaGreatDoor
namespace Go.Proofs.YtimmadkbkimonaaGreatDoor
set_option linter.unusedSimpArgs false
set_option linter.unusedVariables false
open Go.RowKit

set_option maxHeartbeats 4000000 in
set_option maxRecDepth 100000 in
theorem rsameCells_any (a : Option Addr) (N c : Nat) (a' : Option Addr) (c' : Nat) (l : List CellV) (w : World) (hN : l.length = N) (hl : N ≤ 1000000) (hr : RdC w a N c l) (hr' : RdC w a' N c' l) :
    Calls Tryz.prog 28 #[.slice a N c, .slice a' N c'] w fun e w' => e = .returned (.bool true) ∧ Below w.heap.size w w' := by
  have HA := Lib.hid hr
  have HB := Lib.hid hr'
  have HN := Lib.hid hN
  have HL := Lib.hid hl
  clear hr hr' hN hl
  have BF := Lib.hid (Below.refl w.heap.size w)
  go_enter Tryz.func28, Tryz.ntmps28
  have t0 : ((N : Int) != (N : Int)) = false := by simp
  go_wp2_with fail
  clear t0
  go_loopw [5] (fun v wr => ∃ k : Nat, v = .int .i64 (k : Int) ∧ k ≤ N ∧ Hid (Below w.heap.size w wr)) (fun v _ => N - (intOf v).toNat)
  case atStart => exact ⟨0, rfl, Nat.zero_le _, BF⟩
  case round =>
    clear BF
    obtain ⟨k, rfl, hk, BF⟩ := hrel
    by_cases hkn : k < N
    · have t0 : decide ((k : Int) < (N : Int)) = true := by simp; omega
      have HK64 : Hid ((k : Int) + 1 ≤ 9223372036854775807) := Lib.hid (by have := HL.out; omega)
      obtain ⟨x, hx⟩ : ∃ x, l[k]? = some x := ⟨_, List.getElem?_eq_getElem (by rw [HN.out]; exact hkn)⟩
      have HX := Lib.hid hx
      obtain ⟨gb, go, ha, _⟩ := HA.out.get hx
      obtain ⟨gd, gp, ha', _⟩ := HB.out.get hx
      subst ha ha'
      clear hx
      obtain ⟨m, hm⟩ : ∃ m, Hid (go + k * 2 = m) := ⟨_, Lib.hid rfl⟩
      obtain ⟨m', hm'⟩ : ∃ m, Hid (gp + k * 2 = m) := ⟨_, Lib.hid rfl⟩
      have hi := fun W => qidx (W := W) (c := c) (b := gb) Tryz.underlying44 qsizeC hkn hm.out
      have hi' := fun W => qidx (W := W) (c := c') (b := gd) Tryz.underlying44 qsizeC hkn hm'.out
      have RA := Lib.hid (HA.out.below BF.out)
      have RB := Lib.hid (HB.out.below BF.out)
      go_upto_region 6 with fail
      clear t0
      have hd : Below wr.heap.size wr wr.drew := (Below.refl _ _).drew
      replace BF := Lib.hid (BF.out.trans (hd.mono BF.out.size))
      replace RA := Lib.hid (RA.out.below hd)
      replace RB := Lib.hid (RB.out.below hd)
      clear hd
      refine zD (fun W => Below wr.drew.heap.size wr.drew W) (Below.refl _ _) (fun hHeld => ?_)
      have BV := Lib.hid hHeld
      generalize wr.drew = V1 at *
      refine zW 0 rfl (.slice (some ⟨gb, go, none⟩) N c) ?_
      refine zW 1 rfl (.int .i64 (k : Int)) ?_
      refine zW 2 rfl (.pointer (some ⟨gb, m, none⟩)) ?_
      refine zS 3 rfl (.agg (cellA x)) (fun W hW => by have c0 := (rdc_at (RA.out.below hW) HX.out).1; have c1 := (rdc_at (RA.out.below hW) HX.out).2; rw [hm.out] at c0 c1; go_simp; (try rfl)) ?_
      refine zW 4 rfl (.slice (some ⟨gd, gp, none⟩) N c') ?_
      refine zW 5 rfl (.int .i64 (k : Int)) ?_
      refine zW 6 rfl (.pointer (some ⟨gd, m', none⟩)) ?_
      refine zS 7 rfl (.agg (cellA x)) (fun W hW => by have c0 := (rdc_at (RB.out.below hW) HX.out).1; have c1 := (rdc_at (RB.out.below hW) HX.out).2; rw [hm'.out] at c0 c1; go_simp; (try rfl)) ?_
      refine zW 8 rfl (.bool false) (hy := .inl ⟨by kernel_rfl, by intro W hW; (try rw [hW]); unfold cellA; go_simp; (try simp)⟩) ?_
      refine zE ?_
      have bz := BV.out
      replace BF := Lib.hid (BF.out.trans (bz.mono BF.out.size))
      replace RA := Lib.hid (RA.out.below bz)
      replace RB := Lib.hid (RB.out.below bz)
      clear bz
      clear BV
      go_upto_region 5 with fail
      clear hi hi'
      have hk64 := HK64.out
      go_wp2_with fail
      go_roundw
      case rel => exact ⟨k + 1, by simp, by omega, BF⟩
      case measure => simp [intOf]; omega
    · have t0 : decide ((k : Int) < (N : Int)) = false := by simp; omega
      go_wp2_with fail
      go_ret
      exact ⟨rfl, BF.out⟩
end Go.Proofs.YtimmadkbkimonaaGreatDoor
namespace Go.Proofs.YtimmadkbkimonaaGreatDoor
structure LookV where
  cell : CellV
  idx : Int
  kind : Int
  n : Int
def lookA (x : LookV) : Array Value := #[.int .i64 x.cell.1, .int .i64 x.cell.2, .int .i64 x.idx, .int .i64 x.kind, .int .i64 x.n]
end Go.Proofs.YtimmadkbkimonaaGreatDoor
namespace Go.Proofs.YtimmadkbkimonaaGreatDoor
set_option linter.unusedSimpArgs false
set_option linter.unusedVariables false
open Go.RowKit

set_option maxHeartbeats 4000000 in
set_option maxRecDepth 100000 in
theorem regions_law_any (f : FaceV) (a : Option Addr) (n : Nat) (x : LookV) (w : World) (he : EnvW w) (hr : RdI w a f.kinds.length n f.kinds) :
    Calls Tryz.prog 5 #[.agg (f.cells a n), .agg (lookA x)] w fun e w' => e = .returned (.bool true) ∧ Below w.heap.size w w' := by
  have EV := Lib.hid (fun W (hb : Below w.heap.size w W) => he.below hb)
  have HR := Lib.hid hr
  clear he hr
  have AL := Lib.hid (al2 w (.cells (f.cells a n) 28) (.cells (lookA x) 43))
  go_enter Tryz.func5, Tryz.ntmps5
  go_upto_region 1 with fail
  obtain ⟨p, hp⟩ : ∃ p, Hid (w.heap.size = p) := ⟨_, Lib.hid rfl⟩
  obtain ⟨u, hu⟩ : ∃ u, Hid (w.heap.size + 1 = u) := ⟨_, Lib.hid rfl⟩
  rw [hu.out] at AL ⊢
  rw [hp.out] at AL ⊢
  generalize ((w.alloc (.cells (f.cells a n) 28)).alloc (.cells (lookA x) 43)) = W0 at *
  have BF : Hid (Below w.heap.size w W0) := Lib.hid (by rw [hp.out]; exact AL.out.1)
  have XF : Hid (W0.heap[p]? = some (.cells (f.cells a n) 28 (0, 0))) := Lib.hid AL.out.2.1
  have XL : Hid (W0.heap[u]? = some (.cells (lookA x) 43 (0, 0))) := Lib.hid AL.out.2.2
  clear AL
  have c0 := qcell XF.out 0 (.int .i64 f.eye) rfl
  have c1 := qcell XF.out 1 (.int .i64 f.rings) rfl
  have c2 := qcell XF.out 2 (.int .i64 f.sectors) rfl
  have c3 := qcell XF.out 3 (.slice a f.kinds.length n) rfl
  clear c0 c1 c2 c3
  replace HR := Lib.hid (HR.out.below BF.out)
  go_upto_region 1 with fail
  refine yB ?_
  refine yR (fun K hK => ?_)
  go_simp
  refine (awake_any _ (EV.out _ BF.out)).mono ?_
  rintro e U1 ⟨rfl, b⟩
  replace BF := Lib.hid (BF.out.trans (b.mono BF.out.size))
  replace HR := Lib.hid (HR.out.below b)
  replace XF := Lib.hid (qblk b XF.out)
  replace XL := Lib.hid (qblk b XL.out)
  clear b
  try dsimp only
  refine yK hK ?_
  clear hK K
  refine yM (.bool true) ?_
  refine yE ?_
  go_upto_region 2 with fail
  refine yB ?_
  refine yW (.agg (f.cells a n)) ?_ (qyrow (by kernel_rfl) 28 _ rfl p rfl _ 28 (0, 0) _ (fun W hW => by rw [hW]; exact XF.out) Tryz.underlying28 rfl (by exact (qJF f a n)))
  refine yR (fun K hK => ?_)
  go_simp
  refine (short_any f a n _).mono ?_
  rintro e U2 ⟨rfl, b⟩
  replace BF := Lib.hid (BF.out.trans (b.mono BF.out.size))
  replace HR := Lib.hid (HR.out.below b)
  replace XF := Lib.hid (qblk b XF.out)
  replace XL := Lib.hid (qblk b XL.out)
  clear b
  cases hf : decide (f.kinds.length ≤ 3000)
  · try dsimp only
    refine yK hK ?_
    clear hK K
    refine yM (.bool true) ?_
    refine yE ?_
    go_wp2_with fail
    go_ret
    exact ⟨rfl, BF.out⟩
  · try dsimp only
    refine yK hK ?_
    clear hK K
    refine yM (.bool false) ?_
    refine yE ?_
    obtain ⟨NB, hNB⟩ : ∃ z, Hid ((neighP f x.cell).1 = z) := ⟨_, Lib.hid rfl⟩
    obtain ⟨EN, hEN⟩ : ∃ z, Hid ((neighP f x.cell).2 = z) := ⟨_, Lib.hid rfl⟩
    obtain ⟨LS, hLS⟩ : ∃ z, Hid ((regionsP f).1 = z) := ⟨_, Lib.hid rfl⟩
    obtain ⟨ES, hES⟩ : ∃ z, Hid ((regionsP f).2 = z) := ⟨_, Lib.hid rfl⟩
    obtain ⟨Q, hQ⟩ : ∃ z, Hid ((regionOfP f x.cell).1 = z) := ⟨_, Lib.hid rfl⟩
    obtain ⟨EQ, hEQ⟩ : ∃ z, Hid ((regionOfP f x.cell).2 = z) := ⟨_, Lib.hid rfl⟩
    obtain ⟨D, hD⟩ : ∃ z, Hid ((deadP f).1 = z) := ⟨_, Lib.hid rfl⟩
    obtain ⟨ED, hED⟩ : ∃ z, Hid ((deadP f).2 = z) := ⟨_, Lib.hid rfl⟩
    obtain ⟨DR, hDR⟩ : ∃ z, Hid (drainsB f = z) := ⟨_, Lib.hid rfl⟩
    obtain ⟨NN, hNN⟩ : ∃ z, Hid (NB.length = z) := ⟨_, Lib.hid rfl⟩
    obtain ⟨NS, hNS⟩ : ∃ z, Hid (LS.length = z) := ⟨_, Lib.hid rfl⟩
    obtain ⟨ND, hND⟩ : ∃ z, Hid (D.length = z) := ⟨_, Lib.hid rfl⟩
    have NNB : Hid (NN ≤ 1000000) := Lib.hid (by
      rw [← hNN.out, ← hNB.out]
      unfold neighP
      by_cases hk : askedF f x.cell = 0
      · rw [if_pos hk]
        dsimp only
        rw [List.length_map]
        have := (neigh_len (asked_zero.1 hk).1 (indexF f x.cell.1 x.cell.2)).2
        omega
      · rw [if_neg hk]
        simp)
    go_upto_region 4 with fail
    refine yB ?_
    refine yW (.agg (f.cells a n)) ?_ (qyrow (by kernel_rfl) 28 _ rfl p rfl _ 28 (0, 0) _ (fun W hW => by rw [hW]; exact XF.out) Tryz.underlying28 rfl (by exact (qJF f a n)))
    refine yW (.pointer (some ⟨u, 0, none⟩)) ?_
    refine yW (.agg (cellA x.cell)) ?_ (.inl ⟨by kernel_rfl, by intro W hW; rw [hW]; have c0 := qcell XL.out 0 (.int .i64 x.cell.1) rfl; have c1 := qcell XL.out 1 (.int .i64 x.cell.2) rfl; go_simp; (try rfl)⟩)
    refine yR (fun K hK => ?_)
    go_simp
    refine (neighP_any f a n x.cell _ HR.out).mono ?_
    rintro e U3 ⟨⟨a1, n1, rfl, own⟩, b9⟩
    have b := b9
    clear b9
    rw [hNB.out, hNN.out] at own
    rw [hNB.out, hNN.out, hEN.out]
    have R1 : Hid (RdC U3 a1 NN n1 NB) := Lib.hid (RdA.of_own own)
    clear own
    replace BF := Lib.hid (BF.out.trans (b.mono BF.out.size))
    replace HR := Lib.hid (HR.out.below b)
    replace XF := Lib.hid (qblk b XF.out)
    replace XL := Lib.hid (qblk b XL.out)
    clear b
    try dsimp only
    refine yK hK ?_
    clear hK K
    refine yMs [.tuple #[.slice a1 NN n1, .int .i64 EN], .slice a1 NN n1, .int .i64 EN, .slice a1 NN n1, .int .i64 EN] (fun W => ⟨.inl ⟨by kernel_rfl, by kernel_rfl⟩, .inl ⟨by kernel_rfl, by kernel_rfl⟩, .inl ⟨by kernel_rfl, by kernel_rfl⟩, .inl ⟨by kernel_rfl, by kernel_rfl⟩, .inl ⟨by kernel_rfl, by kernel_rfl⟩, trivial⟩) ?_
    refine yE ?_
    go_upto_region 5 with fail
    refine yB ?_
    refine yW (.agg (f.cells a n)) ?_ (qyrow (by kernel_rfl) 28 _ rfl p rfl _ 28 (0, 0) _ (fun W hW => by rw [hW]; exact XF.out) Tryz.underlying28 rfl (by exact (qJF f a n)))
    refine yW (.pointer (some ⟨u, 0, none⟩)) ?_
    refine yW (.agg (cellA x.cell)) ?_ (.inl ⟨by kernel_rfl, by intro W hW; rw [hW]; have c0 := qcell XL.out 0 (.int .i64 x.cell.1) rfl; have c1 := qcell XL.out 1 (.int .i64 x.cell.2) rfl; go_simp; (try rfl)⟩)
    refine yR (fun K hK => ?_)
    go_simp
    refine (rneighP_any f a n x.cell _ HR.out).mono ?_
    rintro e U4 ⟨⟨a2, n2, rfl, own⟩, b9⟩
    have b := b9
    clear b9
    rw [hNB.out, hNN.out] at own
    rw [hNB.out, hNN.out, hEN.out]
    have R2 : Hid (RdC U4 a2 NN n2 NB) := Lib.hid (RdA.of_own own)
    clear own
    replace BF := Lib.hid (BF.out.trans (b.mono BF.out.size))
    replace HR := Lib.hid (HR.out.below b)
    replace R1 := Lib.hid (R1.out.below b)
    replace XF := Lib.hid (qblk b XF.out)
    replace XL := Lib.hid (qblk b XL.out)
    clear b
    try dsimp only
    refine yK hK ?_
    clear hK K
    refine yMs [.tuple #[.slice a2 NN n2, .int .i64 EN], .slice a2 NN n2, .int .i64 EN, .slice a2 NN n2, .int .i64 EN] (fun W => ⟨.inl ⟨by kernel_rfl, by kernel_rfl⟩, .inl ⟨by kernel_rfl, by kernel_rfl⟩, .inl ⟨by kernel_rfl, by kernel_rfl⟩, .inl ⟨by kernel_rfl, by kernel_rfl⟩, .inl ⟨by kernel_rfl, by kernel_rfl⟩, trivial⟩) ?_
    refine yE ?_
    go_upto_region 6 with fail
    refine yB ?_
    refine yW (.agg (f.cells a n)) ?_ (qyrow (by kernel_rfl) 28 _ rfl p rfl _ 28 (0, 0) _ (fun W hW => by rw [hW]; exact XF.out) Tryz.underlying28 rfl (by exact (qJF f a n)))
    refine yR (fun K hK => ?_)
    go_simp
    refine (regionsP_any f a n _ HR.out).mono ?_
    rintro e U5 ⟨⟨a3, n3, rfl, own⟩, b9⟩
    have b := b9
    clear b9
    rw [hLS.out, hNS.out] at own
    rw [hLS.out, hNS.out, hES.out]
    have R3 := Lib.hid own
    clear own
    replace BF := Lib.hid (BF.out.trans (b.mono BF.out.size))
    replace HR := Lib.hid (HR.out.below b)
    replace R1 := Lib.hid (R1.out.below b)
    replace R2 := Lib.hid (R2.out.below b)
    replace XF := Lib.hid (qblk b XF.out)
    replace XL := Lib.hid (qblk b XL.out)
    clear b
    try dsimp only
    refine yK hK ?_
    clear hK K
    refine yMs [.tuple #[.slice a3 NS n3, .int .i64 ES], .slice a3 NS n3, .int .i64 ES, .slice a3 NS n3, .int .i64 ES] (fun W => ⟨.inl ⟨by kernel_rfl, by kernel_rfl⟩, .inl ⟨by kernel_rfl, by kernel_rfl⟩, .inl ⟨by kernel_rfl, by kernel_rfl⟩, .inl ⟨by kernel_rfl, by kernel_rfl⟩, .inl ⟨by kernel_rfl, by kernel_rfl⟩, trivial⟩) ?_
    refine yE ?_
    go_upto_region 7 with fail
    refine yB ?_
    refine yW (.agg (f.cells a n)) ?_ (qyrow (by kernel_rfl) 28 _ rfl p rfl _ 28 (0, 0) _ (fun W hW => by rw [hW]; exact XF.out) Tryz.underlying28 rfl (by exact (qJF f a n)))
    refine yR (fun K hK => ?_)
    go_simp
    refine (rregionsP_any f a n _ HR.out).mono ?_
    rintro e U6 ⟨⟨a4, n4, rfl, own⟩, b9⟩
    have b := b9
    clear b9
    rw [hLS.out, hNS.out] at own
    rw [hLS.out, hNS.out, hES.out]
    have R4 := Lib.hid own
    clear own
    replace BF := Lib.hid (BF.out.trans (b.mono BF.out.size))
    replace HR := Lib.hid (HR.out.below b)
    replace R1 := Lib.hid (R1.out.below b)
    replace R2 := Lib.hid (R2.out.below b)
    replace R3 := Lib.hid (R3.out.below b)
    replace XF := Lib.hid (qblk b XF.out)
    replace XL := Lib.hid (qblk b XL.out)
    clear b
    try dsimp only
    refine yK hK ?_
    clear hK K
    refine yMs [.tuple #[.slice a4 NS n4, .int .i64 ES], .slice a4 NS n4, .int .i64 ES, .slice a4 NS n4, .int .i64 ES] (fun W => ⟨.inl ⟨by kernel_rfl, by kernel_rfl⟩, .inl ⟨by kernel_rfl, by kernel_rfl⟩, .inl ⟨by kernel_rfl, by kernel_rfl⟩, .inl ⟨by kernel_rfl, by kernel_rfl⟩, .inl ⟨by kernel_rfl, by kernel_rfl⟩, trivial⟩) ?_
    refine yE ?_
    go_upto_region 8 with fail
    refine yB ?_
    refine yW (.agg (f.cells a n)) ?_ (qyrow (by kernel_rfl) 28 _ rfl p rfl _ 28 (0, 0) _ (fun W hW => by rw [hW]; exact XF.out) Tryz.underlying28 rfl (by exact (qJF f a n)))
    refine yW (.pointer (some ⟨u, 0, none⟩)) ?_
    refine yW (.agg (cellA x.cell)) ?_ (.inl ⟨by kernel_rfl, by intro W hW; rw [hW]; have c0 := qcell XL.out 0 (.int .i64 x.cell.1) rfl; have c1 := qcell XL.out 1 (.int .i64 x.cell.2) rfl; go_simp; (try rfl)⟩)
    refine yR (fun K hK => ?_)
    go_simp
    refine (regionOf_any f a n x.cell _ HR.out).mono ?_
    rintro e U7 ⟨rfl, b⟩
    replace BF := Lib.hid (BF.out.trans (b.mono BF.out.size))
    replace HR := Lib.hid (HR.out.below b)
    replace R1 := Lib.hid (R1.out.below b)
    replace R2 := Lib.hid (R2.out.below b)
    replace R3 := Lib.hid (R3.out.below b)
    replace R4 := Lib.hid (R4.out.below b)
    replace XF := Lib.hid (qblk b XF.out)
    replace XL := Lib.hid (qblk b XL.out)
    clear b
    rw [hQ.out, hEQ.out]
    try dsimp only
    refine yK hK ?_
    clear hK K
    refine yMs [.tuple #[.int .i64 Q, .int .i64 EQ], .int .i64 Q, .int .i64 EQ, .int .i64 Q, .int .i64 EQ] (fun W => ⟨.inl ⟨by kernel_rfl, by kernel_rfl⟩, .inl ⟨by kernel_rfl, by kernel_rfl⟩, .inl ⟨by kernel_rfl, by kernel_rfl⟩, .inl ⟨by kernel_rfl, by kernel_rfl⟩, .inl ⟨by kernel_rfl, by kernel_rfl⟩, trivial⟩) ?_
    refine yE ?_
    go_upto_region 9 with fail
    refine yB ?_
    refine yW (.agg (f.cells a n)) ?_ (qyrow (by kernel_rfl) 28 _ rfl p rfl _ 28 (0, 0) _ (fun W hW => by rw [hW]; exact XF.out) Tryz.underlying28 rfl (by exact (qJF f a n)))
    refine yW (.pointer (some ⟨u, 0, none⟩)) ?_
    refine yW (.agg (cellA x.cell)) ?_ (.inl ⟨by kernel_rfl, by intro W hW; rw [hW]; have c0 := qcell XL.out 0 (.int .i64 x.cell.1) rfl; have c1 := qcell XL.out 1 (.int .i64 x.cell.2) rfl; go_simp; (try rfl)⟩)
    refine yR (fun K hK => ?_)
    go_simp
    refine (rregionOf_any f a n x.cell _ HR.out).mono ?_
    rintro e U8 ⟨rfl, b⟩
    replace BF := Lib.hid (BF.out.trans (b.mono BF.out.size))
    replace HR := Lib.hid (HR.out.below b)
    replace R1 := Lib.hid (R1.out.below b)
    replace R2 := Lib.hid (R2.out.below b)
    replace R3 := Lib.hid (R3.out.below b)
    replace R4 := Lib.hid (R4.out.below b)
    replace XF := Lib.hid (qblk b XF.out)
    replace XL := Lib.hid (qblk b XL.out)
    clear b
    rw [hQ.out, hEQ.out]
    try dsimp only
    refine yK hK ?_
    clear hK K
    refine yMs [.tuple #[.int .i64 Q, .int .i64 EQ], .int .i64 Q, .int .i64 EQ, .int .i64 Q, .int .i64 EQ] (fun W => ⟨.inl ⟨by kernel_rfl, by kernel_rfl⟩, .inl ⟨by kernel_rfl, by kernel_rfl⟩, .inl ⟨by kernel_rfl, by kernel_rfl⟩, .inl ⟨by kernel_rfl, by kernel_rfl⟩, .inl ⟨by kernel_rfl, by kernel_rfl⟩, trivial⟩) ?_
    refine yE ?_
    go_upto_region 10 with fail
    refine yB ?_
    refine yM (.slice a1 NN n1) ?_
    refine yM (.slice a2 NN n2) ?_
    refine yR (fun K hK => ?_)
    go_simp
    refine (rsameCells_any a1 NN n1 a2 n2 NB _ hNN.out NNB.out R1.out R2.out).mono ?_
    rintro e U9 ⟨rfl, b⟩
    replace BF := Lib.hid (BF.out.trans (b.mono BF.out.size))
    replace HR := Lib.hid (HR.out.below b)
    replace R1 := Lib.hid (R1.out.below b)
    replace R2 := Lib.hid (R2.out.below b)
    replace R3 := Lib.hid (R3.out.below b)
    replace R4 := Lib.hid (R4.out.below b)
    replace XF := Lib.hid (qblk b XF.out)
    replace XL := Lib.hid (qblk b XL.out)
    clear b
    try dsimp only
    refine yK hK ?_
    clear hK K
    refine yMs [.bool false, .bool false, .int .i64 EN, .int .i64 EN] (fun W => ⟨.inl ⟨by kernel_rfl, by kernel_rfl⟩, .inl ⟨by kernel_rfl, by kernel_rfl⟩, .inl ⟨by kernel_rfl, by kernel_rfl⟩, .inl ⟨by kernel_rfl, by kernel_rfl⟩, trivial⟩) ?_
    refine yW (.bool false) ?_ (.inl ⟨by kernel_rfl, by intro W hW; (try rw [hW]); go_simp; (try simp)⟩)
    refine yMs [.bool false, .bool false, .slice a3 NS n3, .slice a4 NS n4] (fun W => ⟨.inl ⟨by kernel_rfl, by kernel_rfl⟩, .inl ⟨by kernel_rfl, by kernel_rfl⟩, .inl ⟨by kernel_rfl, by kernel_rfl⟩, .inl ⟨by kernel_rfl, by kernel_rfl⟩, trivial⟩) ?_
    refine yR (fun K hK => ?_)
    go_simp
    refine (sameLists_any a3 NS n3 LS a4 NS n4 LS _ R3.out R4.out).mono ?_
    rintro e U10 ⟨rfl, b⟩
    rw [show decide (LS = LS) = true from decide_eq_true rfl]
    replace BF := Lib.hid (BF.out.trans (b.mono BF.out.size))
    replace HR := Lib.hid (HR.out.below b)
    replace R1 := Lib.hid (R1.out.below b)
    replace R2 := Lib.hid (R2.out.below b)
    replace R3 := Lib.hid (R3.out.below b)
    replace R4 := Lib.hid (R4.out.below b)
    replace XF := Lib.hid (qblk b XF.out)
    replace XL := Lib.hid (qblk b XL.out)
    clear b
    try dsimp only
    refine yK hK ?_
    clear hK K
    refine yMs [.bool false, .bool false, .bool false, .int .i64 ES, .int .i64 ES] (fun W => ⟨.inl ⟨by kernel_rfl, by kernel_rfl⟩, .inl ⟨by kernel_rfl, by kernel_rfl⟩, .inl ⟨by kernel_rfl, by kernel_rfl⟩, .inl ⟨by kernel_rfl, by kernel_rfl⟩, .inl ⟨by kernel_rfl, by kernel_rfl⟩, trivial⟩) ?_
    refine yW (.bool false) ?_ (.inl ⟨by kernel_rfl, by intro W hW; (try rw [hW]); go_simp; (try simp)⟩)
    refine yMs [.bool false, .bool false, .int .i64 Q, .int .i64 Q] (fun W => ⟨.inl ⟨by kernel_rfl, by kernel_rfl⟩, .inl ⟨by kernel_rfl, by kernel_rfl⟩, .inl ⟨by kernel_rfl, by kernel_rfl⟩, .inl ⟨by kernel_rfl, by kernel_rfl⟩, trivial⟩) ?_
    refine yW (.bool false) ?_ (.inl ⟨by kernel_rfl, by intro W hW; (try rw [hW]); go_simp; (try simp)⟩)
    refine yMs [.bool false, .bool false, .int .i64 EQ, .int .i64 EQ] (fun W => ⟨.inl ⟨by kernel_rfl, by kernel_rfl⟩, .inl ⟨by kernel_rfl, by kernel_rfl⟩, .inl ⟨by kernel_rfl, by kernel_rfl⟩, .inl ⟨by kernel_rfl, by kernel_rfl⟩, trivial⟩) ?_
    refine yW (.bool false) ?_ (.inl ⟨by kernel_rfl, by intro W hW; (try rw [hW]); go_simp; (try simp)⟩)
    refine yM (.bool false) ?_
    refine yE ?_
    go_upto_region 12 with fail
    refine yB ?_
    refine yW (.agg (f.cells a n)) ?_ (qyrow (by kernel_rfl) 28 _ rfl p rfl _ 28 (0, 0) _ (fun W hW => by rw [hW]; exact XF.out) Tryz.underlying28 rfl (by exact (qJF f a n)))
    refine yR (fun K hK => ?_)
    go_simp
    refine (deadP_any f a n _ HR.out).mono ?_
    rintro e U11 ⟨⟨a5, n5, rfl, own⟩, b9⟩
    have b := b9
    clear b9
    rw [hD.out, hND.out] at own
    rw [hD.out, hND.out, hED.out]
    have R5 : Hid (RdI U11 a5 ND n5 D) := Lib.hid (RdA.of_own own)
    clear own
    replace BF := Lib.hid (BF.out.trans (b.mono BF.out.size))
    replace HR := Lib.hid (HR.out.below b)
    replace R1 := Lib.hid (R1.out.below b)
    replace R2 := Lib.hid (R2.out.below b)
    replace R3 := Lib.hid (R3.out.below b)
    replace R4 := Lib.hid (R4.out.below b)
    replace XF := Lib.hid (qblk b XF.out)
    replace XL := Lib.hid (qblk b XL.out)
    clear b
    try dsimp only
    refine yK hK ?_
    clear hK K
    refine yMs [.tuple #[.slice a5 ND n5, .int .i64 ED], .slice a5 ND n5, .int .i64 ED, .slice a5 ND n5, .int .i64 ED] (fun W => ⟨.inl ⟨by kernel_rfl, by kernel_rfl⟩, .inl ⟨by kernel_rfl, by kernel_rfl⟩, .inl ⟨by kernel_rfl, by kernel_rfl⟩, .inl ⟨by kernel_rfl, by kernel_rfl⟩, .inl ⟨by kernel_rfl, by kernel_rfl⟩, trivial⟩) ?_
    refine yE ?_
    go_upto_region 13 with fail
    refine yB ?_
    refine yW (.agg (f.cells a n)) ?_ (qyrow (by kernel_rfl) 28 _ rfl p rfl _ 28 (0, 0) _ (fun W hW => by rw [hW]; exact XF.out) Tryz.underlying28 rfl (by exact (qJF f a n)))
    refine yR (fun K hK => ?_)
    go_simp
    refine (rdeadP_any f a n _ HR.out).mono ?_
    rintro e U12 ⟨⟨a6, n6, rfl, own⟩, b9⟩
    have b := b9
    clear b9
    rw [hD.out, hND.out] at own
    rw [hD.out, hND.out, hED.out]
    have R6 : Hid (RdI U12 a6 ND n6 D) := Lib.hid (RdA.of_own own)
    clear own
    replace BF := Lib.hid (BF.out.trans (b.mono BF.out.size))
    replace HR := Lib.hid (HR.out.below b)
    replace R1 := Lib.hid (R1.out.below b)
    replace R2 := Lib.hid (R2.out.below b)
    replace R3 := Lib.hid (R3.out.below b)
    replace R4 := Lib.hid (R4.out.below b)
    replace R5 := Lib.hid (R5.out.below b)
    replace XF := Lib.hid (qblk b XF.out)
    replace XL := Lib.hid (qblk b XL.out)
    clear b
    try dsimp only
    refine yK hK ?_
    clear hK K
    refine yMs [.tuple #[.slice a6 ND n6, .int .i64 ED], .slice a6 ND n6, .int .i64 ED, .slice a6 ND n6, .int .i64 ED] (fun W => ⟨.inl ⟨by kernel_rfl, by kernel_rfl⟩, .inl ⟨by kernel_rfl, by kernel_rfl⟩, .inl ⟨by kernel_rfl, by kernel_rfl⟩, .inl ⟨by kernel_rfl, by kernel_rfl⟩, .inl ⟨by kernel_rfl, by kernel_rfl⟩, trivial⟩) ?_
    refine yE ?_
    go_upto_region 14 with fail
    refine yB ?_
    refine yW (.agg (f.cells a n)) ?_ (qyrow (by kernel_rfl) 28 _ rfl p rfl _ 28 (0, 0) _ (fun W hW => by rw [hW]; exact XF.out) Tryz.underlying28 rfl (by exact (qJF f a n)))
    refine yR (fun K hK => ?_)
    go_simp
    refine (drainsP_any f a n _ HR.out).mono ?_
    rintro e U13 ⟨rfl, b⟩
    replace BF := Lib.hid (BF.out.trans (b.mono BF.out.size))
    replace HR := Lib.hid (HR.out.below b)
    replace R1 := Lib.hid (R1.out.below b)
    replace R2 := Lib.hid (R2.out.below b)
    replace R3 := Lib.hid (R3.out.below b)
    replace R4 := Lib.hid (R4.out.below b)
    replace R5 := Lib.hid (R5.out.below b)
    replace R6 := Lib.hid (R6.out.below b)
    replace XF := Lib.hid (qblk b XF.out)
    replace XL := Lib.hid (qblk b XL.out)
    clear b
    rw [hDR.out, hED.out]
    try dsimp only
    refine yK hK ?_
    clear hK K
    refine yMs [.tuple #[.bool DR, .int .i64 ED], .bool DR, .int .i64 ED, .bool DR, .int .i64 ED] (fun W => ⟨.inl ⟨by kernel_rfl, by kernel_rfl⟩, .inl ⟨by kernel_rfl, by kernel_rfl⟩, .inl ⟨by kernel_rfl, by kernel_rfl⟩, .inl ⟨by kernel_rfl, by kernel_rfl⟩, .inl ⟨by kernel_rfl, by kernel_rfl⟩, trivial⟩) ?_
    refine yE ?_
    go_upto_region 15 with fail
    refine yB ?_
    refine yW (.agg (f.cells a n)) ?_ (qyrow (by kernel_rfl) 28 _ rfl p rfl _ 28 (0, 0) _ (fun W hW => by rw [hW]; exact XF.out) Tryz.underlying28 rfl (by exact (qJF f a n)))
    refine yR (fun K hK => ?_)
    go_simp
    refine (rdrainsP_any f a n _ HR.out).mono ?_
    rintro e U14 ⟨rfl, b⟩
    replace BF := Lib.hid (BF.out.trans (b.mono BF.out.size))
    replace HR := Lib.hid (HR.out.below b)
    replace R1 := Lib.hid (R1.out.below b)
    replace R2 := Lib.hid (R2.out.below b)
    replace R3 := Lib.hid (R3.out.below b)
    replace R4 := Lib.hid (R4.out.below b)
    replace R5 := Lib.hid (R5.out.below b)
    replace R6 := Lib.hid (R6.out.below b)
    replace XF := Lib.hid (qblk b XF.out)
    replace XL := Lib.hid (qblk b XL.out)
    clear b
    rw [hDR.out, hED.out]
    try dsimp only
    refine yK hK ?_
    clear hK K
    refine yMs [.tuple #[.bool DR, .int .i64 ED], .bool DR, .int .i64 ED, .bool DR, .int .i64 ED] (fun W => ⟨.inl ⟨by kernel_rfl, by kernel_rfl⟩, .inl ⟨by kernel_rfl, by kernel_rfl⟩, .inl ⟨by kernel_rfl, by kernel_rfl⟩, .inl ⟨by kernel_rfl, by kernel_rfl⟩, .inl ⟨by kernel_rfl, by kernel_rfl⟩, trivial⟩) ?_
    refine yE ?_
    go_upto_region 16 with fail
    refine yB ?_
    refine yMs [.bool true, .bool true, .slice a5 ND n5, .slice a6 ND n6] (fun W => ⟨.inl ⟨by kernel_rfl, by kernel_rfl⟩, .inl ⟨by kernel_rfl, by kernel_rfl⟩, .inl ⟨by kernel_rfl, by kernel_rfl⟩, .inl ⟨by kernel_rfl, by kernel_rfl⟩, trivial⟩) ?_
    refine yR (fun K hK => ?_)
    go_simp
    refine (sameInts2_any a5 ND n5 D a6 ND n6 D _ R5.out R6.out).mono ?_
    rintro e U15 ⟨rfl, b⟩
    rw [show decide (D = D) = true from decide_eq_true rfl]
    replace BF := Lib.hid (BF.out.trans (b.mono BF.out.size))
    replace HR := Lib.hid (HR.out.below b)
    replace R1 := Lib.hid (R1.out.below b)
    replace R2 := Lib.hid (R2.out.below b)
    replace R3 := Lib.hid (R3.out.below b)
    replace R4 := Lib.hid (R4.out.below b)
    replace R5 := Lib.hid (R5.out.below b)
    replace R6 := Lib.hid (R6.out.below b)
    replace XF := Lib.hid (qblk b XF.out)
    replace XL := Lib.hid (qblk b XL.out)
    clear b
    try dsimp only
    refine yK hK ?_
    clear hK K
    refine yMs [.bool true, .bool true, .int .i64 ED, .int .i64 ED] (fun W => ⟨.inl ⟨by kernel_rfl, by kernel_rfl⟩, .inl ⟨by kernel_rfl, by kernel_rfl⟩, .inl ⟨by kernel_rfl, by kernel_rfl⟩, .inl ⟨by kernel_rfl, by kernel_rfl⟩, trivial⟩) ?_
    refine yW (.bool true) ?_ (.inl ⟨by kernel_rfl, by intro W hW; (try rw [hW]); go_simp; (try simp)⟩)
    refine yMs [.bool true, .bool true, .bool DR, .bool DR] (fun W => ⟨.inl ⟨by kernel_rfl, by kernel_rfl⟩, .inl ⟨by kernel_rfl, by kernel_rfl⟩, .inl ⟨by kernel_rfl, by kernel_rfl⟩, .inl ⟨by kernel_rfl, by kernel_rfl⟩, trivial⟩) ?_
    refine yW (.bool true) ?_ (.inl ⟨by kernel_rfl, by intro W hW; (try rw [hW]); cases DR <;> rfl⟩)
    refine yMs [.bool true, .bool true, .int .i64 ED, .int .i64 ED] (fun W => ⟨.inl ⟨by kernel_rfl, by kernel_rfl⟩, .inl ⟨by kernel_rfl, by kernel_rfl⟩, .inl ⟨by kernel_rfl, by kernel_rfl⟩, .inl ⟨by kernel_rfl, by kernel_rfl⟩, trivial⟩) ?_
    refine yW (.bool true) ?_ (.inl ⟨by kernel_rfl, by intro W hW; (try rw [hW]); go_simp; (try simp)⟩)
    refine yM (.bool true) ?_
    refine yM (.bool true) ?_
    refine yE ?_
    go_wp2_with fail
    go_ret
    exact ⟨rfl, BF.out⟩
end Go.Proofs.YtimmadkbkimonaaGreatDoor
namespace Go.Proofs.YtimmadkbkimonaaGreatDoor
open Go.ChangeShapes Go.WideShapes Go.ChangeAt Go.RowKit

theorem Tryz.own : ownKnob Tryz.prog.godebug = none := by kernel_rfl
theorem Tryz.laidOut : laidOutB Tryz.prog = true := by kernel_rfl

theorem below_trodAll {H : Type} {enc : TypeId × Value → H} {P : Program} (hl : laidOutB P = true) {W W' : World} (hb : Below W.heap.size W W') :
    ∀ (ts : List TypeId) {vs : List Value} {ds : List (DataW H)} {ps : List MemPlace}, ts.all (fun t => P.readableRec t && decide (t < P.types.size)) = true → (∀ x ∈ ps, x.block < W.heap.size) →
      DataW.TrodAll enc P W 0 (fun _ => true) true ts vs ds ps → DataW.TrodAll enc P W' 0 (fun b => decide (b < W.heap.size)) true ts vs ds ps
  | [], [], [], _, _, _, h => h
  | [], _ :: _, _, _, _, _, h => h.elim
  | [], [], _ :: _, _, _, _, h => h.elim
  | _ :: _, [], _, _, _, _, h => h.elim
  | _ :: _, _ :: _, [], _, _, _, h => h.elim
  | t :: ts, v :: vs, d :: ds, ps, hr, hlt, h => by
    obtain ⟨p, q, h1, h2, rfl⟩ := h
    simp only [List.all_cons, Bool.and_eq_true, decide_eq_true_eq] at hr
    exact ⟨p, q, Below.trod hl hr.1.1 hr.1.2 h1 hb (fun x hx => hlt x (List.mem_append_left _ hx)), below_trodAll hl hb ts hr.2 (fun x hx => hlt x (List.mem_append_right _ hx)) h2, rfl⟩

theorem post_of_law {H : Type} {enc : TypeId × Value → H} {P : Program} (hl : laidOutB P = true) {t : TypeId} (ht : P.underlying t = some .bool) {f : Func} {s : ChangeSpec} {W W' : World} {args : Array Value} {ds : List (DataW H)} {ps : List MemPlace}
    (hv : s.vars = []) (hf : f.resultTypes = #[t]) (hr : f.params.toList.all (fun t => P.readableRec t && decide (t < P.types.size)) = true)
    (hW : DataW.Whole enc P f.params.toList s.vars false W args.toList ds [] ps) (hA : DataW.TrodAll enc P W 0 (fun _ => true) true f.params.toList args.toList ds ps)
    (hs : s.fn H (ds ++ []) = { results := [.lit (.bool true)], args := ds }) (hb : Below W.heap.size W W') : s.post enc P f false true false false W args (.bool true) W' := by
  refine ⟨ds, [], ps, [], ps, [], hW, ?_, ?_, ?_, hb.frame _, fun h => by cases h⟩
  · rw [hs, hf]
    exact trodAll_mk1 (shut_bool ht _)
  · rw [hs]
    exact below_trodAll hl hb _ hr hW.lt hA
  · rw [hs, hv]
    rfl

end Go.Proofs.YtimmadkbkimonaaGreatDoor
namespace Go.Proofs.YtimmadkbkimonaaGreatDoor
open Go.ChangeShapes Go.WideShapes Go.ChangeAt Go.RowKit

theorem i64_of_wf {x : Int} (h : (Lit.int .i64 x).wf = true) : I64 x := by
  simp [Lit.wf, IntKind.min, IntKind.max, IntKind.signed, IntKind.bits] at h
  unfold I64
  omega
theorem Tryz.cells3 : Tryz.prog.cellsOf 3 = 1 := by kernel_rfl
theorem Tryz.cells26 : Tryz.prog.cellsOf 26 = 1 := by kernel_rfl
section
variable {H : Type} {enc : TypeId × Value → H} {W : World} {fuel : Nat}

theorem open_ri1 {cs : List Value} {y : DataW H × List MemPlace} (h : DataW.trod enc Tryz.prog W 0 (fun _ => true) true fuel 26 cs = some y) : ∃ a c l, cs = [.slice a l.length c] ∧ RdI W a l.length c l ∧ ∀ z ∈ l, I64 z := by
  rcases open_ints Tryz.underlying26 Tryz.underlying3 Tryz.cells3 h with ⟨hcs, hx⟩ | ⟨a, n, c, zs, hcs, _, hl, hm, hz, hx, hcell, hwz⟩
  · exact ⟨none, 0, [], hcs, RdA.nil _ _, fun z hz => by cases hz⟩
  · simp only [if_true] at hz
    have hlen : (zs.take n).length = n := by rw [List.length_take]; omega
    refine ⟨some a, c, zs.take n, by rw [hlen]; exact hcs, ⟨by simp, by omega, hm, ?_⟩, fun z hz => i64_of_wf (hwz z (List.mem_of_mem_take hz))⟩
    by_cases hc0 : c = 0
    · exact .inl hc0
    · obtain ⟨ab, ao, spot⟩ := a
      have hspot : spot = none := by simpa [Addr.add] using World.cell?_spot (hcell 0 (by omega))
      subst hspot
      refine .inr ⟨ab, ao, rfl, fun i x hx => ?_⟩
      rw [List.getElem?_map, List.getElem?_take] at hx
      split at hx
      · rename_i hi
        have hiz : i < zs.length := by omega
        rw [List.getElem?_eq_getElem hiz, Option.map_some] at hx
        simp only [Option.some.injEq] at hx
        subst hx
        have hc := hcell i hiz
        rw [Addr.add_lit] at hc
        rw [hc, List.getD_eq_getElem?_getD, List.getElem?_eq_getElem hiz]
        rfl
      · cases hx
end
end Go.Proofs.YtimmadkbkimonaaGreatDoor
namespace Go.Proofs.YtimmadkbkimonaaGreatDoor
set_option linter.constructorNameAsVariable false
open Go.ChangeShapes Go.WideShapes Go.ChangeAt Go.RowKit

theorem Tryz.cells28 : Tryz.prog.cellsOf 28 = 4 := by kernel_rfl
section
variable {H : Type} {enc : TypeId × Value → H} {W : World}
set_option maxRecDepth 100000 in
theorem open_face {base : Nat} {v : Value} {d : DataW H} {p : List MemPlace} (hval : Value.okWide Tryz.prog W .any base 28 v)
    (h : DataW.Trod enc Tryz.prog W 0 (fun _ => true) true 28 v d p) : ∃ (f : FaceV) (a : Option Addr) (n : Nat), v = .agg (f.cells a n) ∧ RdI W a f.kinds.length n f.kinds := by
  obtain ⟨cs, rfl, hsz⟩ := okWide_struct Tryz.underlying28 hval
  obtain ⟨fuel, hf⟩ := h
  obtain ⟨y0, y1, y2, y3, n, _, hl, g0, g1, g2, g3⟩ := Go.Joins.trod_struct4 Tryz.underlying28 hf
  rw [Tryz.cells28] at hsz
  obtain ⟨l⟩ := cs
  match l, hsz with
  | [c0, c1, c2, c3], _ =>
    have g0' : DataW.trod enc Tryz.prog W 0 (fun _ => true) true n 3 (([c0, c1, c2, c3].drop 0).take (Tryz.prog.cellsOf 3)) = some y0 := g0
    have g1' : DataW.trod enc Tryz.prog W 0 (fun _ => true) true n 3 (([c0, c1, c2, c3].drop 1).take (Tryz.prog.cellsOf 3)) = some y1 := g1
    have g2' : DataW.trod enc Tryz.prog W 0 (fun _ => true) true n 3 (([c0, c1, c2, c3].drop 2).take (Tryz.prog.cellsOf 3)) = some y2 := g2
    have g3' : DataW.trod enc Tryz.prog W 0 (fun _ => true) true n 26 (([c0, c1, c2, c3].drop 3).take (Tryz.prog.cellsOf 26)) = some y3 := g3
    rw [Tryz.cells3] at g0' g1' g2'
    rw [Tryz.cells26] at g3'
    obtain ⟨x0, a0, _, _⟩ := DataW.trod_int Tryz.underlying3 g0'
    obtain ⟨x1, a1, _, _⟩ := DataW.trod_int Tryz.underlying3 g1'
    obtain ⟨x2, a2, _, _⟩ := DataW.trod_int Tryz.underlying3 g2'
    obtain ⟨a, c, l, a3, hr, _⟩ := open_ri1 g3'
    simp at a0 a1 a2 a3
    exact ⟨⟨x0, x1, x2, l⟩, a, c, by rw [a0, a1, a2, a3]; rfl, hr⟩
end
theorem gE3 : Tryz.prog.globalNamed "strconv.ErrSyntax" = some 3 := by kernel_rfl
theorem gE4 : Tryz.prog.globalNamed "strconv.ErrRange" = some 4 := by kernel_rfl
theorem gE3t : (Tryz.prog.globals[3]?).map (·.type) = some 89 := by kernel_rfl
theorem gE4t : (Tryz.prog.globals[4]?).map (·.type) = some 89 := by kernel_rfl
theorem gstar : "*" ++ "errors.errorString" = "*errors.errorString" := by decide
theorem rowE (u : TypeId) (h : Tryz.prog.typeName? 3 u = some "*errors.errorString") : u = 212 :=
  typeName_ptr_named (nm := "errors.errorString") (by rw [gstar]; kernel_rfl) (by kernel_rfl) (by decide) u (by rw [gstar]; exact h)
theorem Tryz.cells214 : Tryz.prog.cellsOf 214 = 1 := by kernel_rfl
theorem Tryz.cells9 : Tryz.prog.cellsOf 9 = 1 := by kernel_rfl
theorem env_of {W : World} (hL : laidMetH Tryz.prog Rows.stonesCellsRow.laid W) (hs : W.ShapedOpen Tryz.prog) : EnvW W := by
  rw [MakeChecks.laidMetH_plain _ _ _ (by kernel_rfl)] at hL
  obtain ⟨a0, s0, hv0, _⟩ := laid_sentinel hL.tail.tail.tail.tail gE4 gE4t Tryz.underlying89 rowE Tryz.underlying212 Tryz.underlying214 rfl rfl Tryz.underlying9 Tryz.cells214 Tryz.cells9
  obtain ⟨a1, s1, hv1, _⟩ := laid_sentinel hL.tail.tail.tail.tail.tail gE3 gE3t Tryz.underlying89 rowE Tryz.underlying212 Tryz.underlying214 rfl rfl Tryz.underlying9 Tryz.cells214 Tryz.cells9
  refine ⟨Go.Proofs.cell_of_shapedOpen_int (zero := #[.int .i64 0]) (t := 3) hs (of_decide_eq_true (by kernel_rfl)) (by kernel_rfl) rfl (by kernel_rfl) (by kernel_rfl) Tryz.underlying3, ⟨.iface 212 (.pointer (some a1)), ?_, .inr ⟨_, _, rfl⟩⟩, ⟨.iface 212 (.pointer (some a0)), ?_, .inr ⟨_, _, rfl⟩⟩⟩
  · have h0 := World.var?_cell gE3 hv1 0
    simpa using h0
  · have h0 := World.var?_cell gE4 hv0 0
    simpa using h0
end Go.Proofs.YtimmadkbkimonaaGreatDoor
namespace Go.Proofs.YtimmadkbkimonaaGreatDoor
set_option linter.constructorNameAsVariable false
open Go.ChangeShapes Go.WideShapes Go.ChangeAt Go.RowKit

theorem Tryz.cells41 : Tryz.prog.cellsOf 41 = 2 := by kernel_rfl
section
variable {H : Type} {enc : TypeId × Value → H} {W : World}
set_option maxRecDepth 100000 in
theorem open_cell1 {fuel : Nat} {cs : List Value} {y : DataW H × List MemPlace} (h : DataW.trod enc Tryz.prog W 0 (fun _ => true) true fuel 41 cs = some y) (hl : cs.length = 2) : ∃ c : CellV, cs = [.int .i64 c.1, .int .i64 c.2] := by
  obtain ⟨y0, y1, n, _, _, g0, g1⟩ := trod_struct2 Tryz.underlying41 h
  match cs, hl with
  | [c0, c1], _ =>
    have g0' : DataW.trod enc Tryz.prog W 0 (fun _ => true) true n 3 (([c0, c1].drop 0).take (Tryz.prog.cellsOf 3)) = some y0 := g0
    have g1' : DataW.trod enc Tryz.prog W 0 (fun _ => true) true n 3 (([c0, c1].drop 1).take (Tryz.prog.cellsOf 3)) = some y1 := g1
    rw [Tryz.cells3] at g0' g1'
    obtain ⟨x0, a0, _, _⟩ := DataW.trod_int Tryz.underlying3 g0'
    obtain ⟨x1, a1, _, _⟩ := DataW.trod_int Tryz.underlying3 g1'
    simp at a0 a1
    exact ⟨(x0, x1), by rw [a0, a1]⟩
end
end Go.Proofs.YtimmadkbkimonaaGreatDoor
namespace Go.Proofs.YtimmadkbkimonaaGreatDoor
set_option linter.constructorNameAsVariable false
open Go.ChangeShapes Go.WideShapes Go.ChangeAt Go.RowKit

theorem Tryz.cells43 : Tryz.prog.cellsOf 43 = 5 := by kernel_rfl
section
variable {H : Type} {enc : TypeId × Value → H} {W : World}
set_option maxRecDepth 100000 in
theorem open_look {base : Nat} {v : Value} {d : DataW H} {p : List MemPlace} (hval : Value.okWide Tryz.prog W .any base 43 v)
    (h : DataW.Trod enc Tryz.prog W 0 (fun _ => true) true 43 v d p) : ∃ x : LookV, v = .agg (lookA x) ∧ True := by
  obtain ⟨cs, rfl, hsz⟩ := okWide_struct Tryz.underlying43 hval
  obtain ⟨fuel, hf⟩ := h
  rw [Tryz.cells43] at hsz
  obtain ⟨l⟩ := cs
  obtain ⟨y0, y1, y2, y3, n, _, hl, g0, g1, g2, g3⟩ := Go.Joins.trod_struct4 Tryz.underlying43 hf
  match l, hsz with
  | [c0, c1, c2, c3, c4], _ =>
    have g0' : DataW.trod enc Tryz.prog W 0 (fun _ => true) true n 41 (([c0, c1, c2, c3, c4].drop 0).take (Tryz.prog.cellsOf 41)) = some y0 := g0
    have g1' : DataW.trod enc Tryz.prog W 0 (fun _ => true) true n 3 (([c0, c1, c2, c3, c4].drop 2).take (Tryz.prog.cellsOf 3)) = some y1 := g1
    have g2' : DataW.trod enc Tryz.prog W 0 (fun _ => true) true n 3 (([c0, c1, c2, c3, c4].drop 3).take (Tryz.prog.cellsOf 3)) = some y2 := g2
    have g3' : DataW.trod enc Tryz.prog W 0 (fun _ => true) true n 3 (([c0, c1, c2, c3, c4].drop 4).take (Tryz.prog.cellsOf 3)) = some y3 := g3
    rw [Tryz.cells41] at g0'
    rw [Tryz.cells3] at g1' g2' g3'
    obtain ⟨c, a0⟩ := open_cell1 g0' rfl
    obtain ⟨x1, a1, _, _⟩ := DataW.trod_int Tryz.underlying3 g1'
    obtain ⟨x2, a2, _, _⟩ := DataW.trod_int Tryz.underlying3 g2'
    obtain ⟨x3, a3, _, _⟩ := DataW.trod_int Tryz.underlying3 g3'
    simp at a0 a1 a2 a3
    obtain ⟨a0, a4⟩ := a0
    exact ⟨⟨c, x1, x2, x3⟩, by rw [a0, a1, a2, a3, a4]; rfl, trivial⟩
end
end Go.Proofs.YtimmadkbkimonaaGreatDoor
