/- Parts of the proof, in this order: Harp of the reference; StonesTurns is true; What every row of this work shares: a law of the template 'true whatever the input' holds where its call gives true and leaves all old memory; []byte arguments opened; A note, a list of ints, out of a reading; A face out of a reading; what the library's variables hold. -/
import Derived.Test.YtimmadkbkimonaaGreatDoorRows
import Derived.ProofKit
import Derived.OpenShut
import Derived.Lib.SmallJoins
import Derived.Stop.LaidErr
import Derived.MakeChecks
import Derived.Shelf.Vars
import Derived.Test.YtimmadkbkimonaaGreatDoorKPso6
set_option linter.unusedSimpArgs false
set_option linter.unusedVariables false
open List renaming getElem_toArray → lq0, getElem_cons_succ → lq1, getElem_cons_zero → lq2, setIfInBounds_toArray → lq3, set_cons_zero → lq4, set_cons_succ → lq5
namespace Go.Proofs.YtimmadkbkimonaaGreatDoor
set_option linter.unusedSimpArgs false
set_option linter.unusedVariables false
open Go.RowKit

set_option maxHeartbeats 4000000 in
set_option maxRecDepth 100000 in
theorem rharpP_any (f : FaceV) (a : Option Addr) (n : Nat) (w : World) (hr : RdI w a f.kinds.length n f.kinds) :
    Calls Tryz.prog 51 #[.agg (f.cells a n)] w fun e w' => (∃ a' n', e = .returned (.tuple #[.agg ((harpP f).1.cells a' n'), .int .i64 (harpP f).2]) ∧ FOwn w w' (harpP f).1 a' n') ∧ Below w.heap.size w w' := by
  have AV := Lib.hid (fun W (hb : Below w.heap.size w W) => rperiodP_any f a n W (hr.below hb))
  have HR := Lib.hid (fun W (hb : Below w.heap.size w W) => hr.below hb)
  clear hr
  have AL := Lib.hid (al2 w (.cells (f.cells a n) 28) (.cells #[.int .i64 0, .int .i64 0, .int .i64 0, .slice none 0 0] 28))
  go_enter Tryz.func51, Tryz.ntmps51
  go_upto_region 1 with fail
  obtain ⟨p, hp⟩ : ∃ p, Hid (w.heap.size = p) := ⟨_, Lib.hid rfl⟩
  obtain ⟨z, hz⟩ : ∃ z, Hid (w.heap.size + 1 = z) := ⟨_, Lib.hid rfl⟩
  rw [hz.out] at AL ⊢
  rw [hp.out] at AL ⊢
  generalize ((w.alloc (.cells (f.cells a n) 28)).alloc (.cells #[.int .i64 0, .int .i64 0, .int .i64 0, .slice none 0 0] 28)) = W0 at *
  have BF : Hid (Below w.heap.size w W0) := Lib.hid (by rw [hp.out]; exact AL.out.1)
  have XF : Hid (W0.heap[p]? = some (.cells (f.cells a n) 28 (0, 0))) := Lib.hid AL.out.2.1
  have XZ : Hid (W0.heap[z]? = some (.cells (zeroF.cells none 0) 28 (0, 0))) := Lib.hid AL.out.2.2
  clear AL
  have c0 := qcell XF.out 0 (.int .i64 f.eye) rfl
  have c1 := qcell XF.out 1 (.int .i64 f.rings) rfl
  have c2 := qcell XF.out 2 (.int .i64 f.sectors) rfl
  have c3 := qcell XF.out 3 (.slice a f.kinds.length n) rfl
  clear c0 c1 c2 c3
  have LZ : Hid (p < W0.heap.size ∧ z < W0.heap.size) := Lib.hid ⟨qlt XF.out, qlt XZ.out⟩
  refine yB ?_
  refine yW (.agg (f.cells a n)) ?_ (qyrow (by kernel_rfl) 28 _ rfl p rfl _ 28 (0, 0) _ (fun W hW => by rw [hW]; exact XF.out) Tryz.underlying28 rfl (by exact (qJF f a n)))
  refine yR (fun K hK => ?_)
  go_simp
  refine (AV.out _ BF.out).mono ?_
  rintro e U1 ⟨rfl, b⟩
  replace LZ : Hid (p < U1.heap.size ∧ z < U1.heap.size) := Lib.hid ⟨Nat.lt_of_lt_of_le LZ.out.1 b.size, Nat.lt_of_lt_of_le LZ.out.2 b.size⟩
  have BZ : Hid (w.heap.size ≤ U1.heap.size) := Lib.hid (Nat.le_trans BF.out.size b.size)
  replace BF := Lib.hid (BF.out.trans (b.mono BF.out.size))
  replace XF := Lib.hid (qblk b XF.out)
  replace XZ := Lib.hid (qblk b XZ.out)
  clear b
  try dsimp only
  refine yK hK ?_
  clear hK K
  refine yM (.tuple #[.int .i64 (periodP f).1, .int .i64 (periodP f).2]) ?_
  refine yM (.int .i64 (periodP f).1) ?_
  refine yM (.int .i64 (periodP f).2) ?_
  refine yM (.int .i64 (periodP f).1) ?_
  refine yM (.int .i64 (periodP f).2) ?_
  refine yE ?_
  by_cases hv : f.valid = true
  · have HV := Lib.hid hv
    have IV := Lib.hid (FaceV.int hv)
    have NV := Lib.hid (FaceV.nat hv)
    have LL := Lib.hid (FaceV.len_le hv)
    have PS := Lib.hid (period_spec hv)
    have PE : Hid (periodP f = ((periodF f : Int), 0)) := Lib.hid (by unfold periodP; rw [if_pos hv])
    rw [PE.out]
    clear hv
    obtain ⟨s, hs⟩ : ∃ s, Hid (max 2 (periodF f) = s) := ⟨_, Lib.hid rfl⟩
    have HS : Hid (1 ≤ s ∧ s ≤ 96 ∧ s ≤ f.S) := Lib.hid (by have h1 := hs.out; have h2 := PS.out; have h3 := NV.out; omega)
    have EM : Hid (max ((periodF f : Nat) : Int) 2 = (s : Int)) := Lib.hid (by have h1 := hs.out; omega)
    go_upto_region 4 with fail
    refine yB ?_
    refine yW (.pointer (some ⟨p, 0, none⟩)) ?_
    refine yW (.int .i64 f.eye) ?_ (.inl ⟨by kernel_rfl, by intro W hW; rw [hW]; have c := qcell XF.out 0 (.int .i64 f.eye) rfl; go_simp⟩)
    refine yW (.pointer (some ⟨p, 1, none⟩)) ?_
    refine yW (.int .i64 f.rings) ?_ (.inl ⟨by kernel_rfl, by intro W hW; rw [hW]; have c := qcell XF.out 1 (.int .i64 f.rings) rfl; go_simp⟩)
    refine yM (.int .i64 (periodF f : Int)) ?_
    refine yW (.int .i64 (s : Int)) ?_ (.inl ⟨by kernel_rfl, by intro W hW; have em := EM.out; first | (go_simp; done) | (go_simp; omega) | (go_simp; rw [em]) | (simp [go_sem]; omega) | (unfold execOp; simp [go_sem]; omega)⟩)
    refine yW (.agg ((outF f s []).cells none 0)) ?_ (.inl ⟨by kernel_rfl, by intro W hW; go_simp; rfl⟩)
    refine yR (fun K hK => ?_)
    refine qbuild (w' := U1.alloc (.cells #[.int .i64 0, .int .i64 0, .int .i64 0, .slice none 0 0] 28)) (.pointer (some ⟨U1.heap.size, 0, none⟩)) (by kernel_rfl) ?_
    obtain ⟨x6, hx6⟩ : ∃ x, Hid (U1.heap.size = x) := ⟨_, Lib.hid rfl⟩
    have AL := Lib.hid (al1 U1 (.cells #[.int .i64 0, .int .i64 0, .int .i64 0, .slice none 0 0] 28))
    rw [hx6.out] at AL ⊢
    refine yK hK ?_
    clear hK K
    refine yR (fun K hK => ?_)
    refine qstore 28 _ _ rfl x6 #[.int .i64 0, .int .i64 0, .int .i64 0, .slice none 0 0] ((outF f s []).cells none 0) 28 rfl rfl AL.out.2 (by exact qJF (outF f s []) none 0) rfl (qone (outF f s []) none 0) ?_
    intro U2 h8 hg8 hs8
    have b : Below U1.heap.size U1 U2 := qstep (by have h1 := AL.out.1; rw [← hx6.out] at h1; exact h1) hg8 (Nat.le_of_eq hx6.out)
    replace BF := Lib.hid (BF.out.trans (b.mono BF.out.size))
    replace XF := Lib.hid (qblk b XF.out)
    replace XZ := Lib.hid (qblk b XZ.out)
    clear b
    have Xx6 := Lib.hid h8
    clear h8 hg8 hs8 AL
    refine yK hK ?_
    clear hK K
    refine yE ?_
    have OGE : Hid (w.heap.size ≤ x6 ∧ x6 ≠ p ∧ x6 ≠ z ∧ w.heap.size = p ∧ w.heap.size + 1 = z) := Lib.hid (by have h1 := LZ.out; have h2 := BZ.out; have := hx6.out; have := hp.out; have := hz.out; omega)
    have M0 : Hid (MapAt w p z x6 f a n s (mapR f s (fun s => s) 0 0) none 0 U2) := Lib.hid ⟨BF.out, XF.out, XZ.out, Xx6.out, World.ownsRow_nil _ _ _ _⟩
    clear BF XF XZ Xx6 LZ BZ
    generalize x6 = o at *
    go_wp2_with fail
    generalize U2 = W1 at *
    go_loopw [7] (fun i wr => ∃ (k : Nat) (oa : Option Addr) (oc : Nat), i = .int .i64 k ∧ k ≤ f.R ∧ Hid (MapAt w p z o f a n s (mapR f s (fun s => s) k 0) oa oc wr)) (fun i _ => f.R - (intOf i).toNat)
    case atStart => exact ⟨0, none, 0, rfl, Nat.zero_le _, M0⟩
    case round =>
      clear M0
      obtain ⟨i, oa, oc, rfl, hi, M1⟩ := hrel
      have c1 := qcell M1.out.p 1 (.int .i64 f.rings) rfl
      rw [NV.out.1] at c1
      have HI64 : Hid ((i : Int) + 1 ≤ 9223372036854775807) := Lib.hid (by have := NV.out; omega)
      by_cases hiR : i < f.R
      · have t0 : decide ((i : Int) < (f.R : Int)) = true := by simp; omega
        go_wp2_with fail
        clear t0 c1
        generalize wr = X1 at *
        go_loopw [8] (fun v wr => ∃ (j : Nat) (oa : Option Addr) (oc : Nat), v = .int .i64 j ∧ j ≤ s ∧ Hid (MapAt w p z o f a n s (mapR f s (fun s => s) i j) oa oc wr)) (fun v _ => s - (intOf v).toNat)
        case atStart => exact ⟨0, oa, oc, rfl, Nat.zero_le _, M1⟩
        case round =>
          clear M1
          obtain ⟨j, oa, oc, rfl, hj, M1⟩ := hrel
          have c2 := qcell M1.out.o 2 (.int .i64 (s : Int)) rfl
          have HJ64 : Hid ((j : Int) + 1 ≤ 9223372036854775807) := Lib.hid (by have := HS.out; omega)
          by_cases hjs : j < s
          · have t0 : decide ((j : Int) < (s : Int)) = true := by simp; omega
            go_upto_region 11 with fail
            clear t0 c2
            have hd : Below wr.heap.size wr wr.drew := (Below.refl _ _).drew
            replace M1 := Lib.hid (M1.out.below hd)
            clear hd
            obtain ⟨V0, hV0⟩ : ∃ V0, wr.drew = V0 := ⟨_, rfl⟩
            rw [hV0] at M1
            have HIR : Hid (0 ≤ (i : Int) ∧ (i : Int) ≤ f.rings - 1) := Lib.hid (by have := NV.out.1; omega)
            have IL := Lib.hid (index_lt HV.out HIR.out (j : Int))
            have IX := Lib.hid (indexF_of HV.out (i : Int) (s := (j : Int)) ⟨by omega, by have := HS.out; have := NV.out.2.1; omega⟩)
            obtain ⟨q, hq⟩ : ∃ q, Hid ((indexF f i (j : Int)).toNat = q) := ⟨_, Lib.hid rfl⟩
            have HQ : Hid ((i : Int) * f.sectors + (j : Int) = (q : Int)) := Lib.hid (by have h1 := IL.out; have h2 := hq.out; rw [← IX.out]; omega)
            have HQL : Hid (q < f.kinds.length) := Lib.hid (by have := IL.out; have := hq.out; omega)
            have WM := Lib.hid (show wrap64 ((i : Int) * f.sectors) = (i : Int) * f.sectors by have h1 := HQ.out; have h2 := HQL.out; have h3 := LL.out; have h4 := HS.out; have h5 := Int.mul_nonneg (show (0 : Int) ≤ (i : Int) by omega) (show 0 ≤ f.sectors by have := IV.out; omega); unfold wrap64; omega)
            have WA := Lib.hid (show wrap64 ((i : Int) * f.sectors + (j : Int)) = (q : Int) by rw [HQ.out]; have := HQL.out; have := LL.out; unfold wrap64; omega)
            obtain ⟨b0, off, ha, _⟩ := (HR.out V0 M1.out.bel).get (FaceV.kat_at HQL.out)
            subst ha
            have RC : Hid (∀ W, Below w.heap.size w W → W.cell? ⟨b0, off + q, none⟩ = some (.int .i64 (f.kat q))) := Lib.hid (fun W hb => by
              obtain ⟨b1, o1, e1, h1⟩ := (HR.out W hb).get (FaceV.kat_at HQL.out)
              cases e1
              exact h1)
            have ML := Lib.hid (mapR_len f s (fun s => s) i j)
            have MLB : Hid ((mapR f s (fun s => s) i j).length ≤ 10000) := Lib.hid (by
              rw [ML.out]
              have h1 := NV.out
              have h2 : i * s ≤ 24 * 96 := Nat.mul_le_mul (by omega) (by have := HS.out; omega)
              have := HS.out
              omega)
            refine bDq 15 (fun W => Below w.heap.size w W ∧ W.heap[p]? = some (.cells (f.cells (some ⟨b0, off, none⟩) n) 28 (0, 0)) ∧ W.heap[o]? = some (.cells ((outF f s (mapR f s (fun s => s) i j)).cells oa oc) 28 (0, 0))) ⟨by exact M1.out.bel, M1.out.p, M1.out.o⟩ (fun hHeld => ?_)
            clear hV0
            refine bW 0 rfl (.pointer (some ⟨o, 3, none⟩)) ?_
            refine bS 1 rfl (.slice oa (mapR f s (fun s => s) i j).length oc) (fun W hW => by have c := qcell hW.2.2 3 (.slice oa (mapR f s (fun s => s) i j).length oc) rfl; go_simp) ?_
            refine bW 2 rfl (.pointer (some ⟨p, 3, none⟩)) ?_
            refine bS 3 rfl (.slice (some ⟨b0, off, none⟩) f.kinds.length n) (fun W hW => by have c := qcell hW.2.1 3 (.slice (some ⟨b0, off, none⟩) f.kinds.length n) rfl; go_simp) ?_
            refine bW 4 rfl (.int .i64 i) ?_
            refine bW 5 rfl (.pointer (some ⟨p, 2, none⟩)) ?_
            refine bS 6 rfl (.int .i64 f.sectors) (fun W hW => by have c := qcell hW.2.1 2 (.int .i64 f.sectors) rfl; go_simp) ?_
            refine bW 7 rfl (.int .i64 ((i : Int) * f.sectors)) (hy := .inl ⟨by kernel_rfl, by intro W _; go_simp; exact (IntWalk.i64_left _).trans WM.out⟩) ?_
            refine bW 8 rfl (.int .i64 j) ?_
            refine bW 9 rfl (.int .i64 (q : Int)) (hy := .inl ⟨by kernel_rfl, by intro W _; go_simp; exact (IntWalk.i64_left _).trans WA.out⟩) ?_
            have hql : q < f.kinds.length := HQL.out
            refine bW 10 rfl (.pointer (some ⟨b0, off + q, none⟩)) ?_
            clear hql
            refine bS 11 rfl (.int .i64 (f.kat q)) (fun W hW => by have c := RC.out W hW.1; go_simp) ?_
            refine bR 12 rfl (fun K hK => ?_)
            rw [if_pos (by kernel_rfl)]
            refine qbuild (w' := V0.alloc (.cells #[.int .i64 (f.kat q)] 3)) (.slice (some ⟨V0.heap.size, 0, none⟩) 1 1) (by kernel_rfl) ?_
            have L5 := Lib.hid (lit_int V0 (f.kat q))
            replace M1 := Lib.hid (M1.out.below (zB V0 (.cells #[.int .i64 (f.kat q)] 3)))
            obtain ⟨p5, hp5⟩ : ∃ z, Hid (V0.heap.size = z) := ⟨_, Lib.hid rfl⟩
            rw [hp5.out] at L5 ⊢
            generalize V0.alloc (.cells #[.int .i64 (f.kat q)] 3) = V3 at *
            refine bK hK ⟨M1.out.bel, M1.out.p, M1.out.o⟩ (fun hHeld => ?_)
            clear hK K
            refine bR 13 rfl (fun K hK => ?_)
            rw [if_pos (by kernel_rfl)]
            obtain ⟨a7, c7, V7, hrun, ho7, hk7, hb7⟩ := run_app_q V3 w.heap.size oa _ oc _ M1.out.own (some ⟨p5, 0, none⟩) 1 1 [f.kat q] L5.out (by have := MLB.out; omega) M1.out.bel.size
            refine qappend _ _ _ rfl _ _ _ rfl rfl hrun ?_
            clear hrun
            have F7 := Lib.hid (show Below w.heap.size w V7 ∧ V7.heap[p]? = some (.cells (f.cells (some ⟨b0, off, none⟩) n) 28 (0, 0)) ∧ V7.heap[o]? = some (.cells ((outF f s (mapR f s (fun s => s) i j)).cells oa oc) 28 (0, 0)) ∧ V7.heap[z]? = some (.cells (zeroF.cells none 0) 28 (0, 0)) from ⟨hb7 _ M1.out.bel, hk7 _ _ M1.out.p (by simp), hk7 _ _ M1.out.o (by simp), hk7 _ _ M1.out.z (by simp)⟩)
            have O7 := Lib.hid ho7
            clear hk7 hb7 ho7 M1 L5
            refine bK hK ⟨F7.out.1, F7.out.2.1, F7.out.2.2.1⟩ (fun hHeld => ?_)
            clear hK K
            refine bW 14 rfl (.pointer (some ⟨o, 3, none⟩)) ?_
            refine bL rfl (fun K hK => ?_)
            have hce := qcell F7.out.2.2.1 3 (.slice oa (mapR f s (fun s => s) i j).length oc) rfl
            have hfz := qfroz F7.out.2.2.1 3
            go_simp
            refine hK.out _ _ ?_
            clear hK K hce hfz hHeld
            refine bE ?_
            have HG := qput_grown V7 o 3 (.slice a7 ((mapR f s (fun s => s) i j).length + 1) c7)
            have M2 : Hid (MapAt w p z o f (some ⟨b0, off, none⟩) n s (mapR f s (fun s => s) i (j + 1)) a7 c7 (V7.setCell ⟨o, 3, none⟩ (.slice a7 ((mapR f s (fun s => s) i j).length + 1) c7))) := Lib.hid ⟨qstep F7.out.1 HG OGE.out.1, qgrown HG F7.out.2.1 (fun e => OGE.out.2.1 (Option.some.inj e).symm), qgrown HG F7.out.2.2.2 (fun e => OGE.out.2.2.1 (Option.some.inj e).symm), by
              rw [qput_at F7.out.2.2.1 3 _, mapR_next, hq.out]
              unfold outF FaceV.cells
              dsimp only
              rw [List.length_append]
              rfl, by
              rw [mapR_next, hq.out, List.length_append]
              exact O7.out.kept HG (.inr (qown_no O7.out F7.out.2.2.1 (by simp)).symm)⟩
            clear HG F7 O7
            generalize V7.setCell ⟨o, 3, none⟩ (.slice a7 ((mapR f s (fun s => s) i j).length + 1) c7) = V8 at *
            go_upto_region 10 with fail
            have hj64 := HJ64.out
            go_wp2_with fail
            go_roundw
            case rel => exact ⟨j + 1, a7, c7, by simp, by omega, M2⟩
            case measure => simp [intOf]; omega
          · have t0 : decide ((j : Int) < (s : Int)) = false := by simp; omega
            have e : j = s := by omega
            subst e
            go_upto_region 7 with fail
            clear t0 c2
            have hi64 := HI64.out
            go_wp2_with fail
            go_roundw
            case rel =>
              refine ⟨i + 1, oa, oc, by simp, by omega, ?_⟩
              rw [mapR_zero, ← mapR_row]
              exact M1
            case measure => simp [intOf]; omega
      · have t0 : decide ((i : Int) < (f.R : Int)) = false := by simp; omega
        have e : i = f.R := by omega
        subst e
        go_upto_region 12 with fail
        clear t0 c1
        have e9 : outF f s (mapR f s (fun s => s) f.R 0) = harpF f := by rw [mapR_zero, ← hs.out]; rfl
        have e8 : mapK f s (fun s => s) f.R = (harpF f).kinds := by rw [← hs.out]; rfl
        have XO := Lib.hid M1.out.o
        have XZ := Lib.hid M1.out.z
        have OW := Lib.hid M1.out.own
        have BF := Lib.hid M1.out.bel
        rw [e9] at XO
        rw [mapR_zero, e8] at OW
        clear M1 e9 e8
        go_wp2_with (first
          | (refine wpList_load_row rfl 28 _ rfl o rfl 28 ((harpF f).cells oa oc) (0, 0) _ XO.out Tryz.underlying28 rfl (by exact (qJF (harpF f) oa oc)) ?_)
          | (refine wpList_qstore rfl 28 _ _ rfl z (zeroF.cells none 0) ((harpF f).cells oa oc) 28 rfl rfl XZ.out (by exact (qJF (harpF f) oa oc)) rfl (qone (harpF f) oa oc) ?_; intro VZ hzz hgz; replace BF := Lib.hid (qstep BF.out hgz (by have h1 := OGE.out; omega)); replace OW := Lib.hid (OW.out.kept hgz (.inr (qown_no OW.out XZ.out (by simp)).symm)); replace XZ := Lib.hid hzz; clear hzz hgz)
          | fail)
        (try simp only [Exit.inBlock, Exit.then])
        refine bodyPost_ret (results_ct rfl _ VZ z 28 ((harpF f).cells oa oc) (0, 0) _ rfl XZ.out Tryz.underlying28 rfl (by exact (qJF (harpF f) oa oc))) rfl ?_
        unfold harpP
        rw [HV.out]
        exact ⟨⟨oa, oc, rfl, OW.out⟩, BF.out⟩
  · have hn : f.valid = false := by simpa using hv
    have PE : Hid (periodP f = (0, 10)) := Lib.hid (by unfold periodP; rw [if_neg (by rw [hn]; decide)])
    rw [PE.out]
    go_upto_region 3 with fail
    go_wp2_with (first
      | (refine wpList_qstore rfl 28 _ _ rfl z (zeroF.cells none 0) (zeroF.cells none 0) 28 rfl rfl XZ.out (by exact (qJF zeroF none 0)) rfl (qone zeroF none 0) ?_; intro VZ hzz hgz; replace BF := Lib.hid (qstep BF.out hgz (by have h1 := hz.out; omega)); replace XZ := Lib.hid hzz; clear hzz hgz)
      | fail)
    (try simp only [Exit.inBlock, Exit.then])
    refine bodyPost_ret (results_ct rfl _ VZ z 28 (zeroF.cells none 0) (0, 0) _ rfl XZ.out Tryz.underlying28 rfl (by exact (qJF zeroF none 0))) rfl ?_
    unfold harpP
    rw [if_neg (by rw [hn]; decide)]
    exact ⟨⟨none, 0, rfl, FOwn.nil _ _⟩, BF.out⟩
end Go.Proofs.YtimmadkbkimonaaGreatDoor
namespace Go.Proofs.YtimmadkbkimonaaGreatDoor
set_option linter.unusedSimpArgs false
set_option linter.unusedVariables false
open Go.RowKit

set_option maxHeartbeats 4000000 in
set_option maxRecDepth 100000 in
theorem turns_any (f g : FaceV) (a b : Option Addr) (n m : Nat) (by_ : Int) (w : World) (he : EnvW w) (hr : RdI w a f.kinds.length n f.kinds) (hg : RdI w b g.kinds.length m g.kinds) :
    Calls Tryz.prog 8 #[.agg (f.cells a n), .agg (g.cells b m), .int .i64 by_] w fun e w' => e = .returned (.bool true) ∧ Below w.heap.size w w' := by
  have EV := Lib.hid (fun W (hb : Below w.heap.size w W) => he.below hb)
  have HR := Lib.hid hr
  have HG := Lib.hid hg
  clear he hr hg
  have AL := Lib.hid (al2 w (.cells (f.cells a n) 28) (.cells (g.cells b m) 28))
  go_enter Tryz.func8, Tryz.ntmps8
  go_upto_region 1 with fail
  obtain ⟨p, hp⟩ : ∃ p, Hid (w.heap.size = p) := ⟨_, Lib.hid rfl⟩
  obtain ⟨q, hq⟩ : ∃ q, Hid (w.heap.size + 1 = q) := ⟨_, Lib.hid rfl⟩
  rw [hq.out] at AL ⊢
  rw [hp.out] at AL ⊢
  generalize ((w.alloc (.cells (f.cells a n) 28)).alloc (.cells (g.cells b m) 28)) = W0 at *
  have BF : Hid (Below w.heap.size w W0) := Lib.hid (by rw [hp.out]; exact AL.out.1)
  have XF : Hid (W0.heap[p]? = some (.cells (f.cells a n) 28 (0, 0))) := Lib.hid AL.out.2.1
  have XG : Hid (W0.heap[q]? = some (.cells (g.cells b m) 28 (0, 0))) := Lib.hid AL.out.2.2
  clear AL
  have c0 := qcell XF.out 0 (.int .i64 f.eye) rfl
  have c1 := qcell XF.out 1 (.int .i64 f.rings) rfl
  have c2 := qcell XF.out 2 (.int .i64 f.sectors) rfl
  have c3 := qcell XF.out 3 (.slice a f.kinds.length n) rfl
  have d0 := qcell XG.out 0 (.int .i64 g.eye) rfl
  have d1 := qcell XG.out 1 (.int .i64 g.rings) rfl
  have d2 := qcell XG.out 2 (.int .i64 g.sectors) rfl
  have d3 := qcell XG.out 3 (.slice b g.kinds.length m) rfl
  clear c0 c1 c2 c3 d0 d1 d2 d3
  replace HR := Lib.hid (HR.out.below BF.out)
  replace HG := Lib.hid (HG.out.below BF.out)
  go_upto_region 1 with fail
  refine yB ?_
  refine yR (fun K hK => ?_)
  go_simp
  refine (awake_any _ (EV.out _ BF.out)).mono ?_
  rintro e U1 ⟨rfl, b⟩
  replace BF := Lib.hid (BF.out.trans (b.mono BF.out.size))
  replace HR := Lib.hid (HR.out.below b)
  replace HG := Lib.hid (HG.out.below b)
  replace XF := Lib.hid (qblk b XF.out)
  replace XG := Lib.hid (qblk b XG.out)
  clear b
  try dsimp only
  refine yK hK ?_
  clear hK K
  refine yM (.bool true) ?_
  refine yE ?_
  go_upto_region 2 with fail
  refine yB ?_
  refine yW (.agg (f.cells a n)) ?_ (qyrow (by kernel_rfl) 28 _ rfl p rfl _ 28 (0, 0) _ (fun W hW => by rw [hW]; exact XF.out) Tryz.underlying28 rfl (by exact (qJF f a n)))
  refine yR (fun K hK => ?_)
  go_simp
  refine (short_any f a n _).mono ?_
  rintro e U2 ⟨rfl, b⟩
  replace BF := Lib.hid (BF.out.trans (b.mono BF.out.size))
  replace HR := Lib.hid (HR.out.below b)
  replace HG := Lib.hid (HG.out.below b)
  replace XF := Lib.hid (qblk b XF.out)
  replace XG := Lib.hid (qblk b XG.out)
  clear b
  cases hf : decide (f.kinds.length ≤ 3000)
  · try dsimp only
    refine yK hK ?_
    clear hK K
    refine yM (.bool true) ?_
    refine yM (.bool true) ?_
    go_skip
    refine yM (.bool true) ?_
    refine yE ?_
    go_wp2_with fail
    go_ret
    exact ⟨rfl, BF.out⟩
  · try dsimp only
    refine yK hK ?_
    clear hK K
    refine yM (.bool false) ?_
    refine yM (.bool false) ?_
    refine yW (.agg (g.cells b m)) ?_ (qyrow (by kernel_rfl) 28 _ rfl q rfl _ 28 (0, 0) _ (fun W hW => by rw [hW]; exact XG.out) Tryz.underlying28 rfl (by exact (qJF g b m)))
    refine yR (fun K hK => ?_)
    go_simp
    refine (short_any g b m _).mono ?_
    rintro e U3 ⟨rfl, b⟩
    replace BF := Lib.hid (BF.out.trans (b.mono BF.out.size))
    replace HR := Lib.hid (HR.out.below b)
    replace HG := Lib.hid (HG.out.below b)
    replace XF := Lib.hid (qblk b XF.out)
    replace XG := Lib.hid (qblk b XG.out)
    clear b
    cases hg : decide (g.kinds.length ≤ 3000)
    · try dsimp only
      refine yK hK ?_
      clear hK K
      refine yM (.bool true) ?_
      refine yM (.bool true) ?_
      refine yE ?_
      go_wp2_with fail
      go_ret
      exact ⟨rfl, BF.out⟩
    · try dsimp only
      refine yK hK ?_
      clear hK K
      refine yM (.bool false) ?_
      refine yM (.bool false) ?_
      refine yE ?_
      obtain ⟨T, hT⟩ : ∃ z, Hid ((turnP f by_).1 = z) := ⟨_, Lib.hid rfl⟩
      obtain ⟨ET, hET⟩ : ∃ z, Hid ((turnP f by_).2 = z) := ⟨_, Lib.hid rfl⟩
      obtain ⟨M, hM⟩ : ∃ z, Hid ((mirrorP f).1 = z) := ⟨_, Lib.hid rfl⟩
      obtain ⟨EM, hEM⟩ : ∃ z, Hid ((mirrorP f).2 = z) := ⟨_, Lib.hid rfl⟩
      obtain ⟨N, hN⟩ : ∃ z, Hid ((normalP f).1 = z) := ⟨_, Lib.hid rfl⟩
      obtain ⟨EN, hEN⟩ : ∃ z, Hid ((normalP f).2 = z) := ⟨_, Lib.hid rfl⟩
      obtain ⟨U, hU⟩ : ∃ z, Hid (((turnsP f g).1.map fun (b : Nat) => (b : Int)) = z) := ⟨_, Lib.hid rfl⟩
      obtain ⟨EU, hEU⟩ : ∃ z, Hid ((turnsP f g).2 = z) := ⟨_, Lib.hid rfl⟩
      obtain ⟨P, hP⟩ : ∃ z, Hid ((periodP f).1 = z) := ⟨_, Lib.hid rfl⟩
      obtain ⟨EP, hEP⟩ : ∃ z, Hid ((periodP f).2 = z) := ⟨_, Lib.hid rfl⟩
      obtain ⟨H, hH⟩ : ∃ z, Hid ((harpP f).1 = z) := ⟨_, Lib.hid rfl⟩
      obtain ⟨EH, hEH⟩ : ∃ z, Hid ((harpP f).2 = z) := ⟨_, Lib.hid rfl⟩
      obtain ⟨NU, hNU⟩ : ∃ z, Hid ((turnsP f g).1.length = z) := ⟨_, Lib.hid rfl⟩
      go_upto_region 4 with fail
      refine yB ?_
      refine yW (.agg (f.cells a n)) ?_ (qyrow (by kernel_rfl) 28 _ rfl p rfl _ 28 (0, 0) _ (fun W hW => by rw [hW]; exact XF.out) Tryz.underlying28 rfl (by exact (qJF f a n)))
      refine yM (.int .i64 by_) ?_
      refine yR (fun K hK => ?_)
      go_simp
      refine (turnP_any f a n by_ _ HR.out).mono ?_
      rintro e U4 ⟨⟨a1, n1, rfl, own⟩, b⟩
      rw [hT.out] at own ⊢
      rw [hET.out]
      have R1 := Lib.hid own.rd
      clear own
      replace BF := Lib.hid (BF.out.trans (b.mono BF.out.size))
      replace HR := Lib.hid (HR.out.below b)
      replace HG := Lib.hid (HG.out.below b)
      replace XF := Lib.hid (qblk b XF.out)
      replace XG := Lib.hid (qblk b XG.out)
      clear b
      try dsimp only
      refine yK hK ?_
      clear hK K
      refine yM (.tuple #[.agg (T.cells a1 n1), .int .i64 ET]) ?_
      refine yM (.agg (T.cells a1 n1)) ?_
      refine yM (.int .i64 ET) ?_
      refine yR (fun K hK => ?_)
      refine qbuild (w' := U4.alloc (.cells #[.int .i64 0, .int .i64 0, .int .i64 0, .slice none 0 0] 28)) (.pointer (some ⟨U4.heap.size, 0, none⟩)) (by kernel_rfl) ?_
      obtain ⟨x8, hx8⟩ : ∃ x, Hid (U4.heap.size = x) := ⟨_, Lib.hid rfl⟩
      have AL := Lib.hid (al1 U4 (.cells #[.int .i64 0, .int .i64 0, .int .i64 0, .slice none 0 0] 28))
      rw [hx8.out] at AL ⊢
      refine yK hK ?_
      clear hK K
      refine yR (fun K hK => ?_)
      refine qstore 28 _ _ rfl x8 #[.int .i64 0, .int .i64 0, .int .i64 0, .slice none 0 0] (T.cells a1 n1) 28 rfl rfl AL.out.2 (by exact qJF T a1 n1) rfl (qone T a1 n1) ?_
      intro U5 h8 hg8 hs8
      have b : Below U4.heap.size U4 U5 := qstep (by have h1 := AL.out.1; rw [← hx8.out] at h1; exact h1) hg8 (Nat.le_of_eq hx8.out)
      replace BF := Lib.hid (BF.out.trans (b.mono BF.out.size))
      replace HR := Lib.hid (HR.out.below b)
      replace HG := Lib.hid (HG.out.below b)
      replace R1 := Lib.hid (R1.out.below b)
      replace XF := Lib.hid (qblk b XF.out)
      replace XG := Lib.hid (qblk b XG.out)
      clear b
      have Xx8 := Lib.hid h8
      clear h8 hg8 hs8 AL
      refine yK hK ?_
      clear hK K
      refine yM (.int .i64 ET) ?_
      refine yE ?_
      go_upto_region 5 with fail
      refine yB ?_
      refine yW (.agg (f.cells a n)) ?_ (qyrow (by kernel_rfl) 28 _ rfl p rfl _ 28 (0, 0) _ (fun W hW => by rw [hW]; exact XF.out) Tryz.underlying28 rfl (by exact (qJF f a n)))
      refine yM (.int .i64 by_) ?_
      refine yR (fun K hK => ?_)
      go_simp
      refine (rturnP_any f a n by_ _ HR.out).mono ?_
      rintro e U6 ⟨⟨a2, n2, rfl, own⟩, b⟩
      rw [hT.out] at own ⊢
      rw [hET.out]
      have R2 := Lib.hid own.rd
      clear own
      replace BF := Lib.hid (BF.out.trans (b.mono BF.out.size))
      replace HR := Lib.hid (HR.out.below b)
      replace HG := Lib.hid (HG.out.below b)
      replace R1 := Lib.hid (R1.out.below b)
      replace XF := Lib.hid (qblk b XF.out)
      replace XG := Lib.hid (qblk b XG.out)
      replace Xx8 := Lib.hid (qblk b Xx8.out)
      clear b
      try dsimp only
      refine yK hK ?_
      clear hK K
      refine yM (.tuple #[.agg (T.cells a2 n2), .int .i64 ET]) ?_
      refine yM (.agg (T.cells a2 n2)) ?_
      refine yM (.int .i64 ET) ?_
      refine yR (fun K hK => ?_)
      refine qbuild (w' := U6.alloc (.cells #[.int .i64 0, .int .i64 0, .int .i64 0, .slice none 0 0] 28)) (.pointer (some ⟨U6.heap.size, 0, none⟩)) (by kernel_rfl) ?_
      obtain ⟨x10, hx10⟩ : ∃ x, Hid (U6.heap.size = x) := ⟨_, Lib.hid rfl⟩
      have AL := Lib.hid (al1 U6 (.cells #[.int .i64 0, .int .i64 0, .int .i64 0, .slice none 0 0] 28))
      rw [hx10.out] at AL ⊢
      refine yK hK ?_
      clear hK K
      refine yR (fun K hK => ?_)
      refine qstore 28 _ _ rfl x10 #[.int .i64 0, .int .i64 0, .int .i64 0, .slice none 0 0] (T.cells a2 n2) 28 rfl rfl AL.out.2 (by exact qJF T a2 n2) rfl (qone T a2 n2) ?_
      intro U7 h8 hg8 hs8
      have b : Below U6.heap.size U6 U7 := qstep (by have h1 := AL.out.1; rw [← hx10.out] at h1; exact h1) hg8 (Nat.le_of_eq hx10.out)
      replace BF := Lib.hid (BF.out.trans (b.mono BF.out.size))
      replace HR := Lib.hid (HR.out.below b)
      replace HG := Lib.hid (HG.out.below b)
      replace R1 := Lib.hid (R1.out.below b)
      replace R2 := Lib.hid (R2.out.below b)
      replace XF := Lib.hid (qblk b XF.out)
      replace XG := Lib.hid (qblk b XG.out)
      replace Xx8 := Lib.hid (qblk b Xx8.out)
      clear b
      have Xx10 := Lib.hid h8
      clear h8 hg8 hs8 AL
      refine yK hK ?_
      clear hK K
      refine yM (.int .i64 ET) ?_
      refine yE ?_
      go_upto_region 6 with fail
      refine yB ?_
      refine yW (.agg (f.cells a n)) ?_ (qyrow (by kernel_rfl) 28 _ rfl p rfl _ 28 (0, 0) _ (fun W hW => by rw [hW]; exact XF.out) Tryz.underlying28 rfl (by exact (qJF f a n)))
      refine yR (fun K hK => ?_)
      go_simp
      refine (mirrorP_any f a n _ HR.out).mono ?_
      rintro e U8 ⟨⟨a3, n3, rfl, own⟩, b⟩
      rw [hM.out] at own ⊢
      rw [hEM.out]
      have R3 := Lib.hid own.rd
      clear own
      replace BF := Lib.hid (BF.out.trans (b.mono BF.out.size))
      replace HR := Lib.hid (HR.out.below b)
      replace HG := Lib.hid (HG.out.below b)
      replace R1 := Lib.hid (R1.out.below b)
      replace R2 := Lib.hid (R2.out.below b)
      replace XF := Lib.hid (qblk b XF.out)
      replace XG := Lib.hid (qblk b XG.out)
      replace Xx8 := Lib.hid (qblk b Xx8.out)
      replace Xx10 := Lib.hid (qblk b Xx10.out)
      clear b
      try dsimp only
      refine yK hK ?_
      clear hK K
      refine yM (.tuple #[.agg (M.cells a3 n3), .int .i64 EM]) ?_
      refine yM (.agg (M.cells a3 n3)) ?_
      refine yM (.int .i64 EM) ?_
      refine yR (fun K hK => ?_)
      refine qbuild (w' := U8.alloc (.cells #[.int .i64 0, .int .i64 0, .int .i64 0, .slice none 0 0] 28)) (.pointer (some ⟨U8.heap.size, 0, none⟩)) (by kernel_rfl) ?_
      obtain ⟨x12, hx12⟩ : ∃ x, Hid (U8.heap.size = x) := ⟨_, Lib.hid rfl⟩
      have AL := Lib.hid (al1 U8 (.cells #[.int .i64 0, .int .i64 0, .int .i64 0, .slice none 0 0] 28))
      rw [hx12.out] at AL ⊢
      refine yK hK ?_
      clear hK K
      refine yR (fun K hK => ?_)
      refine qstore 28 _ _ rfl x12 #[.int .i64 0, .int .i64 0, .int .i64 0, .slice none 0 0] (M.cells a3 n3) 28 rfl rfl AL.out.2 (by exact qJF M a3 n3) rfl (qone M a3 n3) ?_
      intro U9 h8 hg8 hs8
      have b : Below U8.heap.size U8 U9 := qstep (by have h1 := AL.out.1; rw [← hx12.out] at h1; exact h1) hg8 (Nat.le_of_eq hx12.out)
      replace BF := Lib.hid (BF.out.trans (b.mono BF.out.size))
      replace HR := Lib.hid (HR.out.below b)
      replace HG := Lib.hid (HG.out.below b)
      replace R1 := Lib.hid (R1.out.below b)
      replace R2 := Lib.hid (R2.out.below b)
      replace R3 := Lib.hid (R3.out.below b)
      replace XF := Lib.hid (qblk b XF.out)
      replace XG := Lib.hid (qblk b XG.out)
      replace Xx8 := Lib.hid (qblk b Xx8.out)
      replace Xx10 := Lib.hid (qblk b Xx10.out)
      clear b
      have Xx12 := Lib.hid h8
      clear h8 hg8 hs8 AL
      refine yK hK ?_
      clear hK K
      refine yM (.int .i64 EM) ?_
      refine yE ?_
      go_upto_region 7 with fail
      refine yB ?_
      refine yW (.agg (f.cells a n)) ?_ (qyrow (by kernel_rfl) 28 _ rfl p rfl _ 28 (0, 0) _ (fun W hW => by rw [hW]; exact XF.out) Tryz.underlying28 rfl (by exact (qJF f a n)))
      refine yR (fun K hK => ?_)
      go_simp
      refine (rmirrorP_any f a n _ HR.out).mono ?_
      rintro e U10 ⟨⟨a4, n4, rfl, own⟩, b⟩
      rw [hM.out] at own ⊢
      rw [hEM.out]
      have R4 := Lib.hid own.rd
      clear own
      replace BF := Lib.hid (BF.out.trans (b.mono BF.out.size))
      replace HR := Lib.hid (HR.out.below b)
      replace HG := Lib.hid (HG.out.below b)
      replace R1 := Lib.hid (R1.out.below b)
      replace R2 := Lib.hid (R2.out.below b)
      replace R3 := Lib.hid (R3.out.below b)
      replace XF := Lib.hid (qblk b XF.out)
      replace XG := Lib.hid (qblk b XG.out)
      replace Xx8 := Lib.hid (qblk b Xx8.out)
      replace Xx10 := Lib.hid (qblk b Xx10.out)
      replace Xx12 := Lib.hid (qblk b Xx12.out)
      clear b
      try dsimp only
      refine yK hK ?_
      clear hK K
      refine yM (.tuple #[.agg (M.cells a4 n4), .int .i64 EM]) ?_
      refine yM (.agg (M.cells a4 n4)) ?_
      refine yM (.int .i64 EM) ?_
      refine yR (fun K hK => ?_)
      refine qbuild (w' := U10.alloc (.cells #[.int .i64 0, .int .i64 0, .int .i64 0, .slice none 0 0] 28)) (.pointer (some ⟨U10.heap.size, 0, none⟩)) (by kernel_rfl) ?_
      obtain ⟨x14, hx14⟩ : ∃ x, Hid (U10.heap.size = x) := ⟨_, Lib.hid rfl⟩
      have AL := Lib.hid (al1 U10 (.cells #[.int .i64 0, .int .i64 0, .int .i64 0, .slice none 0 0] 28))
      rw [hx14.out] at AL ⊢
      refine yK hK ?_
      clear hK K
      refine yR (fun K hK => ?_)
      refine qstore 28 _ _ rfl x14 #[.int .i64 0, .int .i64 0, .int .i64 0, .slice none 0 0] (M.cells a4 n4) 28 rfl rfl AL.out.2 (by exact qJF M a4 n4) rfl (qone M a4 n4) ?_
      intro U11 h8 hg8 hs8
      have b : Below U10.heap.size U10 U11 := qstep (by have h1 := AL.out.1; rw [← hx14.out] at h1; exact h1) hg8 (Nat.le_of_eq hx14.out)
      replace BF := Lib.hid (BF.out.trans (b.mono BF.out.size))
      replace HR := Lib.hid (HR.out.below b)
      replace HG := Lib.hid (HG.out.below b)
      replace R1 := Lib.hid (R1.out.below b)
      replace R2 := Lib.hid (R2.out.below b)
      replace R3 := Lib.hid (R3.out.below b)
      replace R4 := Lib.hid (R4.out.below b)
      replace XF := Lib.hid (qblk b XF.out)
      replace XG := Lib.hid (qblk b XG.out)
      replace Xx8 := Lib.hid (qblk b Xx8.out)
      replace Xx10 := Lib.hid (qblk b Xx10.out)
      replace Xx12 := Lib.hid (qblk b Xx12.out)
      clear b
      have Xx14 := Lib.hid h8
      clear h8 hg8 hs8 AL
      refine yK hK ?_
      clear hK K
      refine yM (.int .i64 EM) ?_
      refine yE ?_
      go_upto_region 8 with fail
      refine yB ?_
      refine yW (.agg (f.cells a n)) ?_ (qyrow (by kernel_rfl) 28 _ rfl p rfl _ 28 (0, 0) _ (fun W hW => by rw [hW]; exact XF.out) Tryz.underlying28 rfl (by exact (qJF f a n)))
      refine yR (fun K hK => ?_)
      go_simp
      refine (normalP_any f a n _ HR.out).mono ?_
      rintro e U12 ⟨⟨a5, n5, rfl, own⟩, b⟩
      rw [hN.out] at own ⊢
      rw [hEN.out]
      have R5 := Lib.hid own.rd
      clear own
      replace BF := Lib.hid (BF.out.trans (b.mono BF.out.size))
      replace HR := Lib.hid (HR.out.below b)
      replace HG := Lib.hid (HG.out.below b)
      replace R1 := Lib.hid (R1.out.below b)
      replace R2 := Lib.hid (R2.out.below b)
      replace R3 := Lib.hid (R3.out.below b)
      replace R4 := Lib.hid (R4.out.below b)
      replace XF := Lib.hid (qblk b XF.out)
      replace XG := Lib.hid (qblk b XG.out)
      replace Xx8 := Lib.hid (qblk b Xx8.out)
      replace Xx10 := Lib.hid (qblk b Xx10.out)
      replace Xx12 := Lib.hid (qblk b Xx12.out)
      replace Xx14 := Lib.hid (qblk b Xx14.out)
      clear b
      try dsimp only
      refine yK hK ?_
      clear hK K
      refine yM (.tuple #[.agg (N.cells a5 n5), .int .i64 EN]) ?_
      refine yM (.agg (N.cells a5 n5)) ?_
      refine yM (.int .i64 EN) ?_
      refine yR (fun K hK => ?_)
      refine qbuild (w' := U12.alloc (.cells #[.int .i64 0, .int .i64 0, .int .i64 0, .slice none 0 0] 28)) (.pointer (some ⟨U12.heap.size, 0, none⟩)) (by kernel_rfl) ?_
      obtain ⟨x16, hx16⟩ : ∃ x, Hid (U12.heap.size = x) := ⟨_, Lib.hid rfl⟩
      have AL := Lib.hid (al1 U12 (.cells #[.int .i64 0, .int .i64 0, .int .i64 0, .slice none 0 0] 28))
      rw [hx16.out] at AL ⊢
      refine yK hK ?_
      clear hK K
      refine yR (fun K hK => ?_)
      refine qstore 28 _ _ rfl x16 #[.int .i64 0, .int .i64 0, .int .i64 0, .slice none 0 0] (N.cells a5 n5) 28 rfl rfl AL.out.2 (by exact qJF N a5 n5) rfl (qone N a5 n5) ?_
      intro U13 h8 hg8 hs8
      have b : Below U12.heap.size U12 U13 := qstep (by have h1 := AL.out.1; rw [← hx16.out] at h1; exact h1) hg8 (Nat.le_of_eq hx16.out)
      replace BF := Lib.hid (BF.out.trans (b.mono BF.out.size))
      replace HR := Lib.hid (HR.out.below b)
      replace HG := Lib.hid (HG.out.below b)
      replace R1 := Lib.hid (R1.out.below b)
      replace R2 := Lib.hid (R2.out.below b)
      replace R3 := Lib.hid (R3.out.below b)
      replace R4 := Lib.hid (R4.out.below b)
      replace R5 := Lib.hid (R5.out.below b)
      replace XF := Lib.hid (qblk b XF.out)
      replace XG := Lib.hid (qblk b XG.out)
      replace Xx8 := Lib.hid (qblk b Xx8.out)
      replace Xx10 := Lib.hid (qblk b Xx10.out)
      replace Xx12 := Lib.hid (qblk b Xx12.out)
      replace Xx14 := Lib.hid (qblk b Xx14.out)
      clear b
      have Xx16 := Lib.hid h8
      clear h8 hg8 hs8 AL
      refine yK hK ?_
      clear hK K
      refine yM (.int .i64 EN) ?_
      refine yE ?_
      go_upto_region 9 with fail
      refine yB ?_
      refine yW (.agg (f.cells a n)) ?_ (qyrow (by kernel_rfl) 28 _ rfl p rfl _ 28 (0, 0) _ (fun W hW => by rw [hW]; exact XF.out) Tryz.underlying28 rfl (by exact (qJF f a n)))
      refine yR (fun K hK => ?_)
      go_simp
      refine (rnormalP_any f a n _ HR.out).mono ?_
      rintro e U14 ⟨⟨a6, n6, rfl, own⟩, b⟩
      rw [hN.out] at own ⊢
      rw [hEN.out]
      have R6 := Lib.hid own.rd
      clear own
      replace BF := Lib.hid (BF.out.trans (b.mono BF.out.size))
      replace HR := Lib.hid (HR.out.below b)
      replace HG := Lib.hid (HG.out.below b)
      replace R1 := Lib.hid (R1.out.below b)
      replace R2 := Lib.hid (R2.out.below b)
      replace R3 := Lib.hid (R3.out.below b)
      replace R4 := Lib.hid (R4.out.below b)
      replace R5 := Lib.hid (R5.out.below b)
      replace XF := Lib.hid (qblk b XF.out)
      replace XG := Lib.hid (qblk b XG.out)
      replace Xx8 := Lib.hid (qblk b Xx8.out)
      replace Xx10 := Lib.hid (qblk b Xx10.out)
      replace Xx12 := Lib.hid (qblk b Xx12.out)
      replace Xx14 := Lib.hid (qblk b Xx14.out)
      replace Xx16 := Lib.hid (qblk b Xx16.out)
      clear b
      try dsimp only
      refine yK hK ?_
      clear hK K
      refine yM (.tuple #[.agg (N.cells a6 n6), .int .i64 EN]) ?_
      refine yM (.agg (N.cells a6 n6)) ?_
      refine yM (.int .i64 EN) ?_
      refine yR (fun K hK => ?_)
      refine qbuild (w' := U14.alloc (.cells #[.int .i64 0, .int .i64 0, .int .i64 0, .slice none 0 0] 28)) (.pointer (some ⟨U14.heap.size, 0, none⟩)) (by kernel_rfl) ?_
      obtain ⟨x18, hx18⟩ : ∃ x, Hid (U14.heap.size = x) := ⟨_, Lib.hid rfl⟩
      have AL := Lib.hid (al1 U14 (.cells #[.int .i64 0, .int .i64 0, .int .i64 0, .slice none 0 0] 28))
      rw [hx18.out] at AL ⊢
      refine yK hK ?_
      clear hK K
      refine yR (fun K hK => ?_)
      refine qstore 28 _ _ rfl x18 #[.int .i64 0, .int .i64 0, .int .i64 0, .slice none 0 0] (N.cells a6 n6) 28 rfl rfl AL.out.2 (by exact qJF N a6 n6) rfl (qone N a6 n6) ?_
      intro U15 h8 hg8 hs8
      have b : Below U14.heap.size U14 U15 := qstep (by have h1 := AL.out.1; rw [← hx18.out] at h1; exact h1) hg8 (Nat.le_of_eq hx18.out)
      replace BF := Lib.hid (BF.out.trans (b.mono BF.out.size))
      replace HR := Lib.hid (HR.out.below b)
      replace HG := Lib.hid (HG.out.below b)
      replace R1 := Lib.hid (R1.out.below b)
      replace R2 := Lib.hid (R2.out.below b)
      replace R3 := Lib.hid (R3.out.below b)
      replace R4 := Lib.hid (R4.out.below b)
      replace R5 := Lib.hid (R5.out.below b)
      replace R6 := Lib.hid (R6.out.below b)
      replace XF := Lib.hid (qblk b XF.out)
      replace XG := Lib.hid (qblk b XG.out)
      replace Xx8 := Lib.hid (qblk b Xx8.out)
      replace Xx10 := Lib.hid (qblk b Xx10.out)
      replace Xx12 := Lib.hid (qblk b Xx12.out)
      replace Xx14 := Lib.hid (qblk b Xx14.out)
      replace Xx16 := Lib.hid (qblk b Xx16.out)
      clear b
      have Xx18 := Lib.hid h8
      clear h8 hg8 hs8 AL
      refine yK hK ?_
      clear hK K
      refine yM (.int .i64 EN) ?_
      refine yE ?_
      go_upto_region 10 with fail
      refine yB ?_
      refine yW (.agg (T.cells a1 n1)) ?_ (qyrow (by kernel_rfl) 28 _ rfl x8 rfl _ 28 (0, 0) _ (fun W hW => by rw [hW]; exact Xx8.out) Tryz.underlying28 rfl (by exact (qJF T a1 n1)))
      refine yW (.agg (T.cells a2 n2)) ?_ (qyrow (by kernel_rfl) 28 _ rfl x10 rfl _ 28 (0, 0) _ (fun W hW => by rw [hW]; exact Xx10.out) Tryz.underlying28 rfl (by exact (qJF T a2 n2)))
      refine yR (fun K hK => ?_)
      go_simp
      refine (rsame_any T a1 n1 T a2 n2 _ R1.out R2.out).mono ?_
      rintro e U16 ⟨rfl, b⟩
      rw [show sameF T T = true from decide_eq_true rfl]
      replace BF := Lib.hid (BF.out.trans (b.mono BF.out.size))
      replace HR := Lib.hid (HR.out.below b)
      replace HG := Lib.hid (HG.out.below b)
      replace R1 := Lib.hid (R1.out.below b)
      replace R2 := Lib.hid (R2.out.below b)
      replace R3 := Lib.hid (R3.out.below b)
      replace R4 := Lib.hid (R4.out.below b)
      replace R5 := Lib.hid (R5.out.below b)
      replace R6 := Lib.hid (R6.out.below b)
      replace XF := Lib.hid (qblk b XF.out)
      replace XG := Lib.hid (qblk b XG.out)
      replace Xx8 := Lib.hid (qblk b Xx8.out)
      replace Xx10 := Lib.hid (qblk b Xx10.out)
      replace Xx12 := Lib.hid (qblk b Xx12.out)
      replace Xx14 := Lib.hid (qblk b Xx14.out)
      replace Xx16 := Lib.hid (qblk b Xx16.out)
      replace Xx18 := Lib.hid (qblk b Xx18.out)
      clear b
      try dsimp only
      refine yK hK ?_
      clear hK K
      refine yM (.bool false) ?_
      refine yM (.bool false) ?_
      refine yM (.int .i64 ET) ?_
      refine yM (.int .i64 ET) ?_
      refine yW (.bool false) ?_ (.inl ⟨by kernel_rfl, by intro W hW; (try rw [hW]); go_simp; (try simp)⟩)
      refine yM (.bool false) ?_
      refine yM (.bool false) ?_
      refine yW (.agg (M.cells a3 n3)) ?_ (qyrow (by kernel_rfl) 28 _ rfl x12 rfl _ 28 (0, 0) _ (fun W hW => by rw [hW]; exact Xx12.out) Tryz.underlying28 rfl (by exact (qJF M a3 n3)))
      refine yW (.agg (M.cells a4 n4)) ?_ (qyrow (by kernel_rfl) 28 _ rfl x14 rfl _ 28 (0, 0) _ (fun W hW => by rw [hW]; exact Xx14.out) Tryz.underlying28 rfl (by exact (qJF M a4 n4)))
      refine yR (fun K hK => ?_)
      go_simp
      refine (rsame_any M a3 n3 M a4 n4 _ R3.out R4.out).mono ?_
      rintro e U17 ⟨rfl, b⟩
      rw [show sameF M M = true from decide_eq_true rfl]
      replace BF := Lib.hid (BF.out.trans (b.mono BF.out.size))
      replace HR := Lib.hid (HR.out.below b)
      replace HG := Lib.hid (HG.out.below b)
      replace R1 := Lib.hid (R1.out.below b)
      replace R2 := Lib.hid (R2.out.below b)
      replace R3 := Lib.hid (R3.out.below b)
      replace R4 := Lib.hid (R4.out.below b)
      replace R5 := Lib.hid (R5.out.below b)
      replace R6 := Lib.hid (R6.out.below b)
      replace XF := Lib.hid (qblk b XF.out)
      replace XG := Lib.hid (qblk b XG.out)
      replace Xx8 := Lib.hid (qblk b Xx8.out)
      replace Xx10 := Lib.hid (qblk b Xx10.out)
      replace Xx12 := Lib.hid (qblk b Xx12.out)
      replace Xx14 := Lib.hid (qblk b Xx14.out)
      replace Xx16 := Lib.hid (qblk b Xx16.out)
      replace Xx18 := Lib.hid (qblk b Xx18.out)
      clear b
      try dsimp only
      refine yK hK ?_
      clear hK K
      refine yM (.bool false) ?_
      refine yM (.bool false) ?_
      refine yM (.bool false) ?_
      refine yM (.int .i64 EM) ?_
      refine yM (.int .i64 EM) ?_
      refine yW (.bool false) ?_ (.inl ⟨by kernel_rfl, by intro W hW; (try rw [hW]); go_simp; (try simp)⟩)
      refine yM (.bool false) ?_
      refine yM (.bool false) ?_
      refine yW (.agg (N.cells a5 n5)) ?_ (qyrow (by kernel_rfl) 28 _ rfl x16 rfl _ 28 (0, 0) _ (fun W hW => by rw [hW]; exact Xx16.out) Tryz.underlying28 rfl (by exact (qJF N a5 n5)))
      refine yW (.agg (N.cells a6 n6)) ?_ (qyrow (by kernel_rfl) 28 _ rfl x18 rfl _ 28 (0, 0) _ (fun W hW => by rw [hW]; exact Xx18.out) Tryz.underlying28 rfl (by exact (qJF N a6 n6)))
      refine yR (fun K hK => ?_)
      go_simp
      refine (rsame_any N a5 n5 N a6 n6 _ R5.out R6.out).mono ?_
      rintro e U18 ⟨rfl, b⟩
      rw [show sameF N N = true from decide_eq_true rfl]
      replace BF := Lib.hid (BF.out.trans (b.mono BF.out.size))
      replace HR := Lib.hid (HR.out.below b)
      replace HG := Lib.hid (HG.out.below b)
      replace R1 := Lib.hid (R1.out.below b)
      replace R2 := Lib.hid (R2.out.below b)
      replace R3 := Lib.hid (R3.out.below b)
      replace R4 := Lib.hid (R4.out.below b)
      replace R5 := Lib.hid (R5.out.below b)
      replace R6 := Lib.hid (R6.out.below b)
      replace XF := Lib.hid (qblk b XF.out)
      replace XG := Lib.hid (qblk b XG.out)
      replace Xx8 := Lib.hid (qblk b Xx8.out)
      replace Xx10 := Lib.hid (qblk b Xx10.out)
      replace Xx12 := Lib.hid (qblk b Xx12.out)
      replace Xx14 := Lib.hid (qblk b Xx14.out)
      replace Xx16 := Lib.hid (qblk b Xx16.out)
      replace Xx18 := Lib.hid (qblk b Xx18.out)
      clear b
      try dsimp only
      refine yK hK ?_
      clear hK K
      refine yM (.bool false) ?_
      refine yM (.bool false) ?_
      refine yM (.bool false) ?_
      refine yM (.int .i64 EN) ?_
      refine yM (.int .i64 EN) ?_
      refine yW (.bool false) ?_ (.inl ⟨by kernel_rfl, by intro W hW; (try rw [hW]); go_simp; (try simp)⟩)
      refine yM (.bool false) ?_
      refine yE ?_
      go_upto_region 12 with fail
      refine yB ?_
      refine yW (.agg (f.cells a n)) ?_ (qyrow (by kernel_rfl) 28 _ rfl p rfl _ 28 (0, 0) _ (fun W hW => by rw [hW]; exact XF.out) Tryz.underlying28 rfl (by exact (qJF f a n)))
      refine yW (.agg (g.cells b m)) ?_ (qyrow (by kernel_rfl) 28 _ rfl q rfl _ 28 (0, 0) _ (fun W hW => by rw [hW]; exact XG.out) Tryz.underlying28 rfl (by exact (qJF g b m)))
      refine yR (fun K hK => ?_)
      go_simp
      refine (turnsP_any f g a b n m _ HR.out HG.out).mono ?_
      rintro e U19 ⟨⟨a7, n7, rfl, own⟩, b9⟩
      have b := b9
      clear b9
      rw [hU.out, hNU.out] at own
      rw [hNU.out, hEU.out]
      have R7 : Hid (RdI U19 a7 NU n7 U) := Lib.hid (RdA.of_own own)
      clear own
      replace BF := Lib.hid (BF.out.trans (b.mono BF.out.size))
      replace HR := Lib.hid (HR.out.below b)
      replace HG := Lib.hid (HG.out.below b)
      replace R1 := Lib.hid (R1.out.below b)
      replace R2 := Lib.hid (R2.out.below b)
      replace R3 := Lib.hid (R3.out.below b)
      replace R4 := Lib.hid (R4.out.below b)
      replace R5 := Lib.hid (R5.out.below b)
      replace R6 := Lib.hid (R6.out.below b)
      replace XF := Lib.hid (qblk b XF.out)
      replace XG := Lib.hid (qblk b XG.out)
      replace Xx8 := Lib.hid (qblk b Xx8.out)
      replace Xx10 := Lib.hid (qblk b Xx10.out)
      replace Xx12 := Lib.hid (qblk b Xx12.out)
      replace Xx14 := Lib.hid (qblk b Xx14.out)
      replace Xx16 := Lib.hid (qblk b Xx16.out)
      replace Xx18 := Lib.hid (qblk b Xx18.out)
      clear b
      try dsimp only
      refine yK hK ?_
      clear hK K
      refine yM (.tuple #[.slice a7 NU n7, .int .i64 EU]) ?_
      refine yM (.slice a7 NU n7) ?_
      refine yM (.int .i64 EU) ?_
      refine yM (.slice a7 NU n7) ?_
      refine yM (.int .i64 EU) ?_
      refine yE ?_
      go_upto_region 13 with fail
      refine yB ?_
      refine yW (.agg (f.cells a n)) ?_ (qyrow (by kernel_rfl) 28 _ rfl p rfl _ 28 (0, 0) _ (fun W hW => by rw [hW]; exact XF.out) Tryz.underlying28 rfl (by exact (qJF f a n)))
      refine yW (.agg (g.cells b m)) ?_ (qyrow (by kernel_rfl) 28 _ rfl q rfl _ 28 (0, 0) _ (fun W hW => by rw [hW]; exact XG.out) Tryz.underlying28 rfl (by exact (qJF g b m)))
      refine yR (fun K hK => ?_)
      go_simp
      refine (rturnsP_any f g a b n m _ HR.out HG.out).mono ?_
      rintro e U20 ⟨⟨a8, n8, rfl, own⟩, b9⟩
      have b := b9
      clear b9
      rw [hU.out, hNU.out] at own
      rw [hNU.out, hEU.out]
      have R8 : Hid (RdI U20 a8 NU n8 U) := Lib.hid (RdA.of_own own)
      clear own
      replace BF := Lib.hid (BF.out.trans (b.mono BF.out.size))
      replace HR := Lib.hid (HR.out.below b)
      replace HG := Lib.hid (HG.out.below b)
      replace R1 := Lib.hid (R1.out.below b)
      replace R2 := Lib.hid (R2.out.below b)
      replace R3 := Lib.hid (R3.out.below b)
      replace R4 := Lib.hid (R4.out.below b)
      replace R5 := Lib.hid (R5.out.below b)
      replace R6 := Lib.hid (R6.out.below b)
      replace R7 := Lib.hid (R7.out.below b)
      replace XF := Lib.hid (qblk b XF.out)
      replace XG := Lib.hid (qblk b XG.out)
      replace Xx8 := Lib.hid (qblk b Xx8.out)
      replace Xx10 := Lib.hid (qblk b Xx10.out)
      replace Xx12 := Lib.hid (qblk b Xx12.out)
      replace Xx14 := Lib.hid (qblk b Xx14.out)
      replace Xx16 := Lib.hid (qblk b Xx16.out)
      replace Xx18 := Lib.hid (qblk b Xx18.out)
      clear b
      try dsimp only
      refine yK hK ?_
      clear hK K
      refine yM (.tuple #[.slice a8 NU n8, .int .i64 EU]) ?_
      refine yM (.slice a8 NU n8) ?_
      refine yM (.int .i64 EU) ?_
      refine yM (.slice a8 NU n8) ?_
      refine yM (.int .i64 EU) ?_
      refine yE ?_
      go_upto_region 14 with fail
      refine yB ?_
      refine yW (.agg (f.cells a n)) ?_ (qyrow (by kernel_rfl) 28 _ rfl p rfl _ 28 (0, 0) _ (fun W hW => by rw [hW]; exact XF.out) Tryz.underlying28 rfl (by exact (qJF f a n)))
      refine yR (fun K hK => ?_)
      go_simp
      refine (periodP_any f a n _ HR.out).mono ?_
      rintro e U21 ⟨rfl, b⟩
      replace BF := Lib.hid (BF.out.trans (b.mono BF.out.size))
      replace HR := Lib.hid (HR.out.below b)
      replace HG := Lib.hid (HG.out.below b)
      replace R1 := Lib.hid (R1.out.below b)
      replace R2 := Lib.hid (R2.out.below b)
      replace R3 := Lib.hid (R3.out.below b)
      replace R4 := Lib.hid (R4.out.below b)
      replace R5 := Lib.hid (R5.out.below b)
      replace R6 := Lib.hid (R6.out.below b)
      replace R7 := Lib.hid (R7.out.below b)
      replace R8 := Lib.hid (R8.out.below b)
      replace XF := Lib.hid (qblk b XF.out)
      replace XG := Lib.hid (qblk b XG.out)
      replace Xx8 := Lib.hid (qblk b Xx8.out)
      replace Xx10 := Lib.hid (qblk b Xx10.out)
      replace Xx12 := Lib.hid (qblk b Xx12.out)
      replace Xx14 := Lib.hid (qblk b Xx14.out)
      replace Xx16 := Lib.hid (qblk b Xx16.out)
      replace Xx18 := Lib.hid (qblk b Xx18.out)
      clear b
      rw [hP.out, hEP.out]
      try dsimp only
      refine yK hK ?_
      clear hK K
      refine yM (.tuple #[.int .i64 P, .int .i64 EP]) ?_
      refine yM (.int .i64 P) ?_
      refine yM (.int .i64 EP) ?_
      refine yM (.int .i64 P) ?_
      refine yM (.int .i64 EP) ?_
      refine yE ?_
      go_upto_region 15 with fail
      refine yB ?_
      refine yW (.agg (f.cells a n)) ?_ (qyrow (by kernel_rfl) 28 _ rfl p rfl _ 28 (0, 0) _ (fun W hW => by rw [hW]; exact XF.out) Tryz.underlying28 rfl (by exact (qJF f a n)))
      refine yR (fun K hK => ?_)
      go_simp
      refine (rperiodP_any f a n _ HR.out).mono ?_
      rintro e U22 ⟨rfl, b⟩
      replace BF := Lib.hid (BF.out.trans (b.mono BF.out.size))
      replace HR := Lib.hid (HR.out.below b)
      replace HG := Lib.hid (HG.out.below b)
      replace R1 := Lib.hid (R1.out.below b)
      replace R2 := Lib.hid (R2.out.below b)
      replace R3 := Lib.hid (R3.out.below b)
      replace R4 := Lib.hid (R4.out.below b)
      replace R5 := Lib.hid (R5.out.below b)
      replace R6 := Lib.hid (R6.out.below b)
      replace R7 := Lib.hid (R7.out.below b)
      replace R8 := Lib.hid (R8.out.below b)
      replace XF := Lib.hid (qblk b XF.out)
      replace XG := Lib.hid (qblk b XG.out)
      replace Xx8 := Lib.hid (qblk b Xx8.out)
      replace Xx10 := Lib.hid (qblk b Xx10.out)
      replace Xx12 := Lib.hid (qblk b Xx12.out)
      replace Xx14 := Lib.hid (qblk b Xx14.out)
      replace Xx16 := Lib.hid (qblk b Xx16.out)
      replace Xx18 := Lib.hid (qblk b Xx18.out)
      clear b
      rw [hP.out, hEP.out]
      try dsimp only
      refine yK hK ?_
      clear hK K
      refine yM (.tuple #[.int .i64 P, .int .i64 EP]) ?_
      refine yM (.int .i64 P) ?_
      refine yM (.int .i64 EP) ?_
      refine yM (.int .i64 P) ?_
      refine yM (.int .i64 EP) ?_
      refine yE ?_
      go_upto_region 16 with fail
      refine yB ?_
      refine yW (.agg (f.cells a n)) ?_ (qyrow (by kernel_rfl) 28 _ rfl p rfl _ 28 (0, 0) _ (fun W hW => by rw [hW]; exact XF.out) Tryz.underlying28 rfl (by exact (qJF f a n)))
      refine yR (fun K hK => ?_)
      go_simp
      refine (harpP_any f a n _ HR.out).mono ?_
      rintro e U23 ⟨⟨a9, n9, rfl, own⟩, b⟩
      rw [hH.out] at own ⊢
      rw [hEH.out]
      have R9 := Lib.hid own.rd
      clear own
      replace BF := Lib.hid (BF.out.trans (b.mono BF.out.size))
      replace HR := Lib.hid (HR.out.below b)
      replace HG := Lib.hid (HG.out.below b)
      replace R1 := Lib.hid (R1.out.below b)
      replace R2 := Lib.hid (R2.out.below b)
      replace R3 := Lib.hid (R3.out.below b)
      replace R4 := Lib.hid (R4.out.below b)
      replace R5 := Lib.hid (R5.out.below b)
      replace R6 := Lib.hid (R6.out.below b)
      replace R7 := Lib.hid (R7.out.below b)
      replace R8 := Lib.hid (R8.out.below b)
      replace XF := Lib.hid (qblk b XF.out)
      replace XG := Lib.hid (qblk b XG.out)
      replace Xx8 := Lib.hid (qblk b Xx8.out)
      replace Xx10 := Lib.hid (qblk b Xx10.out)
      replace Xx12 := Lib.hid (qblk b Xx12.out)
      replace Xx14 := Lib.hid (qblk b Xx14.out)
      replace Xx16 := Lib.hid (qblk b Xx16.out)
      replace Xx18 := Lib.hid (qblk b Xx18.out)
      clear b
      try dsimp only
      refine yK hK ?_
      clear hK K
      refine yM (.tuple #[.agg (H.cells a9 n9), .int .i64 EH]) ?_
      refine yM (.agg (H.cells a9 n9)) ?_
      refine yM (.int .i64 EH) ?_
      refine yR (fun K hK => ?_)
      refine qbuild (w' := U23.alloc (.cells #[.int .i64 0, .int .i64 0, .int .i64 0, .slice none 0 0] 28)) (.pointer (some ⟨U23.heap.size, 0, none⟩)) (by kernel_rfl) ?_
      obtain ⟨x28, hx28⟩ : ∃ x, Hid (U23.heap.size = x) := ⟨_, Lib.hid rfl⟩
      have AL := Lib.hid (al1 U23 (.cells #[.int .i64 0, .int .i64 0, .int .i64 0, .slice none 0 0] 28))
      rw [hx28.out] at AL ⊢
      refine yK hK ?_
      clear hK K
      refine yR (fun K hK => ?_)
      refine qstore 28 _ _ rfl x28 #[.int .i64 0, .int .i64 0, .int .i64 0, .slice none 0 0] (H.cells a9 n9) 28 rfl rfl AL.out.2 (by exact qJF H a9 n9) rfl (qone H a9 n9) ?_
      intro U24 h8 hg8 hs8
      have b : Below U23.heap.size U23 U24 := qstep (by have h1 := AL.out.1; rw [← hx28.out] at h1; exact h1) hg8 (Nat.le_of_eq hx28.out)
      replace BF := Lib.hid (BF.out.trans (b.mono BF.out.size))
      replace HR := Lib.hid (HR.out.below b)
      replace HG := Lib.hid (HG.out.below b)
      replace R1 := Lib.hid (R1.out.below b)
      replace R2 := Lib.hid (R2.out.below b)
      replace R3 := Lib.hid (R3.out.below b)
      replace R4 := Lib.hid (R4.out.below b)
      replace R5 := Lib.hid (R5.out.below b)
      replace R6 := Lib.hid (R6.out.below b)
      replace R7 := Lib.hid (R7.out.below b)
      replace R8 := Lib.hid (R8.out.below b)
      replace R9 := Lib.hid (R9.out.below b)
      replace XF := Lib.hid (qblk b XF.out)
      replace XG := Lib.hid (qblk b XG.out)
      replace Xx8 := Lib.hid (qblk b Xx8.out)
      replace Xx10 := Lib.hid (qblk b Xx10.out)
      replace Xx12 := Lib.hid (qblk b Xx12.out)
      replace Xx14 := Lib.hid (qblk b Xx14.out)
      replace Xx16 := Lib.hid (qblk b Xx16.out)
      replace Xx18 := Lib.hid (qblk b Xx18.out)
      clear b
      have Xx28 := Lib.hid h8
      clear h8 hg8 hs8 AL
      refine yK hK ?_
      clear hK K
      refine yM (.int .i64 EH) ?_
      refine yE ?_
      go_upto_region 17 with fail
      refine yB ?_
      refine yW (.agg (f.cells a n)) ?_ (qyrow (by kernel_rfl) 28 _ rfl p rfl _ 28 (0, 0) _ (fun W hW => by rw [hW]; exact XF.out) Tryz.underlying28 rfl (by exact (qJF f a n)))
      refine yR (fun K hK => ?_)
      go_simp
      refine (rharpP_any f a n _ HR.out).mono ?_
      rintro e U25 ⟨⟨a10, n10, rfl, own⟩, b⟩
      rw [hH.out] at own ⊢
      rw [hEH.out]
      have R10 := Lib.hid own.rd
      clear own
      replace BF := Lib.hid (BF.out.trans (b.mono BF.out.size))
      replace HR := Lib.hid (HR.out.below b)
      replace HG := Lib.hid (HG.out.below b)
      replace R1 := Lib.hid (R1.out.below b)
      replace R2 := Lib.hid (R2.out.below b)
      replace R3 := Lib.hid (R3.out.below b)
      replace R4 := Lib.hid (R4.out.below b)
      replace R5 := Lib.hid (R5.out.below b)
      replace R6 := Lib.hid (R6.out.below b)
      replace R7 := Lib.hid (R7.out.below b)
      replace R8 := Lib.hid (R8.out.below b)
      replace R9 := Lib.hid (R9.out.below b)
      replace XF := Lib.hid (qblk b XF.out)
      replace XG := Lib.hid (qblk b XG.out)
      replace Xx8 := Lib.hid (qblk b Xx8.out)
      replace Xx10 := Lib.hid (qblk b Xx10.out)
      replace Xx12 := Lib.hid (qblk b Xx12.out)
      replace Xx14 := Lib.hid (qblk b Xx14.out)
      replace Xx16 := Lib.hid (qblk b Xx16.out)
      replace Xx18 := Lib.hid (qblk b Xx18.out)
      replace Xx28 := Lib.hid (qblk b Xx28.out)
      clear b
      try dsimp only
      refine yK hK ?_
      clear hK K
      refine yM (.tuple #[.agg (H.cells a10 n10), .int .i64 EH]) ?_
      refine yM (.agg (H.cells a10 n10)) ?_
      refine yM (.int .i64 EH) ?_
      refine yR (fun K hK => ?_)
      refine qbuild (w' := U25.alloc (.cells #[.int .i64 0, .int .i64 0, .int .i64 0, .slice none 0 0] 28)) (.pointer (some ⟨U25.heap.size, 0, none⟩)) (by kernel_rfl) ?_
      obtain ⟨x30, hx30⟩ : ∃ x, Hid (U25.heap.size = x) := ⟨_, Lib.hid rfl⟩
      have AL := Lib.hid (al1 U25 (.cells #[.int .i64 0, .int .i64 0, .int .i64 0, .slice none 0 0] 28))
      rw [hx30.out] at AL ⊢
      refine yK hK ?_
      clear hK K
      refine yR (fun K hK => ?_)
      refine qstore 28 _ _ rfl x30 #[.int .i64 0, .int .i64 0, .int .i64 0, .slice none 0 0] (H.cells a10 n10) 28 rfl rfl AL.out.2 (by exact qJF H a10 n10) rfl (qone H a10 n10) ?_
      intro U26 h8 hg8 hs8
      have b : Below U25.heap.size U25 U26 := qstep (by have h1 := AL.out.1; rw [← hx30.out] at h1; exact h1) hg8 (Nat.le_of_eq hx30.out)
      replace BF := Lib.hid (BF.out.trans (b.mono BF.out.size))
      replace HR := Lib.hid (HR.out.below b)
      replace HG := Lib.hid (HG.out.below b)
      replace R1 := Lib.hid (R1.out.below b)
      replace R2 := Lib.hid (R2.out.below b)
      replace R3 := Lib.hid (R3.out.below b)
      replace R4 := Lib.hid (R4.out.below b)
      replace R5 := Lib.hid (R5.out.below b)
      replace R6 := Lib.hid (R6.out.below b)
      replace R7 := Lib.hid (R7.out.below b)
      replace R8 := Lib.hid (R8.out.below b)
      replace R9 := Lib.hid (R9.out.below b)
      replace R10 := Lib.hid (R10.out.below b)
      replace XF := Lib.hid (qblk b XF.out)
      replace XG := Lib.hid (qblk b XG.out)
      replace Xx8 := Lib.hid (qblk b Xx8.out)
      replace Xx10 := Lib.hid (qblk b Xx10.out)
      replace Xx12 := Lib.hid (qblk b Xx12.out)
      replace Xx14 := Lib.hid (qblk b Xx14.out)
      replace Xx16 := Lib.hid (qblk b Xx16.out)
      replace Xx18 := Lib.hid (qblk b Xx18.out)
      replace Xx28 := Lib.hid (qblk b Xx28.out)
      clear b
      have Xx30 := Lib.hid h8
      clear h8 hg8 hs8 AL
      refine yK hK ?_
      clear hK K
      refine yM (.int .i64 EH) ?_
      refine yE ?_
      go_upto_region 18 with fail
      refine yB ?_
      refine yM (.bool true) ?_
      refine yM (.bool true) ?_
      refine yM (.slice a7 NU n7) ?_
      refine yM (.slice a8 NU n8) ?_
      refine yR (fun K hK => ?_)
      go_simp
      refine (sameInts2_any a7 NU n7 U a8 NU n8 U _ R7.out R8.out).mono ?_
      rintro e U27 ⟨rfl, b⟩
      rw [show decide (U = U) = true from decide_eq_true rfl]
      replace BF := Lib.hid (BF.out.trans (b.mono BF.out.size))
      replace HR := Lib.hid (HR.out.below b)
      replace HG := Lib.hid (HG.out.below b)
      replace R1 := Lib.hid (R1.out.below b)
      replace R2 := Lib.hid (R2.out.below b)
      replace R3 := Lib.hid (R3.out.below b)
      replace R4 := Lib.hid (R4.out.below b)
      replace R5 := Lib.hid (R5.out.below b)
      replace R6 := Lib.hid (R6.out.below b)
      replace R7 := Lib.hid (R7.out.below b)
      replace R8 := Lib.hid (R8.out.below b)
      replace R9 := Lib.hid (R9.out.below b)
      replace R10 := Lib.hid (R10.out.below b)
      replace XF := Lib.hid (qblk b XF.out)
      replace XG := Lib.hid (qblk b XG.out)
      replace Xx8 := Lib.hid (qblk b Xx8.out)
      replace Xx10 := Lib.hid (qblk b Xx10.out)
      replace Xx12 := Lib.hid (qblk b Xx12.out)
      replace Xx14 := Lib.hid (qblk b Xx14.out)
      replace Xx16 := Lib.hid (qblk b Xx16.out)
      replace Xx18 := Lib.hid (qblk b Xx18.out)
      replace Xx28 := Lib.hid (qblk b Xx28.out)
      replace Xx30 := Lib.hid (qblk b Xx30.out)
      clear b
      try dsimp only
      refine yK hK ?_
      clear hK K
      refine yM (.bool true) ?_
      refine yM (.bool true) ?_
      refine yM (.int .i64 EU) ?_
      refine yM (.int .i64 EU) ?_
      refine yW (.bool true) ?_ (.inl ⟨by kernel_rfl, by intro W hW; (try rw [hW]); go_simp; (try simp)⟩)
      refine yM (.bool true) ?_
      refine yM (.bool true) ?_
      refine yM (.int .i64 P) ?_
      refine yM (.int .i64 P) ?_
      refine yW (.bool true) ?_ (.inl ⟨by kernel_rfl, by intro W hW; (try rw [hW]); go_simp; (try simp)⟩)
      refine yM (.bool true) ?_
      refine yM (.bool true) ?_
      refine yM (.int .i64 EP) ?_
      refine yM (.int .i64 EP) ?_
      refine yW (.bool true) ?_ (.inl ⟨by kernel_rfl, by intro W hW; (try rw [hW]); go_simp; (try simp)⟩)
      refine yM (.bool true) ?_
      refine yM (.bool true) ?_
      refine yW (.agg (H.cells a9 n9)) ?_ (qyrow (by kernel_rfl) 28 _ rfl x28 rfl _ 28 (0, 0) _ (fun W hW => by rw [hW]; exact Xx28.out) Tryz.underlying28 rfl (by exact (qJF H a9 n9)))
      refine yW (.agg (H.cells a10 n10)) ?_ (qyrow (by kernel_rfl) 28 _ rfl x30 rfl _ 28 (0, 0) _ (fun W hW => by rw [hW]; exact Xx30.out) Tryz.underlying28 rfl (by exact (qJF H a10 n10)))
      refine yR (fun K hK => ?_)
      go_simp
      refine (rsame_any H a9 n9 H a10 n10 _ R9.out R10.out).mono ?_
      rintro e U28 ⟨rfl, b⟩
      rw [show sameF H H = true from decide_eq_true rfl]
      replace BF := Lib.hid (BF.out.trans (b.mono BF.out.size))
      replace HR := Lib.hid (HR.out.below b)
      replace HG := Lib.hid (HG.out.below b)
      replace R1 := Lib.hid (R1.out.below b)
      replace R2 := Lib.hid (R2.out.below b)
      replace R3 := Lib.hid (R3.out.below b)
      replace R4 := Lib.hid (R4.out.below b)
      replace R5 := Lib.hid (R5.out.below b)
      replace R6 := Lib.hid (R6.out.below b)
      replace R7 := Lib.hid (R7.out.below b)
      replace R8 := Lib.hid (R8.out.below b)
      replace R9 := Lib.hid (R9.out.below b)
      replace R10 := Lib.hid (R10.out.below b)
      replace XF := Lib.hid (qblk b XF.out)
      replace XG := Lib.hid (qblk b XG.out)
      replace Xx8 := Lib.hid (qblk b Xx8.out)
      replace Xx10 := Lib.hid (qblk b Xx10.out)
      replace Xx12 := Lib.hid (qblk b Xx12.out)
      replace Xx14 := Lib.hid (qblk b Xx14.out)
      replace Xx16 := Lib.hid (qblk b Xx16.out)
      replace Xx18 := Lib.hid (qblk b Xx18.out)
      replace Xx28 := Lib.hid (qblk b Xx28.out)
      replace Xx30 := Lib.hid (qblk b Xx30.out)
      clear b
      try dsimp only
      refine yK hK ?_
      clear hK K
      refine yM (.bool true) ?_
      refine yM (.bool true) ?_
      refine yM (.int .i64 EH) ?_
      refine yM (.int .i64 EH) ?_
      refine yW (.bool true) ?_ (.inl ⟨by kernel_rfl, by intro W hW; (try rw [hW]); go_simp; (try simp)⟩)
      refine yM (.bool true) ?_
      refine yM (.bool true) ?_
      refine yE ?_
      go_wp2_with fail
      go_ret
      exact ⟨rfl, BF.out⟩
end Go.Proofs.YtimmadkbkimonaaGreatDoor
namespace Go.Proofs.YtimmadkbkimonaaGreatDoor
open Go.ChangeShapes Go.WideShapes Go.ChangeAt Go.RowKit

theorem Tryz.own : ownKnob Tryz.prog.godebug = none := by kernel_rfl
theorem Tryz.laidOut : laidOutB Tryz.prog = true := by kernel_rfl

theorem below_trodAll {H : Type} {enc : TypeId × Value → H} {P : Program} (hl : laidOutB P = true) {W W' : World} (hb : Below W.heap.size W W') :
    ∀ (ts : List TypeId) {vs : List Value} {ds : List (DataW H)} {ps : List MemPlace}, ts.all (fun t => P.readableRec t && decide (t < P.types.size)) = true → (∀ x ∈ ps, x.block < W.heap.size) →
      DataW.TrodAll enc P W 0 (fun _ => true) true ts vs ds ps → DataW.TrodAll enc P W' 0 (fun b => decide (b < W.heap.size)) true ts vs ds ps
  | [], [], [], _, _, _, h => h
  | [], _ :: _, _, _, _, _, h => h.elim
  | [], [], _ :: _, _, _, _, h => h.elim
  | _ :: _, [], _, _, _, _, h => h.elim
  | _ :: _, _ :: _, [], _, _, _, h => h.elim
  | t :: ts, v :: vs, d :: ds, ps, hr, hlt, h => by
    obtain ⟨p, q, h1, h2, rfl⟩ := h
    simp only [List.all_cons, Bool.and_eq_true, decide_eq_true_eq] at hr
    exact ⟨p, q, Below.trod hl hr.1.1 hr.1.2 h1 hb (fun x hx => hlt x (List.mem_append_left _ hx)), below_trodAll hl hb ts hr.2 (fun x hx => hlt x (List.mem_append_right _ hx)) h2, rfl⟩

theorem post_of_law {H : Type} {enc : TypeId × Value → H} {P : Program} (hl : laidOutB P = true) {t : TypeId} (ht : P.underlying t = some .bool) {f : Func} {s : ChangeSpec} {W W' : World} {args : Array Value} {ds : List (DataW H)} {ps : List MemPlace}
    (hv : s.vars = []) (hf : f.resultTypes = #[t]) (hr : f.params.toList.all (fun t => P.readableRec t && decide (t < P.types.size)) = true)
    (hW : DataW.Whole enc P f.params.toList s.vars false W args.toList ds [] ps) (hA : DataW.TrodAll enc P W 0 (fun _ => true) true f.params.toList args.toList ds ps)
    (hs : s.fn H (ds ++ []) = { results := [.lit (.bool true)], args := ds }) (hb : Below W.heap.size W W') : s.post enc P f false true false false W args (.bool true) W' := by
  refine ⟨ds, [], ps, [], ps, [], hW, ?_, ?_, ?_, hb.frame _, fun h => by cases h⟩
  · rw [hs, hf]
    exact trodAll_mk1 (shut_bool ht _)
  · rw [hs]
    exact below_trodAll hl hb _ hr hW.lt hA
  · rw [hs, hv]
    rfl

end Go.Proofs.YtimmadkbkimonaaGreatDoor
namespace Go.Proofs.YtimmadkbkimonaaGreatDoor
open Go.ChangeShapes Go.WideShapes Go.ChangeAt Go.RowKit

theorem i64_of_wf {x : Int} (h : (Lit.int .i64 x).wf = true) : I64 x := by
  simp [Lit.wf, IntKind.min, IntKind.max, IntKind.signed, IntKind.bits] at h
  unfold I64
  omega
theorem Tryz.cells3 : Tryz.prog.cellsOf 3 = 1 := by kernel_rfl
theorem Tryz.cells26 : Tryz.prog.cellsOf 26 = 1 := by kernel_rfl
section
variable {H : Type} {enc : TypeId × Value → H} {W : World} {fuel : Nat}

theorem open_ri1 {cs : List Value} {y : DataW H × List MemPlace} (h : DataW.trod enc Tryz.prog W 0 (fun _ => true) true fuel 26 cs = some y) : ∃ a c l, cs = [.slice a l.length c] ∧ RdI W a l.length c l ∧ ∀ z ∈ l, I64 z := by
  rcases open_ints Tryz.underlying26 Tryz.underlying3 Tryz.cells3 h with ⟨hcs, hx⟩ | ⟨a, n, c, zs, hcs, _, hl, hm, hz, hx, hcell, hwz⟩
  · exact ⟨none, 0, [], hcs, RdA.nil _ _, fun z hz => by cases hz⟩
  · simp only [if_true] at hz
    have hlen : (zs.take n).length = n := by rw [List.length_take]; omega
    refine ⟨some a, c, zs.take n, by rw [hlen]; exact hcs, ⟨by simp, by omega, hm, ?_⟩, fun z hz => i64_of_wf (hwz z (List.mem_of_mem_take hz))⟩
    by_cases hc0 : c = 0
    · exact .inl hc0
    · obtain ⟨ab, ao, spot⟩ := a
      have hspot : spot = none := by simpa [Addr.add] using World.cell?_spot (hcell 0 (by omega))
      subst hspot
      refine .inr ⟨ab, ao, rfl, fun i x hx => ?_⟩
      rw [List.getElem?_map, List.getElem?_take] at hx
      split at hx
      · rename_i hi
        have hiz : i < zs.length := by omega
        rw [List.getElem?_eq_getElem hiz, Option.map_some] at hx
        simp only [Option.some.injEq] at hx
        subst hx
        have hc := hcell i hiz
        rw [Addr.add_lit] at hc
        rw [hc, List.getD_eq_getElem?_getD, List.getElem?_eq_getElem hiz]
        rfl
      · cases hx
end
end Go.Proofs.YtimmadkbkimonaaGreatDoor
namespace Go.Proofs.YtimmadkbkimonaaGreatDoor
set_option linter.constructorNameAsVariable false
open Go.ChangeShapes Go.WideShapes Go.ChangeAt Go.RowKit

theorem Tryz.cells28 : Tryz.prog.cellsOf 28 = 4 := by kernel_rfl
section
variable {H : Type} {enc : TypeId × Value → H} {W : World}
set_option maxRecDepth 100000 in
theorem open_face {base : Nat} {v : Value} {d : DataW H} {p : List MemPlace} (hval : Value.okWide Tryz.prog W .any base 28 v)
    (h : DataW.Trod enc Tryz.prog W 0 (fun _ => true) true 28 v d p) : ∃ (f : FaceV) (a : Option Addr) (n : Nat), v = .agg (f.cells a n) ∧ RdI W a f.kinds.length n f.kinds := by
  obtain ⟨cs, rfl, hsz⟩ := okWide_struct Tryz.underlying28 hval
  obtain ⟨fuel, hf⟩ := h
  obtain ⟨y0, y1, y2, y3, n, _, hl, g0, g1, g2, g3⟩ := Go.Joins.trod_struct4 Tryz.underlying28 hf
  rw [Tryz.cells28] at hsz
  obtain ⟨l⟩ := cs
  match l, hsz with
  | [c0, c1, c2, c3], _ =>
    have g0' : DataW.trod enc Tryz.prog W 0 (fun _ => true) true n 3 (([c0, c1, c2, c3].drop 0).take (Tryz.prog.cellsOf 3)) = some y0 := g0
    have g1' : DataW.trod enc Tryz.prog W 0 (fun _ => true) true n 3 (([c0, c1, c2, c3].drop 1).take (Tryz.prog.cellsOf 3)) = some y1 := g1
    have g2' : DataW.trod enc Tryz.prog W 0 (fun _ => true) true n 3 (([c0, c1, c2, c3].drop 2).take (Tryz.prog.cellsOf 3)) = some y2 := g2
    have g3' : DataW.trod enc Tryz.prog W 0 (fun _ => true) true n 26 (([c0, c1, c2, c3].drop 3).take (Tryz.prog.cellsOf 26)) = some y3 := g3
    rw [Tryz.cells3] at g0' g1' g2'
    rw [Tryz.cells26] at g3'
    obtain ⟨x0, a0, _, _⟩ := DataW.trod_int Tryz.underlying3 g0'
    obtain ⟨x1, a1, _, _⟩ := DataW.trod_int Tryz.underlying3 g1'
    obtain ⟨x2, a2, _, _⟩ := DataW.trod_int Tryz.underlying3 g2'
    obtain ⟨a, c, l, a3, hr, _⟩ := open_ri1 g3'
    simp at a0 a1 a2 a3
    exact ⟨⟨x0, x1, x2, l⟩, a, c, by rw [a0, a1, a2, a3]; rfl, hr⟩
end
theorem gE3 : Tryz.prog.globalNamed "strconv.ErrSyntax" = some 3 := by kernel_rfl
theorem gE4 : Tryz.prog.globalNamed "strconv.ErrRange" = some 4 := by kernel_rfl
theorem gE3t : (Tryz.prog.globals[3]?).map (·.type) = some 89 := by kernel_rfl
theorem gE4t : (Tryz.prog.globals[4]?).map (·.type) = some 89 := by kernel_rfl
theorem gstar : "*" ++ "errors.errorString" = "*errors.errorString" := by decide
theorem rowE (u : TypeId) (h : Tryz.prog.typeName? 3 u = some "*errors.errorString") : u = 212 :=
  typeName_ptr_named (nm := "errors.errorString") (by rw [gstar]; kernel_rfl) (by kernel_rfl) (by decide) u (by rw [gstar]; exact h)
theorem Tryz.cells214 : Tryz.prog.cellsOf 214 = 1 := by kernel_rfl
theorem Tryz.cells9 : Tryz.prog.cellsOf 9 = 1 := by kernel_rfl
theorem env_of {W : World} (hL : laidMetH Tryz.prog Rows.stonesCellsRow.laid W) (hs : W.ShapedOpen Tryz.prog) : EnvW W := by
  rw [MakeChecks.laidMetH_plain _ _ _ (by kernel_rfl)] at hL
  obtain ⟨a0, s0, hv0, _⟩ := laid_sentinel hL.tail.tail.tail.tail gE4 gE4t Tryz.underlying89 rowE Tryz.underlying212 Tryz.underlying214 rfl rfl Tryz.underlying9 Tryz.cells214 Tryz.cells9
  obtain ⟨a1, s1, hv1, _⟩ := laid_sentinel hL.tail.tail.tail.tail.tail gE3 gE3t Tryz.underlying89 rowE Tryz.underlying212 Tryz.underlying214 rfl rfl Tryz.underlying9 Tryz.cells214 Tryz.cells9
  refine ⟨Go.Proofs.cell_of_shapedOpen_int (zero := #[.int .i64 0]) (t := 3) hs (of_decide_eq_true (by kernel_rfl)) (by kernel_rfl) rfl (by kernel_rfl) (by kernel_rfl) Tryz.underlying3, ⟨.iface 212 (.pointer (some a1)), ?_, .inr ⟨_, _, rfl⟩⟩, ⟨.iface 212 (.pointer (some a0)), ?_, .inr ⟨_, _, rfl⟩⟩⟩
  · have h0 := World.var?_cell gE3 hv1 0
    simpa using h0
  · have h0 := World.var?_cell gE4 hv0 0
    simpa using h0
end Go.Proofs.YtimmadkbkimonaaGreatDoor
