/- Parts of the proof, in this order: period, Period, Harp, Turns of stones; Normal of stones; awake of law01; StonesHarps is true; What every row of this work shares: a law of the template 'true whatever the input' holds where its call gives true and leaves all old memory; []byte arguments opened; A note, a list of ints, out of a reading; A face out of a reading; what the library's variables hold. -/
import Derived.Test.YtmpkglokhchpiaaGreatDoorRows
import Derived.ProofKit
import Derived.OpenShut
import Derived.Lib.SmallJoins
import Derived.Stop.LaidErr
import Derived.MakeChecks
import Derived.Shelf.Vars
import Derived.Test.YtmpkglokhchpiaaGreatDoorKPsn5
set_option linter.unusedSimpArgs false
set_option linter.unusedVariables false
open List renaming getElem_toArray → lq0, getElem_cons_succ → lq1, getElem_cons_zero → lq2, setIfInBounds_toArray → lq3, set_cons_zero → lq4, set_cons_succ → lq5
namespace Go.Proofs.YtmpkglokhchpiaaGreatDoor
set_option linter.unusedSimpArgs false
set_option linter.unusedVariables false
open Go.RowKit

theorem fix_exists {f : FaceV} (h : f.valid = true) : turnF f (f.S : Nat) = f := turn_dvd h (by rw [(FaceV.nat h).2.1]; exact Int.emod_self)
theorem period_find {f : FaceV} {n : Nat} (h1 : 1 ≤ n) (h2 : n ≤ f.S) (hn : turnF f n = f) (hb : ∀ m : Nat, 1 ≤ m → m < n → turnF f m ≠ f) : periodF f = n := by
  unfold periodF
  have : ((List.range f.S).map (· + 1)).find? (fun n => decide (turnF f (n : Nat) = f)) = some n := by
    rw [List.find?_map]
    have : (List.range f.S).find? ((fun (n : Nat) => decide (turnF f (n : Nat) = f)) ∘ fun x => x + 1) = some (n - 1) := by
      rw [List.find?_range_eq_some]
      refine ⟨?_, List.mem_range.2 (by omega), fun j hj => ?_⟩
      · simp only [Function.comp]
        refine decide_eq_true ?_
        rw [show n - 1 + 1 = n by omega]
        exact hn
      · simp only [Function.comp, Bool.not_eq_true', decide_eq_false_iff_not]
        exact hb (j + 1) (by omega) (by omega)
    rw [this]
    simp
    omega
  rw [this]
  rfl
set_option maxHeartbeats 4000000 in
set_option maxRecDepth 100000 in
theorem period_any (f : FaceV) (a : Option Addr) (n : Nat) (w : World) (hv : f.valid = true) (hr : RdI w a f.kinds.length n f.kinds) :
    Calls Tryz.prog 83 #[.agg (f.cells a n)] w fun e w' => e = .returned (.int .i64 (periodF f : Nat)) ∧ Below w.heap.size w w' := by
  have HR := Lib.hid (fun W (hb : Below w.heap.size w W) => hr.below hb)
  have NV := Lib.hid (FaceV.nat hv)
  have HV := Lib.hid hv
  clear hr hv
  have AL := Lib.hid (al1 w (.cells (f.cells a n) 28))
  go_enter Tryz.func83, Tryz.ntmps83
  go_upto_region 1 with fail
  obtain ⟨p, hp⟩ : ∃ p, Hid (w.heap.size = p) := ⟨_, Lib.hid rfl⟩
  rw [hp.out] at AL ⊢
  generalize (w.alloc (.cells (f.cells a n) 28)) = W0 at *
  have BF : Hid (Below w.heap.size w W0) := Lib.hid (by rw [hp.out]; exact AL.out.1)
  have XF : Hid (W0.heap[p]? = some (.cells (f.cells a n) 28 (0, 0))) := Lib.hid AL.out.2
  clear AL
  have c0 := qcell XF.out 0 (.int .i64 f.eye) rfl
  have c1 := qcell XF.out 1 (.int .i64 f.rings) rfl
  have c2 := qcell XF.out 2 (.int .i64 f.sectors) rfl
  have c3 := qcell XF.out 3 (.slice a f.kinds.length n) rfl
  go_wp2_with (first
    | (refine wpList_load_row rfl 28 _ rfl p rfl 28 (f.cells a n) (0, 0) _ XF.out Tryz.underlying28 rfl (by exact (qJF f a n)) ?_)
    | fail)
  clear c0 c1 c2 c3
  go_loopw [3] (fun i wr => ∃ k : Nat, i = .int .i64 k ∧ 1 ≤ k ∧ Hid (k ≤ f.S) ∧ Hid (∀ m : Nat, 1 ≤ m → m < k → turnF f m ≠ f) ∧ Hid (Below w.heap.size w wr) ∧ Hid (wr.heap[p]? = some (.cells (f.cells a n) 28 (0, 0)))) (fun i _ => f.S - (intOf i).toNat)
  case atStart => exact ⟨1, rfl, Nat.le_refl _, Lib.hid (by have := NV.out; omega), Lib.hid (fun m h1 h2 => by omega), BF, XF⟩
  case round =>
    clear BF XF
    obtain ⟨k, rfl, h1, KS, MN, BF, XF⟩ := hrel
    go_upto_region 2 with fail
    have c0 := qcell XF.out 0 (.int .i64 f.eye) rfl
    have c1 := qcell XF.out 1 (.int .i64 f.rings) rfl
    have c2 := qcell XF.out 2 (.int .i64 f.sectors) rfl
    have c3 := qcell XF.out 3 (.slice a f.kinds.length n) rfl
    clear c0 c1 c2 c3
    have hd : Below wr.heap.size wr wr.drew := (Below.refl _ _).drew
    replace BF := Lib.hid (BF.out.drew)
    replace XF := Lib.hid (qblk hd XF.out)
    refine zD (fun W => Below w.heap.size w W ∧ W.heap[p]? = some (.cells (f.cells a n) 28 (0, 0))) ⟨BF.out, XF.out⟩ (fun hHeld => ?_)
    clear hd
    generalize wr.drew = V0 at *
    refine zT 0 rfl (.agg (f.cells a n)) (qyrow (by kernel_rfl) 28 _ rfl p rfl _ 28 (0, 0) _ (fun W hW => hW.2) Tryz.underlying28 rfl (by exact (qJF f a n))) ?_
    refine zW 1 rfl (.int .i64 k) ?_
    refine zT 3 rfl (.agg (f.cells a n)) (qyrow (by kernel_rfl) 28 _ rfl p rfl _ 28 (0, 0) _ (fun W hW => hW.2) Tryz.underlying28 rfl (by exact (qJF f a n))) ?_
    refine zR 2 rfl (fun K hK => ?_)
    go_simp
    refine (turned_any f a n k V0 HV.out (HR.out V0 BF.out)).mono ?_
    rintro e V1 ⟨⟨a', n', rfl, own⟩, b⟩
    have OW := Lib.hid own.rd
    clear own
    replace BF := Lib.hid (BF.out.trans (b.mono BF.out.size))
    replace XF := Lib.hid (qblk b XF.out)
    clear b
    dsimp only
    refine zK hK ⟨BF.out, XF.out⟩ (fun hHeld => ?_)
    clear hK K
    refine zR 4 rfl (fun K hK => ?_)
    go_simp
    refine (same_any (turnF f k) f a' a n' n V1 OW.out (HR.out V1 BF.out)).mono ?_
    rintro e V2 ⟨rfl, b⟩
    replace BF := Lib.hid (BF.out.trans (b.mono BF.out.size))
    replace XF := Lib.hid (qblk b XF.out)
    clear b
    dsimp only
    refine zK hK ⟨BF.out, XF.out⟩ (fun hHeld => ?_)
    clear hK K
    cases hs : sameF (turnF f k) f
    · refine zW 5 rfl (.bool true) ?_
      refine zE ?_
      have HN : Hid (turnF f k ≠ f) := Lib.hid (of_decide_eq_false hs)
      have K2 : Hid (k + 1 ≤ f.S) := Lib.hid (by
        have h1 := KS.out
        rcases Nat.lt_or_ge k f.S with h2 | h2
        · omega
        · have e : k = f.S := by omega
          exact absurd (e ▸ fix_exists HV.out) HN.out)
      have E1 : Hid (wrap64 ((k : Int) + 1) = (k : Int) + 1) := Lib.hid (by have := KS.out; have := NV.out; unfold wrap64; omega)
      clear hs OW hHeld
      have e1 := E1.out
      go_wp2_with fail
      go_roundw
      case rel =>
        refine ⟨k + 1, by first | rfl | (rw [E1.out]; rfl) | simp, by omega, K2, Lib.hid (fun m h1 h2 => ?_), BF, XF⟩
        rcases Nat.lt_or_ge m k with h3 | h3
        · exact MN.out m h1 h3
        · have e : m = k := by omega
          subst e
          exact HN.out
      case measure => clear e1; (try rw [E1.out]); have := K2.out; simp [intOf]; omega
    · refine zW 5 rfl (.bool false) ?_
      refine zE ?_
      have HN : Hid (turnF f k = f) := Lib.hid (of_decide_eq_true hs)
      clear hs hHeld
      go_wp2_with fail
      go_ret
      exact ⟨by rw [period_find h1 KS.out HN.out MN.out]; rfl, BF.out⟩
set_option maxHeartbeats 4000000 in
set_option maxRecDepth 100000 in
theorem periodP_any (f : FaceV) (a : Option Addr) (n : Nat) (w : World) (hr : RdI w a f.kinds.length n f.kinds) :
    Calls Tryz.prog 35 #[.agg (f.cells a n)] w fun e w' => e = .returned (.tuple #[.int .i64 (periodP f).1, .int .i64 (periodP f).2]) ∧ Below w.heap.size w w' := by
  have AV := Lib.hid (fun W (hb : Below w.heap.size w W) => valid2_any f a n W (hr.below hb))
  have HR := Lib.hid (fun W (hb : Below w.heap.size w W) => hr.below hb)
  clear hr
  have AL := Lib.hid (al1 w (.cells (f.cells a n) 28))
  go_enter Tryz.func35, Tryz.ntmps35
  go_upto_region 1 with fail
  obtain ⟨p, hp⟩ : ∃ p, Hid (w.heap.size = p) := ⟨_, Lib.hid rfl⟩
  rw [hp.out] at AL ⊢
  generalize (w.alloc (.cells (f.cells a n) 28)) = W0 at *
  have BF : Hid (Below w.heap.size w W0) := Lib.hid (by rw [hp.out]; exact AL.out.1)
  have XF : Hid (W0.heap[p]? = some (.cells (f.cells a n) 28 (0, 0))) := Lib.hid AL.out.2
  clear AL
  have c0 := qcell XF.out 0 (.int .i64 f.eye) rfl
  have c1 := qcell XF.out 1 (.int .i64 f.rings) rfl
  have c2 := qcell XF.out 2 (.int .i64 f.sectors) rfl
  have c3 := qcell XF.out 3 (.slice a f.kinds.length n) rfl
  go_wp2_with (first
    | (refine wpList_load_row rfl 28 _ rfl p rfl 28 (f.cells a n) (0, 0) _ XF.out Tryz.underlying28 rfl (by exact (qJF f a n)) ?_)
    | fail)
  refine (AV.out W0 BF.out).mono ?_
  rintro e V1 ⟨rfl, b⟩
  clear c0 c1 c2 c3
  replace BF := Lib.hid (BF.out.trans (b.mono BF.out.size))
  replace XF := Lib.hid (qblk b XF.out)
  clear b
  have c0 := qcell XF.out 0 (.int .i64 f.eye) rfl
  have c1 := qcell XF.out 1 (.int .i64 f.rings) rfl
  have c2 := qcell XF.out 2 (.int .i64 f.sectors) rfl
  have c3 := qcell XF.out 3 (.slice a f.kinds.length n) rfl
  cases hv : f.valid
  · go_wp2_with (first
      | (refine wpList_load_row rfl 28 _ rfl p rfl 28 (f.cells a n) (0, 0) _ XF.out Tryz.underlying28 rfl (by exact (qJF f a n)) ?_)
      | fail)
    go_ret2
    unfold periodP
    rw [hv]
    exact ⟨rfl, BF.out⟩
  · go_wp2_with (first
      | (refine wpList_load_row rfl 28 _ rfl p rfl 28 (f.cells a n) (0, 0) _ XF.out Tryz.underlying28 rfl (by exact (qJF f a n)) ?_)
      | fail)
    refine (period_any f a n V1 hv (HR.out V1 BF.out)).mono ?_
    rintro e V2 ⟨rfl, b⟩
    clear c0 c1 c2 c3
    replace BF := Lib.hid (BF.out.trans (b.mono BF.out.size))
    replace XF := Lib.hid (qblk b XF.out)
    clear b
    have c0 := qcell XF.out 0 (.int .i64 f.eye) rfl
    have c1 := qcell XF.out 1 (.int .i64 f.rings) rfl
    have c2 := qcell XF.out 2 (.int .i64 f.sectors) rfl
    have c3 := qcell XF.out 3 (.slice a f.kinds.length n) rfl
    go_wp2_with (first
      | (refine wpList_load_row rfl 28 _ rfl p rfl 28 (f.cells a n) (0, 0) _ XF.out Tryz.underlying28 rfl (by exact (qJF f a n)) ?_)
      | fail)
    go_ret2
    unfold periodP
    rw [hv]
    exact ⟨rfl, BF.out⟩
set_option maxHeartbeats 4000000 in
set_option maxRecDepth 100000 in
theorem harpP_any (f : FaceV) (a : Option Addr) (n : Nat) (w : World) (hr : RdI w a f.kinds.length n f.kinds) :
    Calls Tryz.prog 34 #[.agg (f.cells a n)] w fun e w' => (∃ a' n', e = .returned (.tuple #[.agg ((harpP f).1.cells a' n'), .int .i64 (harpP f).2]) ∧ FOwn w w' (harpP f).1 a' n') ∧ Below w.heap.size w w' := by
  have AV := Lib.hid (fun W (hb : Below w.heap.size w W) => valid2_any f a n W (hr.below hb))
  have HR := Lib.hid (fun W (hb : Below w.heap.size w W) => hr.below hb)
  clear hr
  have AL := Lib.hid (al2 w (.cells (f.cells a n) 28) (.cells #[.int .i64 0, .int .i64 0, .int .i64 0, .slice none 0 0] 28))
  go_enter Tryz.func34, Tryz.ntmps34
  go_upto_region 1 with fail
  obtain ⟨p, hp⟩ : ∃ p, Hid (w.heap.size = p) := ⟨_, Lib.hid rfl⟩
  obtain ⟨z, hz⟩ : ∃ z, Hid (w.heap.size + 1 = z) := ⟨_, Lib.hid rfl⟩
  rw [hz.out] at AL ⊢
  rw [hp.out] at AL ⊢
  generalize ((w.alloc (.cells (f.cells a n) 28)).alloc (.cells #[.int .i64 0, .int .i64 0, .int .i64 0, .slice none 0 0] 28)) = W0 at *
  have BF : Hid (Below w.heap.size w W0) := Lib.hid (by rw [hp.out]; exact AL.out.1)
  have XF : Hid (W0.heap[p]? = some (.cells (f.cells a n) 28 (0, 0))) := Lib.hid AL.out.2.1
  have XZ : Hid (W0.heap[z]? = some (.cells (zeroF.cells none 0) 28 (0, 0))) := Lib.hid AL.out.2.2
  clear AL
  have c0 := qcell XF.out 0 (.int .i64 f.eye) rfl
  have c1 := qcell XF.out 1 (.int .i64 f.rings) rfl
  have c2 := qcell XF.out 2 (.int .i64 f.sectors) rfl
  have c3 := qcell XF.out 3 (.slice a f.kinds.length n) rfl
  go_wp2_with (first
    | (refine wpList_load_row rfl 28 _ rfl p rfl 28 (f.cells a n) (0, 0) _ XF.out Tryz.underlying28 rfl (by exact (qJF f a n)) ?_)
    | (refine wpList_load_row rfl 28 _ rfl z rfl 28 (zeroF.cells none 0) (0, 0) _ XZ.out Tryz.underlying28 rfl (by exact (qJF zeroF none 0)) ?_)
    | fail)
  refine (AV.out W0 BF.out).mono ?_
  rintro e V1 ⟨rfl, b⟩
  clear c0 c1 c2 c3
  replace BF := Lib.hid (BF.out.trans (b.mono BF.out.size))
  replace XF := Lib.hid (qblk b XF.out)
  replace XZ := Lib.hid (qblk b XZ.out)
  clear b
  have c0 := qcell XF.out 0 (.int .i64 f.eye) rfl
  have c1 := qcell XF.out 1 (.int .i64 f.rings) rfl
  have c2 := qcell XF.out 2 (.int .i64 f.sectors) rfl
  have c3 := qcell XF.out 3 (.slice a f.kinds.length n) rfl
  cases hv : f.valid
  · go_wp2_with (first
      | (refine wpList_load_row rfl 28 _ rfl p rfl 28 (f.cells a n) (0, 0) _ XF.out Tryz.underlying28 rfl (by exact (qJF f a n)) ?_)
      | (refine wpList_load_row rfl 28 _ rfl z rfl 28 (zeroF.cells none 0) (0, 0) _ XZ.out Tryz.underlying28 rfl (by exact (qJF zeroF none 0)) ?_)
      | (refine wpList_qstore rfl 28 _ _ rfl z (zeroF.cells none 0) (zeroF.cells none 0) 28 rfl rfl XZ.out (by exact (qJF zeroF none 0)) rfl (qone zeroF none 0) ?_; intro VZ hzz hgz; clear c0 c1 c2 c3; replace BF := Lib.hid (qstep BF.out hgz (by have h1 := hz.out; omega)); replace XF := Lib.hid (qgrown hgz XF.out (fun e => by have h1 := hp.out; have h2 := hz.out; have := Option.some.inj e; omega)); replace XZ := Lib.hid hzz; clear hzz hgz; have c0 := qcell XF.out 0 (.int .i64 f.eye) rfl; have c1 := qcell XF.out 1 (.int .i64 f.rings) rfl; have c2 := qcell XF.out 2 (.int .i64 f.sectors) rfl; have c3 := qcell XF.out 3 (.slice a f.kinds.length n) rfl)
      | fail)
    (try simp only [Exit.inBlock, Exit.then])
    refine bodyPost_ret (results_ct rfl _ VZ z 28 (zeroF.cells none 0) (0, 0) _ rfl XZ.out Tryz.underlying28 rfl (by exact (qJF zeroF none 0))) rfl ?_
    unfold harpP
    rw [hv]
    exact ⟨⟨none, 0, rfl, FOwn.nil _ _⟩, BF.out⟩
  · have HV := Lib.hid hv
    have NV := Lib.hid (FaceV.nat hv)
    have PL := Lib.hid (period_spec hv)
    clear hv
    go_upto_region 3 with (first
      | (refine wpList_load_row rfl 28 _ rfl p rfl 28 (f.cells a n) (0, 0) _ XF.out Tryz.underlying28 rfl (by exact (qJF f a n)) ?_)
      | (refine wpList_load_row rfl 28 _ rfl z rfl 28 (zeroF.cells none 0) (0, 0) _ XZ.out Tryz.underlying28 rfl (by exact (qJF zeroF none 0)) ?_)
      | fail)
    have hz0 : Below V1.heap.size V1 V1.drew := (Below.refl _ _).drew
    replace XZ := Lib.hid (qblk hz0 XZ.out)
    clear hz0
    clear c0 c1 c2 c3
    have hd : Below V1.heap.size V1 V1.drew := (Below.refl _ _).drew
    replace BF := Lib.hid (BF.out.drew)
    replace XF := Lib.hid (qblk hd XF.out)
    refine zD (fun W => Below w.heap.size w W ∧ W.heap[p]? = some (.cells (f.cells a n) 28 (0, 0))) ⟨BF.out, XF.out⟩ (fun hHeld => ?_)
    clear hd
    generalize V1.drew = V2 at *
    refine zT 0 rfl (.agg (f.cells a n)) (qyrow (by kernel_rfl) 28 _ rfl p rfl _ 28 (0, 0) _ (fun W hW => hW.2) Tryz.underlying28 rfl (by exact (qJF f a n))) ?_
    refine zT 1 rfl (.agg (f.cells a n)) (qyrow (by kernel_rfl) 28 _ rfl p rfl _ 28 (0, 0) _ (fun W hW => hW.2) Tryz.underlying28 rfl (by exact (qJF f a n))) ?_
    refine zR 2 rfl (fun K hK => ?_)
    go_simp
    refine (period_any f a n V2 HV.out (HR.out V2 BF.out)).mono ?_
    rintro e V3 ⟨rfl, b⟩
    replace XZ := Lib.hid (qblk b XZ.out)
    replace BF := Lib.hid (BF.out.trans (b.mono BF.out.size))
    replace XF := Lib.hid (qblk b XF.out)
    clear b
    dsimp only
    refine zK hK ⟨BF.out, XF.out⟩ (fun hHeld => ?_)
    clear hK K
    have EM : Hid ((max (2 : Int) ((periodF f : Nat) : Int)) = ((max 2 (periodF f) : Nat) : Int)) := Lib.hid (by omega)
    refine zW 3 rfl (.int .i64 ((max 2 (periodF f) : Nat) : Int)) (hy := .inl ⟨by kernel_rfl, by intro W _; have em := EM.out; first | (go_simp; done) | (go_simp; omega) | (go_simp; rw [em]) | (simp [go_sem]; omega) | (unfold execOp; simp [go_sem]; omega)⟩) ?_
    refine zR 4 rfl (fun K hK => ?_)
    go_simp
    refine (mapped_any f a n (max 2 (periodF f)) (fun s => s) 84 #[] V3 HV.out (HR.out V3 BF.out) (by have := PL.out; have := NV.out; omega) (fun args w => by kernel_rfl) (fun j W hb hj => ?cl)).mono ?_
    case cl =>
      go_enter Tryz.func84, Tryz.ntmps84
      go_wp2_with fail
      go_ret
      exact ⟨rfl, Below.refl _ _⟩
    rintro e V4 ⟨a', n', rfl, own, b⟩
    have OW : Hid (FOwn w V4 (harpF f) a' n') := Lib.hid (FOwn.mono (show FOwn V3 V4 (harpF f) a' n' from own) BF.out.size)
    clear own
    have eH : mapF f (max 2 (periodF f)) (fun s => s) = harpF f := rfl
    rw [eH]
    clear eH
    replace XZ := Lib.hid (qblk b XZ.out)
    replace BF := Lib.hid (BF.out.trans (b.mono BF.out.size))
    replace XF := Lib.hid (qblk b XF.out)
    clear b
    dsimp only
    refine zK hK ⟨BF.out, XF.out⟩ (fun hHeld => ?_)
    clear hK K
    refine zR 5 rfl (fun K hK => ?_)
    rw [if_pos (by kernel_rfl)]
    refine qstore 28 _ _ rfl z (zeroF.cells none 0) ((harpF f).cells a' n') 28 rfl rfl XZ.out (by exact qJF (harpF f) a' n') rfl (qone (harpF f) a' n') ?_
    intro X h8 hg8 hs8
    replace BF := Lib.hid (qstep BF.out hg8 (by have := hz.out; omega))
    replace XF := Lib.hid (qgrown hg8 XF.out (fun e => by have h1 := hp.out; have h2 := hz.out; have := Option.some.inj e; omega))
    replace OW := Lib.hid (OW.out.kept hg8 XZ.out)
    replace XZ := Lib.hid h8
    clear h8 hg8 hs8
    refine zK hK ⟨BF.out, XF.out⟩ (fun hHeld => ?_)
    clear hK K
    refine zW 6 rfl (.int .i64 0) ?_
    refine zE ?_
    clear hHeld
    go_wp2_with fail
    (try simp only [Exit.inBlock, Exit.then])
    refine bodyPost_ret (results_ct rfl _ X z 28 ((harpF f).cells a' n') (0, 0) _ rfl XZ.out Tryz.underlying28 rfl (by exact (qJF (harpF f) a' n'))) rfl ?_
    unfold harpP
    rw [HV.out]
    exact ⟨⟨a', n', rfl, OW.out⟩, BF.out⟩
theorem turnsF_go (f g : FaceV) (k : Nat) : (List.range (k + 1)).filter (fun b => decide (turnF f (b : Nat) = g)) = (List.range k).filter (fun b => decide (turnF f (b : Nat) = g)) ++ (if turnF f (k : Nat) = g then [k] else []) := by
  rw [List.range_succ, List.filter_append]
  congr 1
  by_cases h : turnF f (k : Nat) = g
  · rw [if_pos h, List.filter_cons, if_pos (decide_eq_true h)]; rfl
  · rw [if_neg h, List.filter_cons, if_neg (by simpa using h)]; rfl
def upToT (f g : FaceV) (k : Nat) : List Int := ((List.range k).filter (fun b => decide (turnF f (b : Nat) = g))).map fun (b : Nat) => (b : Int)
theorem upToT_succ (f g : FaceV) (k : Nat) : upToT f g (k + 1) = upToT f g k ++ (if turnF f (k : Nat) = g then [(k : Int)] else []) := by
  unfold upToT
  rw [turnsF_go, List.map_append]
  congr 1
  split <;> rfl
theorem upToT_len (f g : FaceV) (k : Nat) : (upToT f g k).length ≤ k := by
  unfold upToT
  rw [List.length_map]
  refine Nat.le_trans (List.length_filter_le _ _) ?_
  rw [List.length_range]
  exact Nat.le_refl _
set_option maxHeartbeats 4000000 in
set_option maxRecDepth 100000 in
theorem turnsP_any (f g : FaceV) (a b : Option Addr) (n m : Nat) (w : World) (hr : RdI w a f.kinds.length n f.kinds) (hr2 : RdI w b g.kinds.length m g.kinds) :
    Calls Tryz.prog 37 #[.agg (f.cells a n), .agg (g.cells b m)] w fun e w' => (∃ oa oc, e = .returned (.tuple #[.slice oa (turnsP f g).1.length oc, .int .i64 (turnsP f g).2]) ∧ w'.ownsRow w.heap.size 3 1 (.slice oa (turnsP f g).1.length oc) (turnsP f g).1.length (((turnsP f g).1.map fun (b : Nat) => (b : Int)).map intV)) ∧ Below w.heap.size w w' := by
  have AV := Lib.hid (fun W (hb : Below w.heap.size w W) => valid2_any f a n W (hr.below hb))
  have AW := Lib.hid (fun W (hb : Below w.heap.size w W) => valid2_any g b m W (hr2.below hb))
  have HR := Lib.hid (fun W (hb : Below w.heap.size w W) => hr.below hb)
  have HR2 := Lib.hid (fun W (hb : Below w.heap.size w W) => hr2.below hb)
  clear hr hr2
  have AL := Lib.hid (al2 w (.cells (f.cells a n) 28) (.cells (g.cells b m) 28))
  go_enter Tryz.func37, Tryz.ntmps37
  go_upto_region 1 with fail
  obtain ⟨p, hp⟩ : ∃ p, Hid (w.heap.size = p) := ⟨_, Lib.hid rfl⟩
  obtain ⟨q, hq⟩ : ∃ q, Hid (w.heap.size + 1 = q) := ⟨_, Lib.hid rfl⟩
  rw [hq.out] at AL ⊢
  rw [hp.out] at AL ⊢
  generalize ((w.alloc (.cells (f.cells a n) 28)).alloc (.cells (g.cells b m) 28)) = W0 at *
  have BF : Hid (Below w.heap.size w W0) := Lib.hid (by rw [hp.out]; exact AL.out.1)
  have XF : Hid (W0.heap[p]? = some (.cells (f.cells a n) 28 (0, 0))) := Lib.hid AL.out.2.1
  have XG : Hid (W0.heap[q]? = some (.cells (g.cells b m) 28 (0, 0))) := Lib.hid AL.out.2.2
  clear AL
  have c0 := qcell XF.out 0 (.int .i64 f.eye) rfl
  have c1 := qcell XF.out 1 (.int .i64 f.rings) rfl
  have c2 := qcell XF.out 2 (.int .i64 f.sectors) rfl
  have c3 := qcell XF.out 3 (.slice a f.kinds.length n) rfl
  have d0 := qcell XG.out 0 (.int .i64 g.eye) rfl
  have d1 := qcell XG.out 1 (.int .i64 g.rings) rfl
  have d2 := qcell XG.out 2 (.int .i64 g.sectors) rfl
  have d3 := qcell XG.out 3 (.slice b g.kinds.length m) rfl
  go_wp2_with (first
    | (refine wpList_load_row rfl 28 _ rfl p rfl 28 (f.cells a n) (0, 0) _ XF.out Tryz.underlying28 rfl (by exact (qJF f a n)) ?_)
    | (refine wpList_load_row rfl 28 _ rfl q rfl 28 (g.cells b m) (0, 0) _ XG.out Tryz.underlying28 rfl (by exact (qJF g b m)) ?_)
    | fail)
  refine (AV.out W0 BF.out).mono ?_
  rintro e V1 ⟨rfl, b⟩
  clear c0 c1 c2 c3 d0 d1 d2 d3
  replace BF := Lib.hid (BF.out.trans (b.mono BF.out.size))
  replace XF := Lib.hid (qblk b XF.out)
  replace XG := Lib.hid (qblk b XG.out)
  clear b
  have c0 := qcell XF.out 0 (.int .i64 f.eye) rfl
  have c1 := qcell XF.out 1 (.int .i64 f.rings) rfl
  have c2 := qcell XF.out 2 (.int .i64 f.sectors) rfl
  have c3 := qcell XF.out 3 (.slice a f.kinds.length n) rfl
  have d0 := qcell XG.out 0 (.int .i64 g.eye) rfl
  have d1 := qcell XG.out 1 (.int .i64 g.rings) rfl
  have d2 := qcell XG.out 2 (.int .i64 g.sectors) rfl
  have d3 := qcell XG.out 3 (.slice b g.kinds.length m) rfl
  cases hv : f.valid
  · go_wp2_with (first
      | (refine wpList_load_row rfl 28 _ rfl p rfl 28 (f.cells a n) (0, 0) _ XF.out Tryz.underlying28 rfl (by exact (qJF f a n)) ?_)
      | (refine wpList_load_row rfl 28 _ rfl q rfl 28 (g.cells b m) (0, 0) _ XG.out Tryz.underlying28 rfl (by exact (qJF g b m)) ?_)
      | fail)
    go_ret2
    unfold turnsP
    rw [if_neg (by rw [hv]; simp)]
    exact ⟨⟨none, 0, rfl, World.ownsRow_nil _ _ _ _⟩, BF.out⟩
  · go_wp2_with (first
      | (refine wpList_load_row rfl 28 _ rfl p rfl 28 (f.cells a n) (0, 0) _ XF.out Tryz.underlying28 rfl (by exact (qJF f a n)) ?_)
      | (refine wpList_load_row rfl 28 _ rfl q rfl 28 (g.cells b m) (0, 0) _ XG.out Tryz.underlying28 rfl (by exact (qJF g b m)) ?_)
      | fail)
    refine (AW.out V1 BF.out).mono ?_
    rintro e V2 ⟨rfl, b⟩
    clear c0 c1 c2 c3 d0 d1 d2 d3
    replace BF := Lib.hid (BF.out.trans (b.mono BF.out.size))
    replace XF := Lib.hid (qblk b XF.out)
    replace XG := Lib.hid (qblk b XG.out)
    clear b
    have c0 := qcell XF.out 0 (.int .i64 f.eye) rfl
    have c1 := qcell XF.out 1 (.int .i64 f.rings) rfl
    have c2 := qcell XF.out 2 (.int .i64 f.sectors) rfl
    have c3 := qcell XF.out 3 (.slice a f.kinds.length n) rfl
    have d0 := qcell XG.out 0 (.int .i64 g.eye) rfl
    have d1 := qcell XG.out 1 (.int .i64 g.rings) rfl
    have d2 := qcell XG.out 2 (.int .i64 g.sectors) rfl
    have d3 := qcell XG.out 3 (.slice b g.kinds.length m) rfl
    cases hw : g.valid
    · go_wp2_with (first
        | (refine wpList_load_row rfl 28 _ rfl p rfl 28 (f.cells a n) (0, 0) _ XF.out Tryz.underlying28 rfl (by exact (qJF f a n)) ?_)
        | (refine wpList_load_row rfl 28 _ rfl q rfl 28 (g.cells b m) (0, 0) _ XG.out Tryz.underlying28 rfl (by exact (qJF g b m)) ?_)
        | fail)
      go_ret2
      unfold turnsP
      rw [if_neg (by rw [hw]; simp)]
      exact ⟨⟨none, 0, rfl, World.ownsRow_nil _ _ _ _⟩, BF.out⟩
    · have HV := Lib.hid hv
      have HW := Lib.hid hw
      have NV := Lib.hid (FaceV.nat hv)
      clear hv hw
      go_wp2_with (first
        | (refine wpList_load_row rfl 28 _ rfl p rfl 28 (f.cells a n) (0, 0) _ XF.out Tryz.underlying28 rfl (by exact (qJF f a n)) ?_)
        | (refine wpList_load_row rfl 28 _ rfl q rfl 28 (g.cells b m) (0, 0) _ XG.out Tryz.underlying28 rfl (by exact (qJF g b m)) ?_)
        | fail)
      clear c0 c1 c2 c3 d0 d1 d2 d3
      have eS := NV.out.2.1
      rw [eS]
      clear eS
      go_loopw [6, 18] (fun o i wr => ∃ (k : Nat) (oa : Option Addr) (oc : Nat), i = .int .i64 k ∧ o = .slice oa (upToT f g k).length oc ∧ k ≤ f.S ∧ Hid (wr.ownsRow w.heap.size 3 1 (.slice oa (upToT f g k).length oc) (upToT f g k).length ((upToT f g k).map intV)) ∧ Hid (Below w.heap.size w wr) ∧ Hid (wr.heap[p]? = some (.cells (f.cells a n) 28 (0, 0))) ∧ Hid (wr.heap[q]? = some (.cells (g.cells b m) 28 (0, 0)))) (fun _ i _ => f.S - (intOf i).toNat)
      case atStart => exact ⟨0, none, 0, rfl, rfl, Nat.zero_le _, Lib.hid (World.ownsRow_nil _ _ _ _), BF, XF, XG⟩
      case round =>
        clear BF XF XG
        obtain ⟨k, oa, oc, rfl, rfl, hk, OW, BF, XF, XG⟩ := hrel
        by_cases hkn : k < f.S
        · have t0 : decide ((k : Int) < (f.S : Int)) = true := by simp; omega
          have HK64 : Hid ((k : Int) + 1 ≤ 9223372036854775807) := Lib.hid (by have := NV.out; omega)
          have HL := Lib.hid (upToT_len f g k)
          have KS : Hid (k < 100) := Lib.hid (by have := NV.out; omega)
          go_upto_region 7 with fail
          clear t0
          have OD : Below wr.heap.size wr wr.drew := (Below.refl _ _).drew
          replace OW := Lib.hid (own_below OW.out OD)
          clear OD
          have c0 := qcell XF.out 0 (.int .i64 f.eye) rfl
          have c1 := qcell XF.out 1 (.int .i64 f.rings) rfl
          have c2 := qcell XF.out 2 (.int .i64 f.sectors) rfl
          have c3 := qcell XF.out 3 (.slice a f.kinds.length n) rfl
          have d0 := qcell XG.out 0 (.int .i64 g.eye) rfl
          have d1 := qcell XG.out 1 (.int .i64 g.rings) rfl
          have d2 := qcell XG.out 2 (.int .i64 g.sectors) rfl
          have d3 := qcell XG.out 3 (.slice b g.kinds.length m) rfl
          clear c0 c1 c2 c3 d0 d1 d2 d3
          have hd : Below wr.heap.size wr wr.drew := (Below.refl _ _).drew
          replace BF := Lib.hid (BF.out.drew)
          replace XF := Lib.hid (qblk hd XF.out)
          replace XG := Lib.hid (qblk hd XG.out)
          refine zD (fun W => Below w.heap.size w W ∧ W.heap[p]? = some (.cells (f.cells a n) 28 (0, 0)) ∧ W.heap[q]? = some (.cells (g.cells b m) 28 (0, 0))) ⟨BF.out, XF.out, XG.out⟩ (fun hHeld => ?_)
          clear hd
          generalize wr.drew = V3 at *
          refine zT 0 rfl (.agg (f.cells a n)) (qyrow (by kernel_rfl) 28 _ rfl p rfl _ 28 (0, 0) _ (fun W hW => hW.2.1) Tryz.underlying28 rfl (by exact (qJF f a n))) ?_
          refine zW 1 rfl (.int .i64 k) ?_
          refine zT 3 rfl (.agg (g.cells b m)) (qyrow (by kernel_rfl) 28 _ rfl q rfl _ 28 (0, 0) _ (fun W hW => hW.2.2) Tryz.underlying28 rfl (by exact (qJF g b m))) ?_
          refine zR 2 rfl (fun K hK => ?_)
          go_simp
          refine (turned_any f a n k V3 HV.out (HR.out V3 BF.out)).mono ?_
          rintro e V4 ⟨⟨a', n', rfl, own⟩, b2⟩
          have TW := Lib.hid own.rd
          clear own
          replace OW := Lib.hid (own_below OW.out b2)
          replace BF := Lib.hid (BF.out.trans (b2.mono BF.out.size))
          replace XF := Lib.hid (qblk b2 XF.out)
          replace XG := Lib.hid (qblk b2 XG.out)
          clear b2
          dsimp only
          refine zK hK ⟨BF.out, XF.out, XG.out⟩ (fun hHeld => ?_)
          clear hK K
          refine zR 4 rfl (fun K hK => ?_)
          go_simp
          refine (same_any (turnF f k) g a' b n' m V4 TW.out (HR2.out V4 BF.out)).mono ?_
          rintro e V5 ⟨rfl, b2⟩
          replace OW := Lib.hid (own_below OW.out b2)
          replace BF := Lib.hid (BF.out.trans (b2.mono BF.out.size))
          replace XF := Lib.hid (qblk b2 XF.out)
          replace XG := Lib.hid (qblk b2 XG.out)
          clear b2
          dsimp only
          refine zK hK ⟨BF.out, XF.out, XG.out⟩ (fun hHeld => ?_)
          clear hK K
          refine zE ?_
          clear hHeld
          have c0 := qcell XF.out 0 (.int .i64 f.eye) rfl
          have c1 := qcell XF.out 1 (.int .i64 f.rings) rfl
          have c2 := qcell XF.out 2 (.int .i64 f.sectors) rfl
          have c3 := qcell XF.out 3 (.slice a f.kinds.length n) rfl
          have d0 := qcell XG.out 0 (.int .i64 g.eye) rfl
          have d1 := qcell XG.out 1 (.int .i64 g.rings) rfl
          have d2 := qcell XG.out 2 (.int .i64 g.sectors) rfl
          have d3 := qcell XG.out 3 (.slice b g.kinds.length m) rfl
          cases hs : sameF (turnF f k) g
          · have HS : Hid (turnF f k ≠ g) := Lib.hid (of_decide_eq_false hs)
            clear hs
            have hk64 := HK64.out
            go_wp2_with (first
              | (refine wpList_load_row rfl 28 _ rfl p rfl 28 (f.cells a n) (0, 0) _ XF.out Tryz.underlying28 rfl (by exact (qJF f a n)) ?_)
              | (refine wpList_load_row rfl 28 _ rfl q rfl 28 (g.cells b m) (0, 0) _ XG.out Tryz.underlying28 rfl (by exact (qJF g b m)) ?_)
              | fail)
            go_roundw
            case rel =>
              have e : upToT f g (k + 1) = upToT f g k := by rw [upToT_succ, if_neg HS.out, List.append_nil]
              refine ⟨k + 1, oa, oc, by simp, by rw [e], by omega, ?_, BF, XF, XG⟩
              rw [e]
              exact OW
            case measure => simp [intOf]; omega
          · have HS : Hid (turnF f k = g) := Lib.hid (of_decide_eq_true hs)
            clear hs
            go_upto_region 9 with (first
              | (refine wpList_load_row rfl 28 _ rfl p rfl 28 (f.cells a n) (0, 0) _ XF.out Tryz.underlying28 rfl (by exact (qJF f a n)) ?_)
              | (refine wpList_load_row rfl 28 _ rfl q rfl 28 (g.cells b m) (0, 0) _ XG.out Tryz.underlying28 rfl (by exact (qJF g b m)) ?_)
              | (at_builtin; refine appq_ints _ rfl _ _ rfl w.heap.size _ _ _ (upToT f g k) rfl (own_below OW.out (zB V5 _)) _ _ _ [(k : Int)] rfl (lit_int V5 k) (by have := HL.out; have := KS.out; omega) (Nat.le_trans BF.out.size (zB V5 _).size) ?_; intro oa2 oc2 V6 h1 h2 h3; clear c0 c1 c2 c3 d0 d1 d2 d3; replace BF := Lib.hid (h3 _ (BF.out.trans ((zB V5 _).mono BF.out.size))); replace XF := Lib.hid (h2 _ _ (qblk (zB V5 _) XF.out) (by simp)); replace XG := Lib.hid (h2 _ _ (qblk (zB V5 _) XG.out) (by simp)); replace OW := Lib.hid h1; clear h1 h2 h3; have c0 := qcell XF.out 0 (.int .i64 f.eye) rfl; have c1 := qcell XF.out 1 (.int .i64 f.rings) rfl; have c2 := qcell XF.out 2 (.int .i64 f.sectors) rfl; have c3 := qcell XF.out 3 (.slice a f.kinds.length n) rfl; have d0 := qcell XG.out 0 (.int .i64 g.eye) rfl; have d1 := qcell XG.out 1 (.int .i64 g.rings) rfl; have d2 := qcell XG.out 2 (.int .i64 g.sectors) rfl; have d3 := qcell XG.out 3 (.slice b g.kinds.length m) rfl)
              | fail)
            have hk64 := HK64.out
            go_wp2_with (first
              | (refine wpList_load_row rfl 28 _ rfl p rfl 28 (f.cells a n) (0, 0) _ XF.out Tryz.underlying28 rfl (by exact (qJF f a n)) ?_)
              | (refine wpList_load_row rfl 28 _ rfl q rfl 28 (g.cells b m) (0, 0) _ XG.out Tryz.underlying28 rfl (by exact (qJF g b m)) ?_)
              | fail)
            go_roundw
            case rel =>
              have e : upToT f g (k + 1) = upToT f g k ++ [(k : Int)] := by rw [upToT_succ, if_pos HS.out]
              refine ⟨k + 1, oa2, oc2, by simp, by rw [e, List.length_append]; rfl, by omega, ?_, BF, XF, XG⟩
              rw [e, List.length_append]
              exact OW
            case measure => simp [intOf]; omega
        · have t0 : decide ((k : Int) < (f.S : Int)) = false := by simp; omega
          have e : k = f.S := by omega
          subst e
          have c0 := qcell XF.out 0 (.int .i64 f.eye) rfl
          have c1 := qcell XF.out 1 (.int .i64 f.rings) rfl
          have c2 := qcell XF.out 2 (.int .i64 f.sectors) rfl
          have c3 := qcell XF.out 3 (.slice a f.kinds.length n) rfl
          have d0 := qcell XG.out 0 (.int .i64 g.eye) rfl
          have d1 := qcell XG.out 1 (.int .i64 g.rings) rfl
          have d2 := qcell XG.out 2 (.int .i64 g.sectors) rfl
          have d3 := qcell XG.out 3 (.slice b g.kinds.length m) rfl
          go_wp2_with (first
            | (refine wpList_load_row rfl 28 _ rfl p rfl 28 (f.cells a n) (0, 0) _ XF.out Tryz.underlying28 rfl (by exact (qJF f a n)) ?_)
            | (refine wpList_load_row rfl 28 _ rfl q rfl 28 (g.cells b m) (0, 0) _ XG.out Tryz.underlying28 rfl (by exact (qJF g b m)) ?_)
            | fail)
          go_ret2
          unfold turnsP
          rw [if_pos ⟨HV.out, HW.out⟩]
          have e : upToT f g f.S = (turnsF f g).map fun (b : Nat) => (b : Int) := rfl
          rw [e] at OW ⊢
          exact ⟨⟨oa, oc, by rw [List.length_map]; rfl, by have := OW.out; rw [List.length_map] at this; exact this⟩, BF.out⟩
end Go.Proofs.YtmpkglokhchpiaaGreatDoor
namespace Go.Proofs.YtmpkglokhchpiaaGreatDoor
set_option linter.unusedSimpArgs false
set_option linter.unusedVariables false
open Go.RowKit

def norK (f : FaceV) (k : Nat) : FaceV := (List.range k).foldl (fun least (b : Nat) => if cmpZ (turnF f b).kinds least.kinds < 0 then turnF f b else least) f
theorem norK_succ (f : FaceV) (k : Nat) : norK f (k + 1) = if cmpZ (turnF f k).kinds (norK f k).kinds < 0 then turnF f k else norK f k := by
  unfold norK
  rw [List.range_succ, List.foldl_append]
  rfl
def KOk (W : World) (L : Nat) (a : Option Addr) (n c : Nat) (l : List Int) : Prop := RdI W a n c l ∧ ∀ b off, a = some ⟨b, off, none⟩ → b ≠ L
theorem KOk.below {W W' : World} {L : Nat} {a : Option Addr} {n c : Nat} {l : List Int} (h : KOk W L a n c l) (hb : Below W.heap.size W W') : KOk W' L a n c l := ⟨h.1.below hb, h.2⟩
theorem KOk.step {W W' : World} {L : Nat} {a : Option Addr} {n c : Nat} {l : List Int} (h : KOk W L a n c l) (hg : W.grownBy W' (some L)) : KOk W' L a n c l :=
  ⟨RdA.of_cells h.1 (fun b hb hlt => by
    obtain ⟨off, e⟩ := hb
    exact hg.block b hlt (fun e2 => h.2 b off e (Option.some.inj e2))), h.2⟩
theorem KOk.own {w W : World} {g : FaceV} {a : Option Addr} {n L : Nat} {A : Array Value} (h : FOwn w W g a n) (hL : W.heap[L]? = some (.cells A 28 (0, 0))) : KOk W L a g.kinds.length n g.kinds :=
  ⟨h.rd, fun b off e e2 => by
    have h1 := qown_no h hL (by simp)
    rw [e] at h1
    exact h1 (by rw [← e2]; rfl)⟩
set_option maxHeartbeats 4000000 in
set_option maxRecDepth 100000 in
theorem normalP_any (f : FaceV) (a : Option Addr) (n : Nat) (w : World) (hr : RdI w a f.kinds.length n f.kinds) :
    Calls Tryz.prog 36 #[.agg (f.cells a n)] w fun e w' => (∃ a' n', e = .returned (.tuple #[.agg ((normalP f).1.cells a' n'), .int .i64 (normalP f).2]) ∧ FOwn w w' (normalP f).1 a' n') ∧ Below w.heap.size w w' := by
  have AV := Lib.hid (fun W (hb : Below w.heap.size w W) => valid2_any f a n W (hr.below hb))
  have HR := Lib.hid (fun W (hb : Below w.heap.size w W) => hr.below hb)
  clear hr
  have AL := Lib.hid (al2 w (.cells (f.cells a n) 28) (.cells #[.int .i64 0, .int .i64 0, .int .i64 0, .slice none 0 0] 28))
  go_enter Tryz.func36, Tryz.ntmps36
  go_upto_region 1 with fail
  obtain ⟨p, hp⟩ : ∃ p, Hid (w.heap.size = p) := ⟨_, Lib.hid rfl⟩
  obtain ⟨z, hz⟩ : ∃ z, Hid (w.heap.size + 1 = z) := ⟨_, Lib.hid rfl⟩
  rw [hz.out] at AL ⊢
  rw [hp.out] at AL ⊢
  generalize ((w.alloc (.cells (f.cells a n) 28)).alloc (.cells #[.int .i64 0, .int .i64 0, .int .i64 0, .slice none 0 0] 28)) = W0 at *
  have BF : Hid (Below w.heap.size w W0) := Lib.hid (by rw [hp.out]; exact AL.out.1)
  have XF : Hid (W0.heap[p]? = some (.cells (f.cells a n) 28 (0, 0))) := Lib.hid AL.out.2.1
  have XZ : Hid (W0.heap[z]? = some (.cells (zeroF.cells none 0) 28 (0, 0))) := Lib.hid AL.out.2.2
  clear AL
  have c0 := qcell XF.out 0 (.int .i64 f.eye) rfl
  have c1 := qcell XF.out 1 (.int .i64 f.rings) rfl
  have c2 := qcell XF.out 2 (.int .i64 f.sectors) rfl
  have c3 := qcell XF.out 3 (.slice a f.kinds.length n) rfl
  go_wp2_with (first
    | (refine wpList_load_row rfl 28 _ rfl p rfl 28 (f.cells a n) (0, 0) _ XF.out Tryz.underlying28 rfl (by exact (qJF f a n)) ?_)
    | (refine wpList_load_row rfl 28 _ rfl z rfl 28 (zeroF.cells none 0) (0, 0) _ XZ.out Tryz.underlying28 rfl (by exact (qJF zeroF none 0)) ?_)
    | fail)
  refine (AV.out W0 BF.out).mono ?_
  rintro e V1 ⟨rfl, b⟩
  clear c0 c1 c2 c3
  replace BF := Lib.hid (BF.out.trans (b.mono BF.out.size))
  replace XF := Lib.hid (qblk b XF.out)
  replace XZ := Lib.hid (qblk b XZ.out)
  clear b
  have c0 := qcell XF.out 0 (.int .i64 f.eye) rfl
  have c1 := qcell XF.out 1 (.int .i64 f.rings) rfl
  have c2 := qcell XF.out 2 (.int .i64 f.sectors) rfl
  have c3 := qcell XF.out 3 (.slice a f.kinds.length n) rfl
  cases hv : f.valid
  · go_wp2_with (first
      | (refine wpList_load_row rfl 28 _ rfl p rfl 28 (f.cells a n) (0, 0) _ XF.out Tryz.underlying28 rfl (by exact (qJF f a n)) ?_)
      | (refine wpList_load_row rfl 28 _ rfl z rfl 28 (zeroF.cells none 0) (0, 0) _ XZ.out Tryz.underlying28 rfl (by exact (qJF zeroF none 0)) ?_)
      | (refine wpList_qstore rfl 28 _ _ rfl z (zeroF.cells none 0) (zeroF.cells none 0) 28 rfl rfl XZ.out (by exact (qJF zeroF none 0)) rfl (qone zeroF none 0) ?_; intro VZ hzz hgz; clear c0 c1 c2 c3; replace BF := Lib.hid (qstep BF.out hgz (by have h1 := hz.out; omega)); replace XF := Lib.hid (qgrown hgz XF.out (fun e => by have h1 := hp.out; have h2 := hz.out; have := Option.some.inj e; omega)); replace XZ := Lib.hid hzz; clear hzz hgz; have c0 := qcell XF.out 0 (.int .i64 f.eye) rfl; have c1 := qcell XF.out 1 (.int .i64 f.rings) rfl; have c2 := qcell XF.out 2 (.int .i64 f.sectors) rfl; have c3 := qcell XF.out 3 (.slice a f.kinds.length n) rfl)
      | fail)
    (try simp only [Exit.inBlock, Exit.then])
    refine bodyPost_ret (results_ct rfl _ VZ z 28 (zeroF.cells none 0) (0, 0) _ rfl XZ.out Tryz.underlying28 rfl (by exact (qJF zeroF none 0))) rfl ?_
    unfold normalP
    rw [hv]
    exact ⟨⟨none, 0, rfl, FOwn.nil _ _⟩, BF.out⟩
  · have HV := Lib.hid hv
    have NV := Lib.hid (FaceV.nat hv)
    clear hv
    have LZ : Hid (p < V1.heap.size ∧ z < V1.heap.size) := Lib.hid ⟨qlt XF.out, qlt XZ.out⟩
    go_upto_region 4 with (first
      | (refine wpList_load_row rfl 28 _ rfl p rfl 28 (f.cells a n) (0, 0) _ XF.out Tryz.underlying28 rfl (by exact (qJF f a n)) ?_)
      | (refine wpList_load_row rfl 28 _ rfl z rfl 28 (zeroF.cells none 0) (0, 0) _ XZ.out Tryz.underlying28 rfl (by exact (qJF zeroF none 0)) ?_)
      | (refine wpList_store_new V1 rfl 28 _ _ rfl (zeroF.cells none 0) (f.cells a n) rfl rfl (by exact qJF f a n) rfl (qone f a n) ?_)
      | fail)
    clear c0 c1 c2 c3
    have KW : Hid (∀ b off, a = some ⟨b, off, none⟩ → b < w.heap.size) := Lib.hid (fun b off e => by
      obtain ⟨b0, off0, e2, h2⟩ := (HR.out w (Below.refl _ _)).get (FaceV.kat_at (f := f) (k := 0) (by have := NV.out; have h3 := Nat.mul_pos (show 0 < f.R by omega) (show 0 < f.S by omega); omega))
      rw [e2] at e
      cases e
      exact World.block_lt_of_cell? w _ h2)
    have AL := al1 V1 (.cells (f.cells a n) 28)
    replace BF := Lib.hid (BF.out.trans (AL.1.mono BF.out.size))
    replace XF := Lib.hid (qblk AL.1 XF.out)
    replace XZ := Lib.hid (qblk AL.1 XZ.out)
    have XL := Lib.hid AL.2
    obtain ⟨L, hL⟩ : ∃ L, Hid (V1.heap.size = L) := ⟨_, Lib.hid rfl⟩
    have LG : Hid (w.heap.size ≤ L ∧ L ≠ p ∧ L ≠ z ∧ w.heap.size = p ∧ w.heap.size + 1 = z) := Lib.hid (by have h1 := qlt XF.out; have h2 := hL.out; have h3 := BF.out.size; have h4 := hp.out; have h5 := hz.out; have h6 := V1.size_alloc (.cells (f.cells a n) 28); have h7 := LZ.out; omega)
    rw [hL.out] at XL ⊢
    clear AL
    have KK := Lib.hid (show KOk (V1.alloc (.cells (f.cells a n) 28)) L a f.kinds.length n f.kinds from ⟨HR.out _ BF.out, fun b off e e2 => by have h1 := KW.out b off e; have h2 := LG.out; omega⟩)
    generalize V1.alloc (.cells (f.cells a n) 28) = V2 at *
    have c0 := qcell XF.out 0 (.int .i64 f.eye) rfl
    have c1 := qcell XF.out 1 (.int .i64 f.rings) rfl
    have c2 := qcell XF.out 2 (.int .i64 f.sectors) rfl
    have c3 := qcell XF.out 3 (.slice a f.kinds.length n) rfl
    go_wp2_with fail
    clear c0 c1 c2 c3
    have eS := NV.out.2.1
    rw [eS]
    clear eS
    go_loopw [14] (fun i wr => ∃ (k : Nat) (la : Option Addr) (ln : Nat), i = .int .i64 k ∧ k ≤ f.S ∧ Hid (KOk wr L la (norK f k).kinds.length ln (norK f k).kinds) ∧ Hid (Below w.heap.size w wr) ∧ Hid (wr.heap[p]? = some (.cells (f.cells a n) 28 (0, 0))) ∧ Hid (wr.heap[z]? = some (.cells (zeroF.cells none 0) 28 (0, 0))) ∧ Hid (wr.heap[L]? = some (.cells ((norK f k).cells la ln) 28 (0, 0)))) (fun i _ => f.S - (intOf i).toNat)
    case atStart => exact ⟨0, a, n, rfl, Nat.zero_le _, KK, BF, XF, XZ, XL⟩
    case round =>
      clear KK BF XF XZ XL
      obtain ⟨k, la, ln, rfl, hk, KK, BF, XF, XZ, XL⟩ := hrel
      by_cases hkn : k < f.S
      · have t0 : decide ((k : Int) < (f.S : Int)) = true := by simp; omega
        have HK64 : Hid ((k : Int) + 1 ≤ 9223372036854775807) := Lib.hid (by have := NV.out; omega)
        have c0 := qcell XF.out 0 (.int .i64 f.eye) rfl
        have c1 := qcell XF.out 1 (.int .i64 f.rings) rfl
        have c2 := qcell XF.out 2 (.int .i64 f.sectors) rfl
        have c3 := qcell XF.out 3 (.slice a f.kinds.length n) rfl
        have l3 := qcell XL.out 3 (.slice la (norK f k).kinds.length ln) rfl
        go_wp2_with (first
          | (refine wpList_load_row rfl 28 _ rfl p rfl 28 (f.cells a n) (0, 0) _ XF.out Tryz.underlying28 rfl (by exact (qJF f a n)) ?_)
          | (refine wpList_load_row rfl 28 _ rfl z rfl 28 (zeroF.cells none 0) (0, 0) _ XZ.out Tryz.underlying28 rfl (by exact (qJF zeroF none 0)) ?_)
          | (refine wpList_load_row rfl 28 _ rfl L rfl 28 ((norK f k).cells la ln) (0, 0) _ XL.out Tryz.underlying28 rfl (by exact (qJF (norK f k) la ln)) ?_)
          | fail)
        refine (turned_any f a n k wr HV.out (HR.out wr BF.out)).mono ?_
        rintro e V3 ⟨⟨a', n', rfl, own⟩, b⟩
        have BB := Lib.hid BF.out
        replace KK := Lib.hid (KK.out.below b)
        clear c0 c1 c2 c3 l3
        replace BF := Lib.hid (BF.out.trans (b.mono BF.out.size))
        replace XF := Lib.hid (qblk b XF.out)
        replace XZ := Lib.hid (qblk b XZ.out)
        replace XL := Lib.hid (qblk b XL.out)
        clear b
        have c0 := qcell XF.out 0 (.int .i64 f.eye) rfl
        have c1 := qcell XF.out 1 (.int .i64 f.rings) rfl
        have c2 := qcell XF.out 2 (.int .i64 f.sectors) rfl
        have c3 := qcell XF.out 3 (.slice a f.kinds.length n) rfl
        have l3 := qcell XL.out 3 (.slice la (norK f k).kinds.length ln) rfl
        have OW := Lib.hid (own.mono BB.out.size)
        clear own t0
        go_upto_region 8 with (first
          | (refine wpList_load_row rfl 28 _ rfl p rfl 28 (f.cells a n) (0, 0) _ XF.out Tryz.underlying28 rfl (by exact (qJF f a n)) ?_)
          | (refine wpList_load_row rfl 28 _ rfl z rfl 28 (zeroF.cells none 0) (0, 0) _ XZ.out Tryz.underlying28 rfl (by exact (qJF zeroF none 0)) ?_)
          | (refine wpList_load_row rfl 28 _ rfl L rfl 28 ((norK f k).cells la ln) (0, 0) _ XL.out Tryz.underlying28 rfl (by exact (qJF (norK f k) la ln)) ?_)
          | (refine wpList_store_new V3 rfl 28 _ _ rfl (zeroF.cells none 0) ((turnF f k).cells a' n') rfl rfl (by exact qJF (turnF f k) a' n') rfl (qone (turnF f k) a' n') ?_)
          | fail)
        clear c0 c1 c2 c3 l3
        have AL := al1 V3 (.cells ((turnF f k).cells a' n') 28)
        replace BF := Lib.hid (BF.out.trans (AL.1.mono BF.out.size))
        replace XF := Lib.hid (qblk AL.1 XF.out)
        replace XZ := Lib.hid (qblk AL.1 XZ.out)
        replace KK := Lib.hid (KK.out.below AL.1)
        replace OW := Lib.hid (OW.out.below AL.1)
        have GL : Hid (V3.heap.size ≠ L) := Lib.hid (by have := qlt XL.out; omega)
        replace XL := Lib.hid (qblk AL.1 XL.out)
        have XG := Lib.hid AL.2
        obtain ⟨g, hg⟩ : ∃ g, Hid (V3.heap.size = g) := ⟨_, Lib.hid rfl⟩
        rw [hg.out] at XG GL ⊢
        clear AL
        generalize V3.alloc (.cells ((turnF f k).cells a' n') 28) = V4 at *
        have c0 := qcell XF.out 0 (.int .i64 f.eye) rfl
        have c1 := qcell XF.out 1 (.int .i64 f.rings) rfl
        have c2 := qcell XF.out 2 (.int .i64 f.sectors) rfl
        have c3 := qcell XF.out 3 (.slice a f.kinds.length n) rfl
        have l3 := qcell XL.out 3 (.slice la (norK f k).kinds.length ln) rfl
        have g3 := qcell XG.out 3 (.slice a' (turnF f k).kinds.length n') rfl
        go_wp2_with (first
          | (refine wpList_load_row rfl 28 _ rfl p rfl 28 (f.cells a n) (0, 0) _ XF.out Tryz.underlying28 rfl (by exact (qJF f a n)) ?_)
          | (refine wpList_load_row rfl 28 _ rfl z rfl 28 (zeroF.cells none 0) (0, 0) _ XZ.out Tryz.underlying28 rfl (by exact (qJF zeroF none 0)) ?_)
          | (refine wpList_load_row rfl 28 _ rfl L rfl 28 ((norK f k).cells la ln) (0, 0) _ XL.out Tryz.underlying28 rfl (by exact (qJF (norK f k) la ln)) ?_)
          | (refine wpList_load_row rfl 28 _ rfl g rfl 28 ((turnF f k).cells a' n') (0, 0) _ XG.out Tryz.underlying28 rfl (by exact (qJF (turnF f k) a' n')) ?_)
          | fail)
        refine (cmpZ_any a' _ n' _ la _ ln _ V4 OW.out.rd KK.out.1).mono ?_
        rintro e V5 ⟨rfl, rfl⟩
        cases hc : decide (cmpZ (turnF f k).kinds (norK f k).kinds < 0)
        · have E : Hid (norK f (k + 1) = norK f k) := Lib.hid (by rw [norK_succ, if_neg (of_decide_eq_false hc)])
          have hk64 := HK64.out
          go_wp2_with (first
            | (refine wpList_load_row rfl 28 _ rfl p rfl 28 (f.cells a n) (0, 0) _ XF.out Tryz.underlying28 rfl (by exact (qJF f a n)) ?_)
            | (refine wpList_load_row rfl 28 _ rfl z rfl 28 (zeroF.cells none 0) (0, 0) _ XZ.out Tryz.underlying28 rfl (by exact (qJF zeroF none 0)) ?_)
            | (refine wpList_load_row rfl 28 _ rfl L rfl 28 ((norK f k).cells la ln) (0, 0) _ XL.out Tryz.underlying28 rfl (by exact (qJF (norK f k) la ln)) ?_)
            | (refine wpList_load_row rfl 28 _ rfl g rfl 28 ((turnF f k).cells a' n') (0, 0) _ XG.out Tryz.underlying28 rfl (by exact (qJF (turnF f k) a' n')) ?_)
            | fail)
          go_roundw
          case rel =>
            refine ⟨k + 1, la, ln, by simp, by omega, ?_, BF, XF, XZ, ?_⟩
            · rw [E.out]; exact KK
            · rw [E.out]; exact XL
          case measure => simp [intOf]; omega
        · have E : Hid (norK f (k + 1) = turnF f k) := Lib.hid (by rw [norK_succ, if_pos (of_decide_eq_true hc)])
          go_upto_region 10 with (first
            | (refine wpList_load_row rfl 28 _ rfl p rfl 28 (f.cells a n) (0, 0) _ XF.out Tryz.underlying28 rfl (by exact (qJF f a n)) ?_)
            | (refine wpList_load_row rfl 28 _ rfl z rfl 28 (zeroF.cells none 0) (0, 0) _ XZ.out Tryz.underlying28 rfl (by exact (qJF zeroF none 0)) ?_)
            | (refine wpList_load_row rfl 28 _ rfl L rfl 28 ((norK f k).cells la ln) (0, 0) _ XL.out Tryz.underlying28 rfl (by exact (qJF (norK f k) la ln)) ?_)
            | (refine wpList_load_row rfl 28 _ rfl g rfl 28 ((turnF f k).cells a' n') (0, 0) _ XG.out Tryz.underlying28 rfl (by exact (qJF (turnF f k) a' n')) ?_)
            | (refine wpList_qstore rfl 28 _ _ rfl L ((norK f k).cells la ln) ((turnF f k).cells a' n') 28 rfl rfl XL.out (by exact (qJF (turnF f k) a' n')) rfl (qone (turnF f k) a' n') ?_; intro V6 hzz hgz; clear c0 c1 c2 c3 l3 g3; replace BF := Lib.hid (qstep BF.out hgz (by have h1 := LG.out; omega)); replace XF := Lib.hid (qgrown hgz XF.out (fun e => by have h1 := LG.out; have := Option.some.inj e; omega)); replace XZ := Lib.hid (qgrown hgz XZ.out (fun e => by have h1 := LG.out; have := Option.some.inj e; omega)); replace XG := Lib.hid (qgrown hgz XG.out (fun e => by exact GL.out (Option.some.inj e))); replace OW := Lib.hid (OW.out.kept hgz XL.out); replace XL := Lib.hid hzz; clear hzz hgz; have c0 := qcell XF.out 0 (.int .i64 f.eye) rfl; have c1 := qcell XF.out 1 (.int .i64 f.rings) rfl; have c2 := qcell XF.out 2 (.int .i64 f.sectors) rfl; have c3 := qcell XF.out 3 (.slice a f.kinds.length n) rfl; have g3 := qcell XG.out 3 (.slice a' (turnF f k).kinds.length n') rfl)
            | fail)
          have hk64 := HK64.out
          go_wp2_with fail
          go_roundw
          case rel =>
            refine ⟨k + 1, a', n', by simp, by omega, ?_, BF, XF, XZ, ?_⟩
            · rw [E.out]; exact Lib.hid (KOk.own OW.out XL.out)
            · rw [E.out]; exact XL
          case measure => simp [intOf]; omega
      · have t0 : decide ((k : Int) < (f.S : Int)) = false := by simp; omega
        have e : k = f.S := by omega
        subst e
        have EN : Hid (norK f f.S = normalF f) := Lib.hid rfl
        rw [EN.out] at KK XL
        have NL := Lib.hid (FaceV.len_le (normal_valid HV.out))
        go_upto_region 11 with fail
        have hz0 : Below wr.heap.size wr wr.drew := (Below.refl _ _).drew
        replace XZ := Lib.hid (qblk hz0 XZ.out)
        replace KK := Lib.hid (KK.out.below hz0)
        clear hz0 XF t0
        have l3 := qcell XL.out 3 (.slice la (normalF f).kinds.length ln) rfl
        clear l3
        have hd : Below wr.heap.size wr wr.drew := (Below.refl _ _).drew
        replace BF := Lib.hid (BF.out.drew)
        replace XL := Lib.hid (qblk hd XL.out)
        refine zD (fun W => Below w.heap.size w W ∧ W.heap[L]? = some (.cells ((normalF f).cells la ln) 28 (0, 0))) ⟨BF.out, XL.out⟩ (fun hHeld => ?_)
        clear hd
        generalize wr.drew = V3 at *
        refine zT 0 rfl (.agg ((normalF f).cells la ln)) (qyrow (by kernel_rfl) 28 _ rfl L rfl _ 28 (0, 0) _ (fun W hW => hW.2) Tryz.underlying28 rfl (by exact (qJF (normalF f) la ln))) ?_
        refine zW 1 rfl (.pointer (some ⟨L, 3, none⟩)) ?_
        refine zS 2 rfl (.slice la (normalF f).kinds.length ln) (fun W hW => by have c := qcell hW.2 3 (.slice la (normalF f).kinds.length ln) rfl; go_simp) ?_
        refine zR 3 rfl (fun K hK => ?_)
        go_simp
        refine (cloneZ_any la (normalF f).kinds.length ln (normalF f).kinds V3 (by have := NL.out; omega) KK.out.1).mono ?_
        rintro e V4 ⟨a', n', rfl, own, b⟩
        have OW := Lib.hid (own_mono own BF.out.size)
        clear own
        replace XZ := Lib.hid (qblk b XZ.out)
        replace BF := Lib.hid (BF.out.trans (b.mono BF.out.size))
        replace XL := Lib.hid (qblk b XL.out)
        clear b
        dsimp only
        refine zK hK ⟨BF.out, XL.out⟩ (fun hHeld => ?_)
        clear hK K
        refine zR 4 rfl (fun K hK => ?_)
        go_simp
        refine (with_any (normalF f) la ln (normalF f).kinds a' (normalF f).kinds.length n' V4 rfl).mono ?_
        rintro e V5 ⟨rfl, b⟩
        replace XZ := Lib.hid (qblk b XZ.out)
        replace OW := Lib.hid (own_below OW.out b)
        replace BF := Lib.hid (BF.out.trans (b.mono BF.out.size))
        replace XL := Lib.hid (qblk b XL.out)
        clear b
        dsimp only
        refine zK hK ⟨BF.out, XL.out⟩ (fun hHeld => ?_)
        clear hK K
        have eW : withF (normalF f) (normalF f).kinds = normalF f := rfl
        rw [eW]
        clear eW
        refine zR 5 rfl (fun K hK => ?_)
        rw [if_pos (by kernel_rfl)]
        refine qstore 28 _ _ rfl z (zeroF.cells none 0) ((normalF f).cells a' n') 28 rfl rfl XZ.out (by exact qJF (normalF f) a' n') rfl (qone (normalF f) a' n') ?_
        intro X h8 hg8 hs8
        replace BF := Lib.hid (qstep BF.out hg8 (by have := LG.out; omega))
        replace XL := Lib.hid (qgrown hg8 XL.out (fun e => by have h1 := LG.out; have := Option.some.inj e; omega))
        have OW2 : Hid (FOwn w X (normalF f) a' n') := Lib.hid (FOwn.kept OW.out hg8 XZ.out)
        replace XZ := Lib.hid h8
        clear h8 hg8 hs8
        refine zK hK ⟨BF.out, XL.out⟩ (fun hHeld => ?_)
        clear hK K
        refine zW 6 rfl (.int .i64 0) ?_
        refine zE ?_
        clear hHeld
        go_wp2_with fail
        (try simp only [Exit.inBlock, Exit.then])
        refine bodyPost_ret (results_ct rfl _ X z 28 ((normalF f).cells a' n') (0, 0) _ rfl XZ.out Tryz.underlying28 rfl (by exact (qJF (normalF f) a' n'))) rfl ?_
        unfold normalP
        rw [HV.out]
        exact ⟨⟨a', n', rfl, OW2.out⟩, BF.out⟩
end Go.Proofs.YtmpkglokhchpiaaGreatDoor
namespace Go.Proofs.YtmpkglokhchpiaaGreatDoor
set_option linter.unusedSimpArgs false
set_option linter.unusedVariables false
open Go.RowKit

theorem lit_ints (W : World) (l : List Int) (h : l.length ≤ 1000000) : RdI (W.alloc (.cells (l.map intV).toArray 3)) (some ⟨W.heap.size, 0, none⟩) l.length l.length l := by
  have := RdA.of_own (World.ownsRow_lit (base := W.heap.size) (e := 3) (size := 1) W (l.map intV).toArray l.length (Nat.le_refl _) (by unfold maxLen; omega) (by simp))
  exact this
theorem lit_fur (W : World) (x : FurV) : RdFu (W.alloc (.cells (furA x) 67)) (some ⟨W.heap.size, 0, none⟩) 1 1 [x] :=
  RdA.of_own (World.ownsRow_lit (base := W.heap.size) (e := 67) (size := 6) W (furA x) 1 (Nat.le_refl _) (by unfold maxLen; omega) rfl)
theorem lit_lists (W : World) (a b : Addr) (l m : List Int) (h1 : RdI W (some a) l.length l.length l) (h2 : RdI W (some b) m.length m.length m) : RdLL (W.alloc (.cells #[.slice (some a) l.length l.length, .slice (some b) m.length m.length] 26)) (some ⟨W.heap.size, 0, none⟩) 2 2 [l, m] := by
  have AL := al1 W (.cells #[.slice (some a) l.length l.length, .slice (some b) m.length m.length] 26)
  refine ⟨rfl, Nat.le_refl _, by unfold maxLen; omega, fun j x hj => ?_⟩
  match j, hj with
  | 0, hj => cases hj; exact ⟨W.heap.size, 0, some a, l.length, rfl, qcell AL.2 0 _ rfl, h1.below AL.1⟩
  | 1, hj => cases hj; exact ⟨W.heap.size, 0, some b, m.length, rfl, qcell AL.2 1 _ rfl, h2.below AL.1⟩
  | j + 2, hj => simp at hj
theorem sameInts2_any (a : Option Addr) (n c : Nat) (l : List Int) (a' : Option Addr) (n' c' : Nat) (l' : List Int) (w : World) (hr : RdI w a n c l) (hr' : RdI w a' n' c' l') :
    Calls Tryz.prog 51 #[.slice a n c, .slice a' n' c'] w fun e w' => e = .returned (.bool (decide (l = l'))) ∧ Below w.heap.size w w' := by
  refine (sameInts_any a n c l a' n' c' l' w hr hr').mono ?_
  rintro e V ⟨rfl, q, rfl⟩
  exact ⟨rfl, rfl, rfl, rfl, Nat.le_refl _, fun _ _ => rfl⟩
theorem smp_cut : Lib.cut [102, 97, 99, 101, 32, 49, 32, 50, 32, 48, 52, 10] [10] = ([102, 97, 99, 101, 32, 49, 32, 50, 32, 48, 52], [], true) := by decide +kernel
theorem smp_hdr : (hdrF ⟨#[102, 97, 99, 101, 32, 49, 32, 50, 32, 48, 52]⟩).2 = false := by decide +kernel
set_option maxHeartbeats 4000000 in
set_option maxRecDepth 100000 in
theorem awake_any (w : World) (he : EnvW w) : Calls Tryz.prog 15 #[] w fun e w' => e = .returned (.bool true) ∧ Below w.heap.size w w' := by
  have EV := Lib.hid (fun W (hb : Below w.heap.size w W) => he.below hb)
  clear he
  have BF := Lib.hid (Below.refl w.heap.size w)
  go_enter Tryz.func15, Tryz.ntmps15
  go_upto_region 1 with fail
  refine yB ?_
  refine yR (fun K hK => ?_)
  go_simp
  refine (sample_any _).mono ?_
  rintro e U1 ⟨⟨aS1, nS1, rfl, own⟩, b⟩
  have S1 := Lib.hid own.rd
  clear own
  replace BF := Lib.hid (BF.out.trans (b.mono BF.out.size))
  clear b
  try dsimp only
  refine yK hK ?_
  clear hK K
  refine yR (fun K hK => ?_)
  go_simp
  refine (areaP_any sampleF aS1 nS1 0 _ S1.out).mono ?_
  rintro e U2 ⟨rfl, b⟩
  rw [smp_area]
  replace BF := Lib.hid (BF.out.trans (b.mono BF.out.size))
  replace S1 := Lib.hid (S1.out.below b)
  clear b
  try dsimp only
  refine yK hK ?_
  clear hK K
  refine yM (.tuple #[.int .i64 19, .int .i64 0]) ?_
  refine yM (.int .i64 19) ?_
  refine yM (.int .i64 0) ?_
  refine yM (.int .i64 19) ?_
  refine yM (.int .i64 0) ?_
  refine yE ?_
  clear S1
  go_upto_region 2 with fail
  refine yB ?_
  refine yR (fun K hK => ?_)
  go_simp
  refine (sample_any _).mono ?_
  rintro e U3 ⟨⟨aS2, nS2, rfl, own⟩, b⟩
  have S2 := Lib.hid own.rd
  clear own
  replace BF := Lib.hid (BF.out.trans (b.mono BF.out.size))
  clear b
  try dsimp only
  refine yK hK ?_
  clear hK K
  refine yR (fun K hK => ?_)
  go_simp
  refine (regionsP_any sampleF aS2 nS2 _ S2.out).mono ?_
  rintro e U4 ⟨⟨oa, oc, rfl, ll⟩, b⟩
  have LL := Lib.hid ll
  clear ll
  rw [show (regionsP sampleF).2 = 0 by rw [smp_regions]]
  replace BF := Lib.hid (BF.out.trans (b.mono BF.out.size))
  replace S2 := Lib.hid (S2.out.below b)
  clear b
  obtain ⟨rl, hrl⟩ : ∃ x, Hid ((regionsP sampleF).1.length = x) := ⟨_, Lib.hid rfl⟩
  rw [hrl.out] at LL ⊢
  try dsimp only
  refine yK hK ?_
  clear hK K
  refine yM (.tuple #[.slice oa rl oc, .int .i64 0]) ?_
  refine yM (.slice oa rl oc) ?_
  refine yM (.int .i64 0) ?_
  refine yM (.slice oa rl oc) ?_
  refine yM (.int .i64 0) ?_
  refine yE ?_
  clear S2
  go_upto_region 3 with fail
  refine yB ?_
  refine yR (fun K hK => ?_)
  go_simp
  refine (sample_any _).mono ?_
  rintro e U5 ⟨⟨aS3, nS3, rfl, own⟩, b⟩
  have S3 := Lib.hid own.rd
  clear own
  replace BF := Lib.hid (BF.out.trans (b.mono BF.out.size))
  replace LL := Lib.hid (LL.out.below b)
  clear b
  try dsimp only
  refine yK hK ?_
  clear hK K
  refine yR (fun K hK => ?_)
  go_simp
  refine (turnP_any sampleF aS3 nS3 1 _ S3.out).mono ?_
  rintro e U6 ⟨⟨bA, mA, rfl, own⟩, b⟩
  have RA := Lib.hid own.rd
  clear own
  rw [show (turnP sampleF 1).2 = 0 by rw [smp_turn]]
  replace BF := Lib.hid (BF.out.trans (b.mono BF.out.size))
  replace LL := Lib.hid (LL.out.below b)
  replace S3 := Lib.hid (S3.out.below b)
  clear b
  obtain ⟨TA, hTA⟩ : ∃ T, Hid ((turnP sampleF 1).1 = T) := ⟨_, Lib.hid rfl⟩
  rw [hTA.out] at RA ⊢
  try dsimp only
  refine yK hK ?_
  clear hK K
  refine yM (.tuple #[.agg (TA.cells bA mA), .int .i64 0]) ?_
  refine yM (.agg (TA.cells bA mA)) ?_
  refine yM (.int .i64 0) ?_
  refine yR (fun K hK => ?_)
  refine qbuild (w' := U6.alloc (.cells #[.int .i64 0, .int .i64 0, .int .i64 0, .slice none 0 0] 28)) (.pointer (some ⟨U6.heap.size, 0, none⟩)) (by kernel_rfl) ?_
  obtain ⟨x5, hx5⟩ : ∃ x, Hid (U6.heap.size = x) := ⟨_, Lib.hid rfl⟩
  have AL := Lib.hid (al1 U6 (.cells #[.int .i64 0, .int .i64 0, .int .i64 0, .slice none 0 0] 28))
  rw [hx5.out] at AL ⊢
  refine yK hK ?_
  clear hK K
  refine yR (fun K hK => ?_)
  refine qstore 28 _ _ rfl x5 #[.int .i64 0, .int .i64 0, .int .i64 0, .slice none 0 0] (TA.cells bA mA) 28 rfl rfl AL.out.2 (by exact qJF TA bA mA) rfl (qone TA bA mA) ?_
  intro U7 h8 hg8 hs8
  have b : Below U6.heap.size U6 U7 := qstep (by have h1 := AL.out.1; rw [← hx5.out] at h1; exact h1) hg8 (Nat.le_of_eq hx5.out)
  replace BF := Lib.hid (BF.out.trans (b.mono BF.out.size))
  replace LL := Lib.hid (LL.out.below b)
  replace S3 := Lib.hid (S3.out.below b)
  replace RA := Lib.hid (RA.out.below b)
  clear b
  have XA := Lib.hid h8
  clear h8 hg8 hs8 AL
  refine yK hK ?_
  clear hK K
  refine yM (.int .i64 0) ?_
  refine yE ?_
  clear S3
  go_upto_region 4 with fail
  refine yB ?_
  refine yR (fun K hK => ?_)
  go_simp
  refine (sample_any _).mono ?_
  rintro e U8 ⟨⟨aS4, nS4, rfl, own⟩, b⟩
  have S4 := Lib.hid own.rd
  clear own
  replace BF := Lib.hid (BF.out.trans (b.mono BF.out.size))
  replace LL := Lib.hid (LL.out.below b)
  replace RA := Lib.hid (RA.out.below b)
  replace XA := Lib.hid (qblk b XA.out)
  clear b
  try dsimp only
  refine yK hK ?_
  clear hK K
  refine yR (fun K hK => ?_)
  go_simp
  refine (normalP_any sampleF aS4 nS4 _ S4.out).mono ?_
  rintro e U9 ⟨⟨bB, mB, rfl, own⟩, b⟩
  have RB := Lib.hid own.rd
  clear own
  rw [show (normalP sampleF).2 = 0 by rw [smp_normal]]
  replace BF := Lib.hid (BF.out.trans (b.mono BF.out.size))
  replace LL := Lib.hid (LL.out.below b)
  replace RA := Lib.hid (RA.out.below b)
  replace S4 := Lib.hid (S4.out.below b)
  replace XA := Lib.hid (qblk b XA.out)
  clear b
  obtain ⟨TB, hTB⟩ : ∃ T, Hid ((normalP sampleF).1 = T) := ⟨_, Lib.hid rfl⟩
  rw [hTB.out] at RB ⊢
  try dsimp only
  refine yK hK ?_
  clear hK K
  refine yM (.tuple #[.agg (TB.cells bB mB), .int .i64 0]) ?_
  refine yM (.agg (TB.cells bB mB)) ?_
  refine yM (.int .i64 0) ?_
  refine yR (fun K hK => ?_)
  refine qbuild (w' := U9.alloc (.cells #[.int .i64 0, .int .i64 0, .int .i64 0, .slice none 0 0] 28)) (.pointer (some ⟨U9.heap.size, 0, none⟩)) (by kernel_rfl) ?_
  obtain ⟨x7, hx7⟩ : ∃ x, Hid (U9.heap.size = x) := ⟨_, Lib.hid rfl⟩
  have AL := Lib.hid (al1 U9 (.cells #[.int .i64 0, .int .i64 0, .int .i64 0, .slice none 0 0] 28))
  rw [hx7.out] at AL ⊢
  refine yK hK ?_
  clear hK K
  refine yR (fun K hK => ?_)
  refine qstore 28 _ _ rfl x7 #[.int .i64 0, .int .i64 0, .int .i64 0, .slice none 0 0] (TB.cells bB mB) 28 rfl rfl AL.out.2 (by exact qJF TB bB mB) rfl (qone TB bB mB) ?_
  intro U10 h8 hg8 hs8
  have b : Below U9.heap.size U9 U10 := qstep (by have h1 := AL.out.1; rw [← hx7.out] at h1; exact h1) hg8 (Nat.le_of_eq hx7.out)
  replace BF := Lib.hid (BF.out.trans (b.mono BF.out.size))
  replace LL := Lib.hid (LL.out.below b)
  replace RA := Lib.hid (RA.out.below b)
  replace S4 := Lib.hid (S4.out.below b)
  replace RB := Lib.hid (RB.out.below b)
  replace XA := Lib.hid (qblk b XA.out)
  clear b
  have XB := Lib.hid h8
  clear h8 hg8 hs8 AL
  refine yK hK ?_
  clear hK K
  refine yM (.int .i64 0) ?_
  refine yE ?_
  clear S4
  go_upto_region 5 with fail
  refine yB ?_
  refine yW (.agg #[.int .i64 0, .int .i64 1, .int .i64 1, .int .i64 1, .int .i64 1, .int .i64 0]) ?_ (.inl ⟨by kernel_rfl, by intro W hW; kernel_rfl⟩)
  refine yR (fun K hK => ?_)
  refine qbuild (w' := U10.alloc (.cells #[.int .i64 0, .int .i64 1, .int .i64 1, .int .i64 1, .int .i64 1, .int .i64 0] 67)) (.slice (some ⟨U10.heap.size, 0, none⟩) 1 1) (by kernel_rfl) ?_
  have LI := lit_fur U10 ⟨0, 1, 1, 1, 1, 0⟩
  have b := zB U10 (.cells #[.int .i64 0, .int .i64 1, .int .i64 1, .int .i64 1, .int .i64 1, .int .i64 0] 67)
  have RF : Hid (RdFu (U10.alloc (.cells #[.int .i64 0, .int .i64 1, .int .i64 1, .int .i64 1, .int .i64 1, .int .i64 0] 67)) (some ⟨U10.heap.size, 0, none⟩) sampleP.furs.length 1 sampleP.furs) := Lib.hid LI
  clear LI
  replace BF := Lib.hid (BF.out.trans (b.mono BF.out.size))
  replace LL := Lib.hid (LL.out.below b)
  replace RA := Lib.hid (RA.out.below b)
  replace RB := Lib.hid (RB.out.below b)
  replace XA := Lib.hid (qblk b XA.out)
  replace XB := Lib.hid (qblk b XB.out)
  clear b
  obtain ⟨fb, hfb⟩ : ∃ x, Hid (U10.heap.size = x) := ⟨_, Lib.hid rfl⟩
  rw [hfb.out] at RF ⊢
  generalize U10.alloc (.cells #[.int .i64 0, .int .i64 1, .int .i64 1, .int .i64 1, .int .i64 1, .int .i64 0] 67) = U11 at *
  refine yK hK ?_
  clear hK K
  refine yW (.agg (patA sampleP (some ⟨fb, 0, none⟩) 1)) ?_ (.inl ⟨by kernel_rfl, by intro W hW; kernel_rfl⟩)
  refine yR (fun K hK => ?_)
  go_simp
  refine (dressP_any sampleP (some ⟨fb, 0, none⟩) 1 _ RF.out).mono ?_
  rintro e U12 ⟨⟨bD, mD, rfl, own⟩, b⟩
  have RD := Lib.hid own.rd
  clear own
  rw [show (dressP sampleP).2 = 0 by rw [smp_dress]]
  replace BF := Lib.hid (BF.out.trans (b.mono BF.out.size))
  replace LL := Lib.hid (LL.out.below b)
  replace RA := Lib.hid (RA.out.below b)
  replace RB := Lib.hid (RB.out.below b)
  replace RF := Lib.hid (RF.out.below b)
  replace XA := Lib.hid (qblk b XA.out)
  replace XB := Lib.hid (qblk b XB.out)
  clear b
  obtain ⟨TD, hTD⟩ : ∃ T, Hid ((dressP sampleP).1 = T) := ⟨_, Lib.hid rfl⟩
  rw [hTD.out] at RD ⊢
  try dsimp only
  refine yK hK ?_
  clear hK K
  refine yM (.tuple #[.agg (TD.cells bD mD), .int .i64 0]) ?_
  refine yM (.agg (TD.cells bD mD)) ?_
  refine yM (.int .i64 0) ?_
  refine yR (fun K hK => ?_)
  refine qbuild (w' := U12.alloc (.cells #[.int .i64 0, .int .i64 0, .int .i64 0, .slice none 0 0] 28)) (.pointer (some ⟨U12.heap.size, 0, none⟩)) (by kernel_rfl) ?_
  obtain ⟨x9, hx9⟩ : ∃ x, Hid (U12.heap.size = x) := ⟨_, Lib.hid rfl⟩
  have AL := Lib.hid (al1 U12 (.cells #[.int .i64 0, .int .i64 0, .int .i64 0, .slice none 0 0] 28))
  rw [hx9.out] at AL ⊢
  refine yK hK ?_
  clear hK K
  refine yR (fun K hK => ?_)
  refine qstore 28 _ _ rfl x9 #[.int .i64 0, .int .i64 0, .int .i64 0, .slice none 0 0] (TD.cells bD mD) 28 rfl rfl AL.out.2 (by exact qJF TD bD mD) rfl (qone TD bD mD) ?_
  intro U13 h8 hg8 hs8
  have b : Below U12.heap.size U12 U13 := qstep (by have h1 := AL.out.1; rw [← hx9.out] at h1; exact h1) hg8 (Nat.le_of_eq hx9.out)
  replace BF := Lib.hid (BF.out.trans (b.mono BF.out.size))
  replace LL := Lib.hid (LL.out.below b)
  replace RA := Lib.hid (RA.out.below b)
  replace RB := Lib.hid (RB.out.below b)
  replace RF := Lib.hid (RF.out.below b)
  replace RD := Lib.hid (RD.out.below b)
  replace XA := Lib.hid (qblk b XA.out)
  replace XB := Lib.hid (qblk b XB.out)
  clear b
  have XD := Lib.hid h8
  clear h8 hg8 hs8 AL
  refine yK hK ?_
  clear hK K
  refine yM (.int .i64 0) ?_
  refine yE ?_
  clear RF
  go_upto_region 6 with fail
  refine yB ?_
  refine yR (fun K hK => ?_)
  go_simp
  refine (parseX_any ⟨#[102, 97, 99, 101, 32, 49, 32, 50, 32, 48, 52, 10]⟩ ⟨#[102, 97, 99, 101, 32, 49, 32, 50, 32, 48, 52]⟩ ⟨#[]⟩ true _ (by decide) (EV.out _ BF.out) (by decide) smp_cut ⟨by decide, by decide, smp_hdr⟩).mono ?_
  rintro e U14 ⟨rfl, b⟩
  replace BF := Lib.hid (BF.out.trans (b.mono BF.out.size))
  replace LL := Lib.hid (LL.out.below b)
  replace RA := Lib.hid (RA.out.below b)
  replace RB := Lib.hid (RB.out.below b)
  replace RD := Lib.hid (RD.out.below b)
  replace XA := Lib.hid (qblk b XA.out)
  replace XB := Lib.hid (qblk b XB.out)
  replace XD := Lib.hid (qblk b XD.out)
  clear b
  try dsimp only
  refine yK hK ?_
  clear hK K
  refine yM (.tuple #[.agg (zeroF.cells none 0), .int .i64 11, .int .i64 1]) ?_
  refine yM (.agg (zeroF.cells none 0)) ?_
  refine yM (.int .i64 11) ?_
  refine yM (.int .i64 1) ?_
  refine yR (fun K hK => ?_)
  refine qbuild (w' := U14.alloc (.cells #[.int .i64 0, .int .i64 0, .int .i64 0, .slice none 0 0] 28)) (.pointer (some ⟨U14.heap.size, 0, none⟩)) (by kernel_rfl) ?_
  obtain ⟨x11, hx11⟩ : ∃ x, Hid (U14.heap.size = x) := ⟨_, Lib.hid rfl⟩
  have AL := Lib.hid (al1 U14 (.cells #[.int .i64 0, .int .i64 0, .int .i64 0, .slice none 0 0] 28))
  rw [hx11.out] at AL ⊢
  refine yK hK ?_
  clear hK K
  refine yR (fun K hK => ?_)
  refine qstore 28 _ _ rfl x11 #[.int .i64 0, .int .i64 0, .int .i64 0, .slice none 0 0] (zeroF.cells none 0) 28 rfl rfl AL.out.2 (by exact qJF zeroF none 0) rfl (qone zeroF none 0) ?_
  intro U15 h8 hg8 hs8
  have b : Below U14.heap.size U14 U15 := qstep (by have h1 := AL.out.1; rw [← hx11.out] at h1; exact h1) hg8 (Nat.le_of_eq hx11.out)
  replace BF := Lib.hid (BF.out.trans (b.mono BF.out.size))
  replace LL := Lib.hid (LL.out.below b)
  replace RA := Lib.hid (RA.out.below b)
  replace RB := Lib.hid (RB.out.below b)
  replace RD := Lib.hid (RD.out.below b)
  replace XA := Lib.hid (qblk b XA.out)
  replace XB := Lib.hid (qblk b XB.out)
  replace XD := Lib.hid (qblk b XD.out)
  clear b
  clear h8 hg8 hs8 AL
  refine yK hK ?_
  clear hK K
  refine yM (.int .i64 11) ?_
  refine yM (.int .i64 1) ?_
  refine yE ?_
  go_upto_region 7 with fail
  refine yB ?_
  refine yM (.int .i64 0) ?_
  refine yW (.bool false) ?_
  refine yM (.bool false) ?_
  refine yM (.int .i64 0) ?_
  refine yW (.bool false) ?_
  refine yM (.bool false) ?_
  refine yM (.bool false) ?_
  refine yM (.int .i64 0) ?_
  refine yW (.bool false) ?_
  refine yM (.bool false) ?_
  refine yM (.bool false) ?_
  refine yM (.int .i64 0) ?_
  refine yW (.bool false) ?_
  refine yM (.bool false) ?_
  refine yM (.bool false) ?_
  refine yM (.int .i64 0) ?_
  refine yW (.bool false) ?_
  refine yM (.bool false) ?_
  refine yM (.bool false) ?_
  refine yM (.int .i64 11) ?_
  refine yW (.bool false) ?_
  refine yM (.bool false) ?_
  refine yM (.bool false) ?_
  refine yM (.int .i64 1) ?_
  refine yW (.bool false) ?_
  refine yM (.bool false) ?_
  refine yM (.bool false) ?_
  refine yM (.int .i64 19) ?_
  refine yW (.bool false) ?_
  refine yM (.bool false) ?_
  refine yE ?_
  go_upto_region 9 with fail
  refine yB ?_
  refine yM (.slice oa rl oc) ?_
  refine yR (fun K hK => ?_)
  refine qbuild (w' := U15.alloc (.cells #[.int .i64 0, .int .i64 2, .int .i64 3, .int .i64 4, .int .i64 7] 3)) (.slice (some ⟨U15.heap.size, 0, none⟩) 5 5) (by kernel_rfl) ?_
  have LI := lit_ints U15 [0, 2, 3, 4, 7] (by decide)
  have b := zB U15 (.cells #[.int .i64 0, .int .i64 2, .int .i64 3, .int .i64 4, .int .i64 7] 3)
  have K1 : Hid (RdI (U15.alloc (.cells #[.int .i64 0, .int .i64 2, .int .i64 3, .int .i64 4, .int .i64 7] 3)) (some ⟨U15.heap.size, 0, none⟩) 5 5 [0, 2, 3, 4, 7]) := Lib.hid LI
  clear LI
  replace BF := Lib.hid (BF.out.trans (b.mono BF.out.size))
  replace LL := Lib.hid (LL.out.below b)
  replace RA := Lib.hid (RA.out.below b)
  replace RB := Lib.hid (RB.out.below b)
  replace RD := Lib.hid (RD.out.below b)
  replace XA := Lib.hid (qblk b XA.out)
  replace XB := Lib.hid (qblk b XB.out)
  replace XD := Lib.hid (qblk b XD.out)
  clear b
  obtain ⟨gK1, hgK1⟩ : ∃ x, Hid (U15.heap.size = x) := ⟨_, Lib.hid rfl⟩
  rw [hgK1.out] at K1 ⊢
  generalize U15.alloc (.cells #[.int .i64 0, .int .i64 2, .int .i64 3, .int .i64 4, .int .i64 7] 3) = U16 at *
  refine yK hK ?_
  clear hK K
  refine yR (fun K hK => ?_)
  refine qbuild (w' := U16.alloc (.cells #[.int .i64 1, .int .i64 5, .int .i64 6] 3)) (.slice (some ⟨U16.heap.size, 0, none⟩) 3 3) (by kernel_rfl) ?_
  have LI := lit_ints U16 [1, 5, 6] (by decide)
  have b := zB U16 (.cells #[.int .i64 1, .int .i64 5, .int .i64 6] 3)
  have K2 : Hid (RdI (U16.alloc (.cells #[.int .i64 1, .int .i64 5, .int .i64 6] 3)) (some ⟨U16.heap.size, 0, none⟩) 3 3 [1, 5, 6]) := Lib.hid LI
  clear LI
  replace BF := Lib.hid (BF.out.trans (b.mono BF.out.size))
  replace LL := Lib.hid (LL.out.below b)
  replace RA := Lib.hid (RA.out.below b)
  replace RB := Lib.hid (RB.out.below b)
  replace RD := Lib.hid (RD.out.below b)
  replace K1 := Lib.hid (K1.out.below b)
  replace XA := Lib.hid (qblk b XA.out)
  replace XB := Lib.hid (qblk b XB.out)
  replace XD := Lib.hid (qblk b XD.out)
  clear b
  obtain ⟨gK2, hgK2⟩ : ∃ x, Hid (U16.heap.size = x) := ⟨_, Lib.hid rfl⟩
  rw [hgK2.out] at K2 ⊢
  generalize U16.alloc (.cells #[.int .i64 1, .int .i64 5, .int .i64 6] 3) = U17 at *
  refine yK hK ?_
  clear hK K
  refine yR (fun K hK => ?_)
  refine qbuild (w' := U17.alloc (.cells #[.slice (some ⟨gK1, 0, none⟩) 5 5, .slice (some ⟨gK2, 0, none⟩) 3 3] 26)) (.slice (some ⟨U17.heap.size, 0, none⟩) 2 2) (by kernel_rfl) ?_
  have LI := lit_lists U17 ⟨gK1, 0, none⟩ ⟨gK2, 0, none⟩ [0, 2, 3, 4, 7] [1, 5, 6] K1.out K2.out
  have b := zB U17 (.cells #[.slice (some ⟨gK1, 0, none⟩) 5 5, .slice (some ⟨gK2, 0, none⟩) 3 3] 26)
  have KL : Hid (RdLL (U17.alloc (.cells #[.slice (some ⟨gK1, 0, none⟩) 5 5, .slice (some ⟨gK2, 0, none⟩) 3 3] 26)) (some ⟨U17.heap.size, 0, none⟩) 2 2 [[0, 2, 3, 4, 7], [1, 5, 6]]) := Lib.hid LI
  clear LI
  replace BF := Lib.hid (BF.out.trans (b.mono BF.out.size))
  replace LL := Lib.hid (LL.out.below b)
  replace RA := Lib.hid (RA.out.below b)
  replace RB := Lib.hid (RB.out.below b)
  replace RD := Lib.hid (RD.out.below b)
  replace K1 := Lib.hid (K1.out.below b)
  replace K2 := Lib.hid (K2.out.below b)
  replace XA := Lib.hid (qblk b XA.out)
  replace XB := Lib.hid (qblk b XB.out)
  replace XD := Lib.hid (qblk b XD.out)
  clear b
  obtain ⟨gL, hgL⟩ : ∃ x, Hid (U17.heap.size = x) := ⟨_, Lib.hid rfl⟩
  rw [hgL.out] at KL ⊢
  generalize U17.alloc (.cells #[.slice (some ⟨gK1, 0, none⟩) 5 5, .slice (some ⟨gK2, 0, none⟩) 3 3] 26) = U18 at *
  refine yK hK ?_
  clear hK K
  refine yR (fun K hK => ?_)
  go_simp
  refine (sameLists_any oa rl oc (regionsP sampleF).1 (some ⟨gL, 0, none⟩) 2 2 [[0, 2, 3, 4, 7], [1, 5, 6]] _ LL.out KL.out).mono ?_
  rintro e U19 ⟨rfl, b⟩
  rw [show decide ((regionsP sampleF).1 = [[0, 2, 3, 4, 7], [1, 5, 6]]) = true by rw [smp_regions]; rfl]
  replace BF := Lib.hid (BF.out.trans (b.mono BF.out.size))
  replace LL := Lib.hid (LL.out.below b)
  replace RA := Lib.hid (RA.out.below b)
  replace RB := Lib.hid (RB.out.below b)
  replace RD := Lib.hid (RD.out.below b)
  replace K1 := Lib.hid (K1.out.below b)
  replace K2 := Lib.hid (K2.out.below b)
  replace KL := Lib.hid (KL.out.below b)
  replace XA := Lib.hid (qblk b XA.out)
  replace XB := Lib.hid (qblk b XB.out)
  replace XD := Lib.hid (qblk b XD.out)
  clear b
  try dsimp only
  refine yK hK ?_
  clear hK K
  refine yM (.bool true) ?_
  refine yW (.pointer (some ⟨x5, 3, none⟩)) ?_
  have qx := qcell XA.out 3 (.slice bA TA.kinds.length mA) rfl
  refine yW (.slice bA TA.kinds.length mA) ?_
  refine yR (fun K hK => ?_)
  refine qbuild (w' := U19.alloc (.cells #[.int .i64 0, .int .i64 0, .int .i64 1, .int .i64 0, .int .i64 0, .int .i64 0, .int .i64 1, .int .i64 2] 3)) (.slice (some ⟨U19.heap.size, 0, none⟩) 8 8) (by kernel_rfl) ?_
  have LI := lit_ints U19 [0, 0, 1, 0, 0, 0, 1, 2] (by decide)
  have b := zB U19 (.cells #[.int .i64 0, .int .i64 0, .int .i64 1, .int .i64 0, .int .i64 0, .int .i64 0, .int .i64 1, .int .i64 2] 3)
  have K3 : Hid (RdI (U19.alloc (.cells #[.int .i64 0, .int .i64 0, .int .i64 1, .int .i64 0, .int .i64 0, .int .i64 0, .int .i64 1, .int .i64 2] 3)) (some ⟨U19.heap.size, 0, none⟩) 8 8 [0, 0, 1, 0, 0, 0, 1, 2]) := Lib.hid LI
  clear LI
  replace BF := Lib.hid (BF.out.trans (b.mono BF.out.size))
  replace LL := Lib.hid (LL.out.below b)
  replace RA := Lib.hid (RA.out.below b)
  replace RB := Lib.hid (RB.out.below b)
  replace RD := Lib.hid (RD.out.below b)
  replace K1 := Lib.hid (K1.out.below b)
  replace K2 := Lib.hid (K2.out.below b)
  replace KL := Lib.hid (KL.out.below b)
  replace XA := Lib.hid (qblk b XA.out)
  replace XB := Lib.hid (qblk b XB.out)
  replace XD := Lib.hid (qblk b XD.out)
  clear b
  obtain ⟨gK3, hgK3⟩ : ∃ x, Hid (U19.heap.size = x) := ⟨_, Lib.hid rfl⟩
  rw [hgK3.out] at K3 ⊢
  generalize U19.alloc (.cells #[.int .i64 0, .int .i64 0, .int .i64 1, .int .i64 0, .int .i64 0, .int .i64 0, .int .i64 1, .int .i64 2] 3) = U20 at *
  refine yK hK ?_
  clear hK K
  refine yR (fun K hK => ?_)
  go_simp
  refine (sameInts2_any bA TA.kinds.length mA TA.kinds (some ⟨gK3, 0, none⟩) 8 8 [0, 0, 1, 0, 0, 0, 1, 2] _ RA.out K3.out).mono ?_
  rintro e U21 ⟨rfl, b⟩
  rw [show decide (TA.kinds = [0, 0, 1, 0, 0, 0, 1, 2]) = true by rw [← hTA.out, smp_turn]; rfl]
  clear qx
  replace BF := Lib.hid (BF.out.trans (b.mono BF.out.size))
  replace LL := Lib.hid (LL.out.below b)
  replace RA := Lib.hid (RA.out.below b)
  replace RB := Lib.hid (RB.out.below b)
  replace RD := Lib.hid (RD.out.below b)
  replace K1 := Lib.hid (K1.out.below b)
  replace K2 := Lib.hid (K2.out.below b)
  replace KL := Lib.hid (KL.out.below b)
  replace K3 := Lib.hid (K3.out.below b)
  replace XA := Lib.hid (qblk b XA.out)
  replace XB := Lib.hid (qblk b XB.out)
  replace XD := Lib.hid (qblk b XD.out)
  clear b
  try dsimp only
  refine yK hK ?_
  clear hK K
  refine yM (.bool true) ?_
  refine yM (.bool true) ?_
  refine yW (.pointer (some ⟨x7, 3, none⟩)) ?_
  have qx := qcell XB.out 3 (.slice bB TB.kinds.length mB) rfl
  refine yW (.slice bB TB.kinds.length mB) ?_
  refine yR (fun K hK => ?_)
  refine qbuild (w' := U21.alloc (.cells #[.int .i64 0, .int .i64 0, .int .i64 0, .int .i64 1, .int .i64 2, .int .i64 0, .int .i64 0, .int .i64 1] 3)) (.slice (some ⟨U21.heap.size, 0, none⟩) 8 8) (by kernel_rfl) ?_
  have LI := lit_ints U21 [0, 0, 0, 1, 2, 0, 0, 1] (by decide)
  have b := zB U21 (.cells #[.int .i64 0, .int .i64 0, .int .i64 0, .int .i64 1, .int .i64 2, .int .i64 0, .int .i64 0, .int .i64 1] 3)
  have K4 : Hid (RdI (U21.alloc (.cells #[.int .i64 0, .int .i64 0, .int .i64 0, .int .i64 1, .int .i64 2, .int .i64 0, .int .i64 0, .int .i64 1] 3)) (some ⟨U21.heap.size, 0, none⟩) 8 8 [0, 0, 0, 1, 2, 0, 0, 1]) := Lib.hid LI
  clear LI
  replace BF := Lib.hid (BF.out.trans (b.mono BF.out.size))
  replace LL := Lib.hid (LL.out.below b)
  replace RA := Lib.hid (RA.out.below b)
  replace RB := Lib.hid (RB.out.below b)
  replace RD := Lib.hid (RD.out.below b)
  replace K1 := Lib.hid (K1.out.below b)
  replace K2 := Lib.hid (K2.out.below b)
  replace KL := Lib.hid (KL.out.below b)
  replace K3 := Lib.hid (K3.out.below b)
  replace XA := Lib.hid (qblk b XA.out)
  replace XB := Lib.hid (qblk b XB.out)
  replace XD := Lib.hid (qblk b XD.out)
  clear b
  obtain ⟨gK4, hgK4⟩ : ∃ x, Hid (U21.heap.size = x) := ⟨_, Lib.hid rfl⟩
  rw [hgK4.out] at K4 ⊢
  generalize U21.alloc (.cells #[.int .i64 0, .int .i64 0, .int .i64 0, .int .i64 1, .int .i64 2, .int .i64 0, .int .i64 0, .int .i64 1] 3) = U22 at *
  refine yK hK ?_
  clear hK K
  refine yR (fun K hK => ?_)
  go_simp
  refine (sameInts2_any bB TB.kinds.length mB TB.kinds (some ⟨gK4, 0, none⟩) 8 8 [0, 0, 0, 1, 2, 0, 0, 1] _ RB.out K4.out).mono ?_
  rintro e U23 ⟨rfl, b⟩
  rw [show decide (TB.kinds = [0, 0, 0, 1, 2, 0, 0, 1]) = true by rw [← hTB.out, smp_normal]; rfl]
  clear qx
  replace BF := Lib.hid (BF.out.trans (b.mono BF.out.size))
  replace LL := Lib.hid (LL.out.below b)
  replace RA := Lib.hid (RA.out.below b)
  replace RB := Lib.hid (RB.out.below b)
  replace RD := Lib.hid (RD.out.below b)
  replace K1 := Lib.hid (K1.out.below b)
  replace K2 := Lib.hid (K2.out.below b)
  replace KL := Lib.hid (KL.out.below b)
  replace K3 := Lib.hid (K3.out.below b)
  replace K4 := Lib.hid (K4.out.below b)
  replace XA := Lib.hid (qblk b XA.out)
  replace XB := Lib.hid (qblk b XB.out)
  replace XD := Lib.hid (qblk b XD.out)
  clear b
  try dsimp only
  refine yK hK ?_
  clear hK K
  refine yM (.bool true) ?_
  refine yM (.bool true) ?_
  refine yW (.pointer (some ⟨x9, 3, none⟩)) ?_
  have qx := qcell XD.out 3 (.slice bD TD.kinds.length mD) rfl
  refine yW (.slice bD TD.kinds.length mD) ?_
  refine yR (fun K hK => ?_)
  refine qbuild (w' := U23.alloc (.cells #[.int .i64 0, .int .i64 0, .int .i64 0, .int .i64 0, .int .i64 0, .int .i64 0, .int .i64 0, .int .i64 1, .int .i64 0, .int .i64 0, .int .i64 1, .int .i64 0, .int .i64 1, .int .i64 0, .int .i64 0, .int .i64 1, .int .i64 0, .int .i64 0] 3)) (.slice (some ⟨U23.heap.size, 0, none⟩) 18 18) (by kernel_rfl) ?_
  have LI := lit_ints U23 [0, 0, 0, 0, 0, 0, 0, 1, 0, 0, 1, 0, 1, 0, 0, 1, 0, 0] (by decide)
  have b := zB U23 (.cells #[.int .i64 0, .int .i64 0, .int .i64 0, .int .i64 0, .int .i64 0, .int .i64 0, .int .i64 0, .int .i64 1, .int .i64 0, .int .i64 0, .int .i64 1, .int .i64 0, .int .i64 1, .int .i64 0, .int .i64 0, .int .i64 1, .int .i64 0, .int .i64 0] 3)
  have K5 : Hid (RdI (U23.alloc (.cells #[.int .i64 0, .int .i64 0, .int .i64 0, .int .i64 0, .int .i64 0, .int .i64 0, .int .i64 0, .int .i64 1, .int .i64 0, .int .i64 0, .int .i64 1, .int .i64 0, .int .i64 1, .int .i64 0, .int .i64 0, .int .i64 1, .int .i64 0, .int .i64 0] 3)) (some ⟨U23.heap.size, 0, none⟩) 18 18 [0, 0, 0, 0, 0, 0, 0, 1, 0, 0, 1, 0, 1, 0, 0, 1, 0, 0]) := Lib.hid LI
  clear LI
  replace BF := Lib.hid (BF.out.trans (b.mono BF.out.size))
  replace LL := Lib.hid (LL.out.below b)
  replace RA := Lib.hid (RA.out.below b)
  replace RB := Lib.hid (RB.out.below b)
  replace RD := Lib.hid (RD.out.below b)
  replace K1 := Lib.hid (K1.out.below b)
  replace K2 := Lib.hid (K2.out.below b)
  replace KL := Lib.hid (KL.out.below b)
  replace K3 := Lib.hid (K3.out.below b)
  replace K4 := Lib.hid (K4.out.below b)
  replace XA := Lib.hid (qblk b XA.out)
  replace XB := Lib.hid (qblk b XB.out)
  replace XD := Lib.hid (qblk b XD.out)
  clear b
  obtain ⟨gK5, hgK5⟩ : ∃ x, Hid (U23.heap.size = x) := ⟨_, Lib.hid rfl⟩
  rw [hgK5.out] at K5 ⊢
  generalize U23.alloc (.cells #[.int .i64 0, .int .i64 0, .int .i64 0, .int .i64 0, .int .i64 0, .int .i64 0, .int .i64 0, .int .i64 1, .int .i64 0, .int .i64 0, .int .i64 1, .int .i64 0, .int .i64 1, .int .i64 0, .int .i64 0, .int .i64 1, .int .i64 0, .int .i64 0] 3) = U24 at *
  refine yK hK ?_
  clear hK K
  refine yR (fun K hK => ?_)
  go_simp
  refine (sameInts2_any bD TD.kinds.length mD TD.kinds (some ⟨gK5, 0, none⟩) 18 18 [0, 0, 0, 0, 0, 0, 0, 1, 0, 0, 1, 0, 1, 0, 0, 1, 0, 0] _ RD.out K5.out).mono ?_
  rintro e U25 ⟨rfl, b⟩
  rw [show decide (TD.kinds = [0, 0, 0, 0, 0, 0, 0, 1, 0, 0, 1, 0, 1, 0, 0, 1, 0, 0]) = true by rw [← hTD.out, smp_dress]; rfl]
  clear qx
  replace BF := Lib.hid (BF.out.trans (b.mono BF.out.size))
  replace LL := Lib.hid (LL.out.below b)
  replace RA := Lib.hid (RA.out.below b)
  replace RB := Lib.hid (RB.out.below b)
  replace RD := Lib.hid (RD.out.below b)
  replace K1 := Lib.hid (K1.out.below b)
  replace K2 := Lib.hid (K2.out.below b)
  replace KL := Lib.hid (KL.out.below b)
  replace K3 := Lib.hid (K3.out.below b)
  replace K4 := Lib.hid (K4.out.below b)
  replace K5 := Lib.hid (K5.out.below b)
  replace XA := Lib.hid (qblk b XA.out)
  replace XB := Lib.hid (qblk b XB.out)
  replace XD := Lib.hid (qblk b XD.out)
  clear b
  try dsimp only
  refine yK hK ?_
  clear hK K
  refine yM (.bool true) ?_
  refine yM (.bool true) ?_
  refine yE ?_
  go_wp2_with fail
  go_ret
  exact ⟨rfl, BF.out⟩
end Go.Proofs.YtmpkglokhchpiaaGreatDoor
namespace Go.Proofs.YtmpkglokhchpiaaGreatDoor
set_option linter.unusedSimpArgs false
set_option linter.unusedVariables false
open Go.RowKit

theorem rd_at {W : World} {b off n c k : Nat} {l : List Int} {x : Int} (h : RdI W (some ⟨b, off, none⟩) n c l) (hx : l[k]? = some x) : W.cell? ⟨b, off + k, none⟩ = some (.int .i64 x) := by
  obtain ⟨b2, o2, e, h2⟩ := h.get hx
  simp only [Option.some.injEq, Addr.mk.injEq, and_true] at e
  rw [e.1, e.2]
  exact h2
set_option maxHeartbeats 4000000 in
set_option maxRecDepth 100000 in
theorem harps_any (f : FaceV) (a : Option Addr) (n : Nat) (w : World) (he : EnvW w) (hr : RdI w a f.kinds.length n f.kinds) :
    Calls Tryz.prog 8 #[.agg (f.cells a n)] w fun e w' => e = .returned (.bool true) ∧ Below w.heap.size w w' := by
  have EV := Lib.hid (fun W (hb : Below w.heap.size w W) => he.below hb)
  have HR := Lib.hid hr
  clear he hr
  have AL := Lib.hid (al1 w (.cells (f.cells a n) 28))
  go_enter Tryz.func8, Tryz.ntmps8
  go_upto_region 1 with fail
  obtain ⟨p, hp⟩ : ∃ p, Hid (w.heap.size = p) := ⟨_, Lib.hid rfl⟩
  rw [hp.out] at AL ⊢
  generalize (w.alloc (.cells (f.cells a n) 28)) = W0 at *
  have BF : Hid (Below w.heap.size w W0) := Lib.hid (by rw [hp.out]; exact AL.out.1)
  have XF : Hid (W0.heap[p]? = some (.cells (f.cells a n) 28 (0, 0))) := Lib.hid AL.out.2
  clear AL
  have c0 := qcell XF.out 0 (.int .i64 f.eye) rfl
  have c1 := qcell XF.out 1 (.int .i64 f.rings) rfl
  have c2 := qcell XF.out 2 (.int .i64 f.sectors) rfl
  have c3 := qcell XF.out 3 (.slice a f.kinds.length n) rfl
  clear c0 c1 c2 c3
  replace HR := Lib.hid (HR.out.below BF.out)
  go_upto_region 1 with fail
  refine yB ?_
  refine yR (fun K hK => ?_)
  go_simp
  refine (awake_any _ (EV.out _ BF.out)).mono ?_
  rintro e U1 ⟨rfl, b⟩
  replace BF := Lib.hid (BF.out.trans (b.mono BF.out.size))
  replace HR := Lib.hid (HR.out.below b)
  replace XF := Lib.hid (qblk b XF.out)
  clear b
  try dsimp only
  refine yK hK ?_
  clear hK K
  refine yM (.bool true) ?_
  refine yE ?_
  go_upto_region 2 with fail
  refine yB ?_
  refine yW (.agg (f.cells a n)) ?_ (qyrow (by kernel_rfl) 28 _ rfl p rfl _ 28 (0, 0) _ (fun W hW => by rw [hW]; exact XF.out) Tryz.underlying28 rfl (by exact (qJF f a n)))
  refine yR (fun K hK => ?_)
  go_simp
  refine (short_any f a n _).mono ?_
  rintro e wr ⟨rfl, b⟩
  replace BF := Lib.hid (BF.out.trans (b.mono BF.out.size))
  replace HR := Lib.hid (HR.out.below b)
  replace XF := Lib.hid (qblk b XF.out)
  clear b
  cases h1 : decide (f.kinds.length ≤ 3000)
  · try dsimp only
    refine yK hK ?_
    clear hK K
    refine yM (.bool true) ?_
    refine yE ?_
    go_wp2_with fail
    go_ret
    exact ⟨rfl, BF.out⟩
  · try dsimp only
    refine yK hK ?_
    clear hK K
    refine yM (.bool false) ?_
    refine yE ?_
    cases hv : f.valid
    · have PH : Hid (harpP f = (zeroF, 10)) := Lib.hid (by unfold harpP; rw [hv]; rfl)
      have PP : Hid (periodP f = (0, 10)) := Lib.hid (by unfold periodP; rw [hv]; rfl)
      clear hv
      go_upto_region 4 with fail
      refine yB ?_
      refine yW (.agg (f.cells a n)) ?_ (qyrow (by kernel_rfl) 28 _ rfl p rfl _ 28 (0, 0) _ (fun W hW => by rw [hW]; exact XF.out) Tryz.underlying28 rfl (by exact (qJF f a n)))
      refine yR (fun K hK => ?_)
      go_simp
      refine (harpP_any f a n _ HR.out).mono ?_
      rintro e U3 ⟨⟨b1, m1, rfl, own⟩, b⟩
      rw [PH.out] at own ⊢
      dsimp only at own
      have R1 := Lib.hid own.rd
      clear own
      replace BF := Lib.hid (BF.out.trans (b.mono BF.out.size))
      replace HR := Lib.hid (HR.out.below b)
      replace XF := Lib.hid (qblk b XF.out)
      clear b
      try dsimp only
      refine yK hK ?_
      clear hK K
      refine yM (.tuple #[.agg (zeroF.cells b1 m1), .int .i64 10]) ?_
      refine yM (.agg (zeroF.cells b1 m1)) ?_
      refine yM (.int .i64 10) ?_
      refine yR (fun K hK => ?_)
      refine qbuild (w' := U3.alloc (.cells #[.int .i64 0, .int .i64 0, .int .i64 0, .slice none 0 0] 28)) (.pointer (some ⟨U3.heap.size, 0, none⟩)) (by kernel_rfl) ?_
      obtain ⟨x4, hx4⟩ : ∃ x, Hid (U3.heap.size = x) := ⟨_, Lib.hid rfl⟩
      have AL := Lib.hid (al1 U3 (.cells #[.int .i64 0, .int .i64 0, .int .i64 0, .slice none 0 0] 28))
      rw [hx4.out] at AL ⊢
      refine yK hK ?_
      clear hK K
      refine yR (fun K hK => ?_)
      refine qstore 28 _ _ rfl x4 #[.int .i64 0, .int .i64 0, .int .i64 0, .slice none 0 0] (zeroF.cells b1 m1) 28 rfl rfl AL.out.2 (by exact qJF zeroF b1 m1) rfl (qone zeroF b1 m1) ?_
      intro U4 h8 hg8 hs8
      have b : Below U3.heap.size U3 U4 := qstep (by have h1 := AL.out.1; rw [← hx4.out] at h1; exact h1) hg8 (Nat.le_of_eq hx4.out)
      replace BF := Lib.hid (BF.out.trans (b.mono BF.out.size))
      replace HR := Lib.hid (HR.out.below b)
      replace R1 := Lib.hid (R1.out.below b)
      replace XF := Lib.hid (qblk b XF.out)
      clear b
      have Xx4 := Lib.hid h8
      clear h8 hg8 hs8 AL
      refine yK hK ?_
      clear hK K
      refine yM (.int .i64 10) ?_
      refine yE ?_
      go_upto_region 5 with fail
      refine yB ?_
      refine yW (.agg (f.cells a n)) ?_ (qyrow (by kernel_rfl) 28 _ rfl p rfl _ 28 (0, 0) _ (fun W hW => by rw [hW]; exact XF.out) Tryz.underlying28 rfl (by exact (qJF f a n)))
      refine yR (fun K hK => ?_)
      go_simp
      refine (periodP_any f a n _ HR.out).mono ?_
      rintro e U5 ⟨rfl, b⟩
      rw [PP.out]
      replace BF := Lib.hid (BF.out.trans (b.mono BF.out.size))
      replace HR := Lib.hid (HR.out.below b)
      replace R1 := Lib.hid (R1.out.below b)
      replace XF := Lib.hid (qblk b XF.out)
      replace Xx4 := Lib.hid (qblk b Xx4.out)
      clear b
      try dsimp only
      refine yK hK ?_
      clear hK K
      refine yM (.tuple #[.int .i64 0, .int .i64 10]) ?_
      refine yM (.int .i64 0) ?_
      refine yM (.int .i64 10) ?_
      refine yM (.int .i64 0) ?_
      refine yM (.int .i64 10) ?_
      refine yE ?_
      go_upto_region 6 with fail
      refine yB ?_
      refine yM (.int .i64 10) ?_
      refine yW (.bool true) ?_
      refine yE ?_
      go_upto_region 7 with fail
      refine yB ?_
      refine yM (.bool true) ?_
      refine yM (.bool true) ?_
      refine yM (.int .i64 10) ?_
      refine yM (.int .i64 10) ?_
      refine yW (.bool true) ?_
      refine yM (.bool true) ?_
      refine yM (.bool true) ?_
      refine yE ?_
      go_wp2_with fail
      go_ret
      exact ⟨rfl, BF.out⟩
    · have HV := Lib.hid hv
      have PH : Hid (harpP f = (harpF f, 0)) := Lib.hid (by unfold harpP; rw [hv]; rfl)
      have PP : Hid (periodP f = ((periodF f : Int), 0)) := Lib.hid (by unfold periodP; rw [hv]; rfl)
      clear hv
      go_upto_region 4 with fail
      refine yB ?_
      refine yW (.agg (f.cells a n)) ?_ (qyrow (by kernel_rfl) 28 _ rfl p rfl _ 28 (0, 0) _ (fun W hW => by rw [hW]; exact XF.out) Tryz.underlying28 rfl (by exact (qJF f a n)))
      refine yR (fun K hK => ?_)
      go_simp
      refine (harpP_any f a n _ HR.out).mono ?_
      rintro e U3 ⟨⟨b1, m1, rfl, own⟩, b⟩
      rw [PH.out] at own ⊢
      dsimp only at own
      have R1 := Lib.hid own.rd
      clear own
      replace BF := Lib.hid (BF.out.trans (b.mono BF.out.size))
      replace HR := Lib.hid (HR.out.below b)
      replace XF := Lib.hid (qblk b XF.out)
      clear b
      try dsimp only
      refine yK hK ?_
      clear hK K
      refine yM (.tuple #[.agg ((harpF f).cells b1 m1), .int .i64 0]) ?_
      refine yM (.agg ((harpF f).cells b1 m1)) ?_
      refine yM (.int .i64 0) ?_
      refine yR (fun K hK => ?_)
      refine qbuild (w' := U3.alloc (.cells #[.int .i64 0, .int .i64 0, .int .i64 0, .slice none 0 0] 28)) (.pointer (some ⟨U3.heap.size, 0, none⟩)) (by kernel_rfl) ?_
      obtain ⟨x4, hx4⟩ : ∃ x, Hid (U3.heap.size = x) := ⟨_, Lib.hid rfl⟩
      have AL := Lib.hid (al1 U3 (.cells #[.int .i64 0, .int .i64 0, .int .i64 0, .slice none 0 0] 28))
      rw [hx4.out] at AL ⊢
      refine yK hK ?_
      clear hK K
      refine yR (fun K hK => ?_)
      refine qstore 28 _ _ rfl x4 #[.int .i64 0, .int .i64 0, .int .i64 0, .slice none 0 0] ((harpF f).cells b1 m1) 28 rfl rfl AL.out.2 (by exact qJF (harpF f) b1 m1) rfl (qone (harpF f) b1 m1) ?_
      intro U4 h8 hg8 hs8
      have b : Below U3.heap.size U3 U4 := qstep (by have h1 := AL.out.1; rw [← hx4.out] at h1; exact h1) hg8 (Nat.le_of_eq hx4.out)
      replace BF := Lib.hid (BF.out.trans (b.mono BF.out.size))
      replace HR := Lib.hid (HR.out.below b)
      replace R1 := Lib.hid (R1.out.below b)
      replace XF := Lib.hid (qblk b XF.out)
      clear b
      have Xx4 := Lib.hid h8
      clear h8 hg8 hs8 AL
      refine yK hK ?_
      clear hK K
      refine yM (.int .i64 0) ?_
      refine yE ?_
      go_upto_region 5 with fail
      refine yB ?_
      refine yW (.agg (f.cells a n)) ?_ (qyrow (by kernel_rfl) 28 _ rfl p rfl _ 28 (0, 0) _ (fun W hW => by rw [hW]; exact XF.out) Tryz.underlying28 rfl (by exact (qJF f a n)))
      refine yR (fun K hK => ?_)
      go_simp
      refine (periodP_any f a n _ HR.out).mono ?_
      rintro e U5 ⟨rfl, b⟩
      rw [PP.out]
      replace BF := Lib.hid (BF.out.trans (b.mono BF.out.size))
      replace HR := Lib.hid (HR.out.below b)
      replace R1 := Lib.hid (R1.out.below b)
      replace XF := Lib.hid (qblk b XF.out)
      replace Xx4 := Lib.hid (qblk b Xx4.out)
      clear b
      try dsimp only
      refine yK hK ?_
      clear hK K
      refine yM (.tuple #[.int .i64 (periodF f : Int), .int .i64 0]) ?_
      refine yM (.int .i64 (periodF f : Int)) ?_
      refine yM (.int .i64 0) ?_
      refine yM (.int .i64 (periodF f : Int)) ?_
      refine yM (.int .i64 0) ?_
      refine yE ?_
      go_upto_region 6 with fail
      refine yB ?_
      refine yM (.int .i64 0) ?_
      refine yW (.bool false) ?_
      refine yE ?_
      have HH := Lib.hid (harp_valid HV.out)
      have HP := Lib.hid (period_spec HV.out)
      go_upto_region 8 with fail
      refine yB ?_
      refine yW (.agg ((harpF f).cells b1 m1)) ?_ (qyrow (by kernel_rfl) 28 _ rfl x4 rfl _ 28 (0, 0) _ (fun W hW => by rw [hW]; exact Xx4.out) Tryz.underlying28 rfl (by exact (qJF (harpF f) b1 m1)))
      refine yR (fun K hK => ?_)
      go_simp
      refine (valid2_any (harpF f) b1 m1 _ R1.out).mono ?_
      rintro e U6 ⟨rfl, b⟩
      rw [HH.out.1]
      replace BF := Lib.hid (BF.out.trans (b.mono BF.out.size))
      replace HR := Lib.hid (HR.out.below b)
      replace R1 := Lib.hid (R1.out.below b)
      replace XF := Lib.hid (qblk b XF.out)
      replace Xx4 := Lib.hid (qblk b Xx4.out)
      clear b
      try dsimp only
      refine yK hK ?_
      clear hK K
      refine yM (.bool false) ?_
      refine yM (.bool false) ?_
      refine yM (.int .i64 0) ?_
      refine yW (.bool false) ?_
      refine yM (.bool false) ?_
      refine yM (.bool false) ?_
      refine yW (.pointer (some ⟨x4, 2, none⟩)) ?_
      refine yW (.int .i64 (harpF f).sectors) ?_ (.inl ⟨by kernel_rfl, by intro W hW; rw [hW]; have c := qcell Xx4.out 2 (.int .i64 (harpF f).sectors) rfl; go_simp⟩)
      refine yM (.int .i64 (periodF f : Int)) ?_
      refine yW (.int .i64 (harpF f).sectors) ?_ (.inl ⟨by kernel_rfl, by intro W hW; rw [hW]; go_simp; rw [HH.out.2.1]; (try omega)⟩)
      refine yW (.bool false) ?_
      refine yM (.bool false) ?_
      refine yM (.bool false) ?_
      refine yW (.pointer (some ⟨x4, 1, none⟩)) ?_
      refine yW (.int .i64 (harpF f).rings) ?_ (.inl ⟨by kernel_rfl, by intro W hW; rw [hW]; have c := qcell Xx4.out 1 (.int .i64 (harpF f).rings) rfl; go_simp⟩)
      refine yW (.pointer (some ⟨p, 1, none⟩)) ?_
      refine yW (.int .i64 f.rings) ?_ (.inl ⟨by kernel_rfl, by intro W hW; rw [hW]; have c := qcell XF.out 1 (.int .i64 f.rings) rfl; go_simp⟩)
      refine yW (.bool false) ?_ (.inl ⟨by kernel_rfl, by intro W hW; rw [hW]; go_simp; rw [HH.out.2.2.1] <;> simp⟩)
      refine yM (.bool false) ?_
      refine yM (.bool false) ?_
      refine yW (.pointer (some ⟨x4, 0, none⟩)) ?_
      refine yW (.int .i64 (harpF f).eye) ?_ (.inl ⟨by kernel_rfl, by intro W hW; rw [hW]; have c := qcell Xx4.out 0 (.int .i64 (harpF f).eye) rfl; go_simp⟩)
      refine yW (.pointer (some ⟨p, 0, none⟩)) ?_
      refine yW (.int .i64 f.eye) ?_ (.inl ⟨by kernel_rfl, by intro W hW; rw [hW]; have c := qcell XF.out 0 (.int .i64 f.eye) rfl; go_simp⟩)
      refine yW (.bool false) ?_ (.inl ⟨by kernel_rfl, by intro W hW; rw [hW]; go_simp; rw [HH.out.2.2.2] <;> simp⟩)
      refine yM (.bool false) ?_
      refine yE ?_
      have NV := Lib.hid (FaceV.nat HV.out)
      have IV := Lib.hid (FaceV.int HV.out)
      have LL := Lib.hid (FaceV.len_le HV.out)
      have HPL := Lib.hid (fun (i : Nat) hi => harp_plain HV.out (i := i) hi)
      have HS : Hid ((harpF f).sectors = ((max 2 (periodF f) : Nat) : Int)) := Lib.hid rfl
      go_wp2_with fail
      go_loopw [8] (fun v wr => ∃ k : Nat, v = .int .i64 (k : Int) ∧ k ≤ f.kinds.length ∧ Hid (Below w.heap.size w wr) ∧ Hid (RdI wr a f.kinds.length n f.kinds) ∧ Hid (RdI wr b1 (harpF f).kinds.length m1 (harpF f).kinds) ∧ Hid (wr.heap[p]? = some (.cells (f.cells a n) 28 (0, 0))) ∧ Hid (wr.heap[x4]? = some (.cells ((harpF f).cells b1 m1) 28 (0, 0)))) (fun v _ => f.kinds.length - (intOf v).toNat)
      case atStart => exact ⟨0, rfl, Nat.zero_le _, BF, HR, R1, XF, Xx4⟩
      case round =>
        clear BF HR R1 XF Xx4
        obtain ⟨k, rfl, hk, BF, HR, R1, XF, Xx4⟩ := hrel
        have c3 := qcell XF.out 3 (.slice a f.kinds.length n) rfl
        by_cases hkn : k < f.kinds.length
        · have t0 : decide ((k : Int) < (f.kinds.length : Int)) = true := by simp; omega
          have HK64 : Hid ((k : Int) + 1 ≤ 9223372036854775807) := Lib.hid (by have := LL.out; omega)
          obtain ⟨S, hS⟩ : ∃ S, Hid (f.S = S) := ⟨_, Lib.hid rfl⟩
          obtain ⟨T, hT⟩ : ∃ T, Hid (max 2 (periodF f) = T) := ⟨_, Lib.hid rfl⟩
          have ES : Hid (f.sectors = (S : Int) ∧ 2 ≤ S ∧ S ≤ 96) := Lib.hid (by have h1 := NV.out; have h2 := IV.out; have h3 := hS.out; omega)
          have ET : Hid ((harpF f).sectors = (T : Int) ∧ 2 ≤ T ∧ T ≤ 96) := Lib.hid (by have h1 := HS.out; have h2 := HP.out; have h3 := hT.out; have h4 := ES.out; have h5 := hS.out; rw [h1, h3]; omega)
          obtain ⟨j, hj⟩ : ∃ j, Hid (k / S * T + k % S % T = j) := ⟨_, Lib.hid rfl⟩
          have PL := Lib.hid (HPL.out k hkn)
          rw [hS.out, hT.out, hj.out] at PL
          have JL : Hid (j < (harpF f).kinds.length) := Lib.hid (by
            have h1 := (FaceV.nat HH.out.1).2.2.2.2.2.2
            have hS2 : (harpF f).S = T := by have := (FaceV.nat HH.out.1).2.1; have := ET.out.1; omega
            have hR2 : (harpF f).R = f.R := by have h3 := (FaceV.nat HH.out.1).1; have h4 := NV.out.1; have h5 := HH.out.2.2.1; omega
            rw [h1, hS2, hR2, ← hj.out]
            have h6 : k / S < f.R := Nat.div_lt_of_lt_mul (by have h7 := NV.out.2.2.2.2.2.2; rw [hS.out] at h7; rw [Nat.mul_comm]; omega)
            have h8 : k % S % T < T := Nat.mod_lt _ (by have := ET.out; omega)
            have h9 : (k / S + 1) * T ≤ f.R * T := Nat.mul_le_mul_right T h6
            rw [Nat.add_mul] at h9
            omega)
          have BJ : Hid (j ≤ 2304) := Lib.hid (by have := FaceV.len_le HH.out.1; have := JL.out; omega)
          obtain ⟨s, hs⟩ : ∃ s : Int, Hid ((S : Int) = s) := ⟨_, Lib.hid rfl⟩
          obtain ⟨t, ht⟩ : ∃ t : Int, Hid ((T : Int) = t) := ⟨_, Lib.hid rfl⟩
          obtain ⟨q1, hq1⟩ : ∃ t : Int, Hid (((k / S : Nat) : Int) = t) := ⟨_, Lib.hid rfl⟩
          obtain ⟨q2, hq2⟩ : ∃ t : Int, Hid (((k / S * T : Nat) : Int) = t) := ⟨_, Lib.hid rfl⟩
          obtain ⟨q3, hq3⟩ : ∃ t : Int, Hid (((k % S : Nat) : Int) = t) := ⟨_, Lib.hid rfl⟩
          obtain ⟨q4, hq4⟩ : ∃ t : Int, Hid (((k % S % T : Nat) : Int) = t) := ⟨_, Lib.hid rfl⟩
          have QS : Hid (q1 = (k : Int) / s) := Lib.hid (by rw [← hq1.out, ← hs.out]; simp)
          have QD : Hid (0 ≤ q1 ∧ q1 ≤ 2304) := Lib.hid (by have h1 := LL.out; have h2 : k / S ≤ k := Nat.div_le_self _ _; rw [← hq1.out]; generalize k / S = z at *; omega)
          have D1 := Lib.hid (show wrap64 ((k : Int).tdiv s) = q1 by
            rw [Int.tdiv_eq_ediv_of_nonneg (by omega), ← QS.out]
            have := QD.out
            unfold wrap64
            omega)
          have D1b := Lib.hid (show wrap64 ((k : Int) / s) = q1 by
            rw [← QS.out]
            have := QD.out
            unfold wrap64
            omega)
          have D3b := Lib.hid (show (k : Int) % s = q3 by rw [← hq3.out, ← hs.out]; simp)
          have D2 := Lib.hid (show wrap64 (q1 * t) = q2 by
            have h1 := BJ.out
            have h2 := hj.out
            rw [← hq1.out, ← hq2.out, ← ht.out, ← Int.natCast_mul]
            generalize k / S * T = z at *
            unfold wrap64
            omega)
          have D3 := Lib.hid (show (k : Int).tmod s = q3 by rw [Int.tmod_eq_emod_of_nonneg (by omega), ← hq3.out, ← hs.out]; simp)
          have D4 := Lib.hid (show q3.tmod t = q4 by rw [← hq3.out, Int.tmod_eq_emod_of_nonneg (by omega), ← hq4.out, ← ht.out]; simp)
          have D5 := Lib.hid (show wrap64 (q2 + q4) = (j : Int) by
            have h1 := BJ.out
            have h2 := hj.out
            rw [← hq2.out, ← hq4.out]
            generalize k / S * T = z at *
            generalize k % S % T = y at *
            unfold wrap64
            omega)
          have NS := Lib.hid (show ¬ s = 0 by have := ES.out; have := hs.out; omega)
          have NT := Lib.hid (show ¬ t = 0 by have := ET.out; have := ht.out; omega)
          obtain ⟨g0, o0, ha, _⟩ := (HR.out).get (FaceV.kat_at hkn)
          subst ha
          obtain ⟨g1, o1, hb, _⟩ := (R1.out).get (FaceV.kat_at JL.out)
          subst hb
          have hkl : k < f.kinds.length := hkn
          have hjl : j < (harpF f).kinds.length := JL.out
          go_upto_region 13 with fail
          clear c3 t0
          have hd : Below wr.heap.size wr wr.drew := (Below.refl _ _).drew
          replace BF := Lib.hid (BF.out.trans (hd.mono BF.out.size))
          replace HR := Lib.hid (HR.out.below hd)
          replace R1 := Lib.hid (R1.out.below hd)
          replace XF := Lib.hid (qblk hd XF.out)
          replace Xx4 := Lib.hid (qblk hd Xx4.out)
          clear hd
          refine zD (fun W => Below wr.drew.heap.size wr.drew W) (Below.refl _ _) (fun hHeld => ?_)
          have BV := Lib.hid hHeld
          generalize wr.drew = VV at *
          refine zW 0 rfl (.pointer (some ⟨p, 3, none⟩)) ?_
          refine zS 1 rfl (.slice (some ⟨g0, o0, none⟩) f.kinds.length n) (fun W hW => by have c := qcell (qblk hW XF.out) 3 (.slice (some ⟨g0, o0, none⟩) f.kinds.length n) rfl; go_simp) ?_
          refine zW 2 rfl (.int .i64 (k : Int)) ?_
          refine zW 3 rfl (.pointer (some ⟨g0, o0 + k, none⟩)) ?_
          refine zS 4 rfl (.int .i64 (f.kat k)) (fun W hW => by have c := rd_at (HR.out.below hW) (FaceV.kat_at hkl); go_simp) ?_
          refine zW 5 rfl (.pointer (some ⟨x4, 3, none⟩)) ?_
          refine zS 6 rfl (.slice (some ⟨g1, o1, none⟩) (harpF f).kinds.length m1) (fun W hW => by have c := qcell (qblk hW Xx4.out) 3 (.slice (some ⟨g1, o1, none⟩) (harpF f).kinds.length m1) rfl; go_simp) ?_
          refine zW 7 rfl (.int .i64 (k : Int)) ?_
          refine zW 8 rfl (.pointer (some ⟨p, 2, none⟩)) ?_
          refine zS 9 rfl (.int .i64 s) (fun W hW => by have c := qcell (qblk hW XF.out) 2 (.int .i64 s) (by rw [← hs.out, ← ES.out.1]; rfl); go_simp) ?_
          refine zW 10 rfl (.int .i64 q1) (hy := .inl ⟨by kernel_rfl, by intro W hW; go_simp; rw [if_neg NS.out]; first | rw [(IntWalk.i64_left _).trans D1.out] | rw [(IntWalk.i64_left _).trans D1b.out]⟩) ?_
          refine zW 11 rfl (.pointer (some ⟨x4, 2, none⟩)) ?_
          refine zS 12 rfl (.int .i64 t) (fun W hW => by have c := qcell (qblk hW Xx4.out) 2 (.int .i64 t) (by rw [← ht.out, ← ET.out.1]; rfl); go_simp) ?_
          refine zW 13 rfl (.int .i64 q2) (hy := .inl ⟨by kernel_rfl, by intro W hW; go_simp; exact (IntWalk.i64_left _).trans D2.out⟩) ?_
          refine zW 14 rfl (.int .i64 (k : Int)) ?_
          refine zW 15 rfl (.pointer (some ⟨p, 2, none⟩)) ?_
          refine zS 16 rfl (.int .i64 s) (fun W hW => by have c := qcell (qblk hW XF.out) 2 (.int .i64 s) (by rw [← hs.out, ← ES.out.1]; rfl); go_simp) ?_
          refine zW 17 rfl (.int .i64 q3) (hy := .inl ⟨by kernel_rfl, by intro W hW; go_simp; rw [if_neg NS.out]; first | rw [D3.out] | rw [D3b.out]⟩) ?_
          refine zW 18 rfl (.pointer (some ⟨x4, 2, none⟩)) ?_
          refine zS 19 rfl (.int .i64 t) (fun W hW => by have c := qcell (qblk hW Xx4.out) 2 (.int .i64 t) (by rw [← ht.out, ← ET.out.1]; rfl); go_simp) ?_
          refine zW 20 rfl (.int .i64 q4) (hy := .inl ⟨by kernel_rfl, by intro W hW; go_simp; rw [if_neg NT.out, D4.out]⟩) ?_
          refine zW 21 rfl (.int .i64 (j : Int)) (hy := .inl ⟨by kernel_rfl, by intro W hW; go_simp; exact (IntWalk.i64_left _).trans D5.out⟩) ?_
          refine zW 22 rfl (.pointer (some ⟨g1, o1 + j, none⟩)) ?_
          refine zS 23 rfl (.int .i64 (f.kat k)) (fun W hW => by have c := rd_at (R1.out.below hW) (show (harpF f).kinds[j]? = some (f.kat k) by rw [FaceV.kat_at hjl, PL.out]); go_simp) ?_
          refine zW 24 rfl (.bool false) ?_
          refine zE ?_
          have bz := BV.out
          replace BF := Lib.hid (BF.out.trans (bz.mono BF.out.size))
          replace HR := Lib.hid (HR.out.below bz)
          replace R1 := Lib.hid (R1.out.below bz)
          replace XF := Lib.hid (qblk bz XF.out)
          replace Xx4 := Lib.hid (qblk bz Xx4.out)
          clear bz
          clear BV
          go_upto_region 12 with fail
          have hk64 := HK64.out
          go_wp2_with fail
          go_roundw
          case rel => exact ⟨k + 1, by simp, by omega, BF, HR, R1, XF, Xx4⟩
          case measure => simp [intOf]; omega
        · have t0 : decide ((k : Int) < (f.kinds.length : Int)) = false := by simp; omega
          go_wp2_with fail
          go_ret
          exact ⟨rfl, BF.out⟩
end Go.Proofs.YtmpkglokhchpiaaGreatDoor
namespace Go.Proofs.YtmpkglokhchpiaaGreatDoor
open Go.ChangeShapes Go.WideShapes Go.ChangeAt Go.RowKit

theorem Tryz.own : ownKnob Tryz.prog.godebug = none := by kernel_rfl
theorem Tryz.laidOut : laidOutB Tryz.prog = true := by kernel_rfl

theorem below_trodAll {H : Type} {enc : TypeId × Value → H} {P : Program} (hl : laidOutB P = true) {W W' : World} (hb : Below W.heap.size W W') :
    ∀ (ts : List TypeId) {vs : List Value} {ds : List (DataW H)} {ps : List MemPlace}, ts.all (fun t => P.readableRec t && decide (t < P.types.size)) = true → (∀ x ∈ ps, x.block < W.heap.size) →
      DataW.TrodAll enc P W 0 (fun _ => true) true ts vs ds ps → DataW.TrodAll enc P W' 0 (fun b => decide (b < W.heap.size)) true ts vs ds ps
  | [], [], [], _, _, _, h => h
  | [], _ :: _, _, _, _, _, h => h.elim
  | [], [], _ :: _, _, _, _, h => h.elim
  | _ :: _, [], _, _, _, _, h => h.elim
  | _ :: _, _ :: _, [], _, _, _, h => h.elim
  | t :: ts, v :: vs, d :: ds, ps, hr, hlt, h => by
    obtain ⟨p, q, h1, h2, rfl⟩ := h
    simp only [List.all_cons, Bool.and_eq_true, decide_eq_true_eq] at hr
    exact ⟨p, q, Below.trod hl hr.1.1 hr.1.2 h1 hb (fun x hx => hlt x (List.mem_append_left _ hx)), below_trodAll hl hb ts hr.2 (fun x hx => hlt x (List.mem_append_right _ hx)) h2, rfl⟩

theorem post_of_law {H : Type} {enc : TypeId × Value → H} {P : Program} (hl : laidOutB P = true) {t : TypeId} (ht : P.underlying t = some .bool) {f : Func} {s : ChangeSpec} {W W' : World} {args : Array Value} {ds : List (DataW H)} {ps : List MemPlace}
    (hv : s.vars = []) (hf : f.resultTypes = #[t]) (hr : f.params.toList.all (fun t => P.readableRec t && decide (t < P.types.size)) = true)
    (hW : DataW.Whole enc P f.params.toList s.vars false W args.toList ds [] ps) (hA : DataW.TrodAll enc P W 0 (fun _ => true) true f.params.toList args.toList ds ps)
    (hs : s.fn H (ds ++ []) = { results := [.lit (.bool true)], args := ds }) (hb : Below W.heap.size W W') : s.post enc P f false true false false W args (.bool true) W' := by
  refine ⟨ds, [], ps, [], ps, [], hW, ?_, ?_, ?_, hb.frame _, fun h => by cases h⟩
  · rw [hs, hf]
    exact trodAll_mk1 (shut_bool ht _)
  · rw [hs]
    exact below_trodAll hl hb _ hr hW.lt hA
  · rw [hs, hv]
    rfl

end Go.Proofs.YtmpkglokhchpiaaGreatDoor
namespace Go.Proofs.YtmpkglokhchpiaaGreatDoor
open Go.ChangeShapes Go.WideShapes Go.ChangeAt Go.RowKit

theorem i64_of_wf {x : Int} (h : (Lit.int .i64 x).wf = true) : I64 x := by
  simp [Lit.wf, IntKind.min, IntKind.max, IntKind.signed, IntKind.bits] at h
  unfold I64
  omega
theorem Tryz.cells3 : Tryz.prog.cellsOf 3 = 1 := by kernel_rfl
theorem Tryz.cells26 : Tryz.prog.cellsOf 26 = 1 := by kernel_rfl
section
variable {H : Type} {enc : TypeId × Value → H} {W : World} {fuel : Nat}

theorem open_ri1 {cs : List Value} {y : DataW H × List MemPlace} (h : DataW.trod enc Tryz.prog W 0 (fun _ => true) true fuel 26 cs = some y) : ∃ a c l, cs = [.slice a l.length c] ∧ RdI W a l.length c l ∧ ∀ z ∈ l, I64 z := by
  rcases open_ints Tryz.underlying26 Tryz.underlying3 Tryz.cells3 h with ⟨hcs, hx⟩ | ⟨a, n, c, zs, hcs, _, hl, hm, hz, hx, hcell, hwz⟩
  · exact ⟨none, 0, [], hcs, RdA.nil _ _, fun z hz => by cases hz⟩
  · simp only [if_true] at hz
    have hlen : (zs.take n).length = n := by rw [List.length_take]; omega
    refine ⟨some a, c, zs.take n, by rw [hlen]; exact hcs, ⟨by simp, by omega, hm, ?_⟩, fun z hz => i64_of_wf (hwz z (List.mem_of_mem_take hz))⟩
    by_cases hc0 : c = 0
    · exact .inl hc0
    · obtain ⟨ab, ao, spot⟩ := a
      have hspot : spot = none := by simpa [Addr.add] using World.cell?_spot (hcell 0 (by omega))
      subst hspot
      refine .inr ⟨ab, ao, rfl, fun i x hx => ?_⟩
      rw [List.getElem?_map, List.getElem?_take] at hx
      split at hx
      · rename_i hi
        have hiz : i < zs.length := by omega
        rw [List.getElem?_eq_getElem hiz, Option.map_some] at hx
        simp only [Option.some.injEq] at hx
        subst hx
        have hc := hcell i hiz
        rw [Addr.add_lit] at hc
        rw [hc, List.getD_eq_getElem?_getD, List.getElem?_eq_getElem hiz]
        rfl
      · cases hx
theorem get_some {α : Type} {xs : List α} {n i : Nat} (h : xs.length = n) (hi : i < n) : ∃ y, xs[i]? = some y := ⟨xs[i]'(by omega), List.getElem?_eq_getElem (by omega)⟩
end
end Go.Proofs.YtmpkglokhchpiaaGreatDoor
namespace Go.Proofs.YtmpkglokhchpiaaGreatDoor
set_option linter.constructorNameAsVariable false
open Go.ChangeShapes Go.WideShapes Go.ChangeAt Go.RowKit

theorem Tryz.cells28 : Tryz.prog.cellsOf 28 = 4 := by kernel_rfl
section
variable {H : Type} {enc : TypeId × Value → H} {W : World}
set_option maxRecDepth 100000 in
theorem open_face {base : Nat} {v : Value} {d : DataW H} {p : List MemPlace} (hval : Value.okWide Tryz.prog W .any base 28 v)
    (h : DataW.Trod enc Tryz.prog W 0 (fun _ => true) true 28 v d p) : ∃ (f : FaceV) (a : Option Addr) (n : Nat), v = .agg (f.cells a n) ∧ RdI W a f.kinds.length n f.kinds := by
  obtain ⟨cs, rfl, hsz⟩ := okWide_struct Tryz.underlying28 hval
  obtain ⟨fuel, hf⟩ := h
  obtain ⟨y0, y1, y2, y3, n, _, hl, g0, g1, g2, g3⟩ := Go.Joins.trod_struct4 Tryz.underlying28 hf
  rw [Tryz.cells28] at hsz
  obtain ⟨l⟩ := cs
  match l, hsz with
  | [c0, c1, c2, c3], _ =>
    have g0' : DataW.trod enc Tryz.prog W 0 (fun _ => true) true n 3 (([c0, c1, c2, c3].drop 0).take (Tryz.prog.cellsOf 3)) = some y0 := g0
    have g1' : DataW.trod enc Tryz.prog W 0 (fun _ => true) true n 3 (([c0, c1, c2, c3].drop 1).take (Tryz.prog.cellsOf 3)) = some y1 := g1
    have g2' : DataW.trod enc Tryz.prog W 0 (fun _ => true) true n 3 (([c0, c1, c2, c3].drop 2).take (Tryz.prog.cellsOf 3)) = some y2 := g2
    have g3' : DataW.trod enc Tryz.prog W 0 (fun _ => true) true n 26 (([c0, c1, c2, c3].drop 3).take (Tryz.prog.cellsOf 26)) = some y3 := g3
    rw [Tryz.cells3] at g0' g1' g2'
    rw [Tryz.cells26] at g3'
    obtain ⟨x0, a0, _, _⟩ := DataW.trod_int Tryz.underlying3 g0'
    obtain ⟨x1, a1, _, _⟩ := DataW.trod_int Tryz.underlying3 g1'
    obtain ⟨x2, a2, _, _⟩ := DataW.trod_int Tryz.underlying3 g2'
    obtain ⟨a, c, l, a3, hr, _⟩ := open_ri1 g3'
    simp at a0 a1 a2 a3
    exact ⟨⟨x0, x1, x2, l⟩, a, c, by rw [a0, a1, a2, a3]; rfl, hr⟩
end
theorem gE3 : Tryz.prog.globalNamed "strconv.ErrSyntax" = some 3 := by kernel_rfl
theorem gE4 : Tryz.prog.globalNamed "strconv.ErrRange" = some 4 := by kernel_rfl
theorem gE3t : (Tryz.prog.globals[3]?).map (·.type) = some 109 := by kernel_rfl
theorem gE4t : (Tryz.prog.globals[4]?).map (·.type) = some 109 := by kernel_rfl
theorem gstar : "*" ++ "errors.errorString" = "*errors.errorString" := by decide
theorem rowE (u : TypeId) (h : Tryz.prog.typeName? 3 u = some "*errors.errorString") : u = 214 :=
  typeName_ptr_named (nm := "errors.errorString") (by rw [gstar]; kernel_rfl) (by kernel_rfl) (by decide) u (by rw [gstar]; exact h)
theorem Tryz.cells216 : Tryz.prog.cellsOf 216 = 1 := by kernel_rfl
theorem Tryz.cells9 : Tryz.prog.cellsOf 9 = 1 := by kernel_rfl
theorem env_of {W : World} (hL : laidMetH Tryz.prog Rows.stonesSumRow.laid W) (hs : W.ShapedOpen Tryz.prog) : EnvW W := by
  rw [MakeChecks.laidMetH_plain _ _ _ (by kernel_rfl)] at hL
  obtain ⟨a0, s0, hv0, _⟩ := laid_sentinel hL.tail.tail.tail.tail gE4 gE4t Tryz.underlying109 rowE Tryz.underlying214 Tryz.underlying216 rfl rfl Tryz.underlying9 Tryz.cells216 Tryz.cells9
  obtain ⟨a1, s1, hv1, _⟩ := laid_sentinel hL.tail.tail.tail.tail.tail gE3 gE3t Tryz.underlying109 rowE Tryz.underlying214 Tryz.underlying216 rfl rfl Tryz.underlying9 Tryz.cells216 Tryz.cells9
  refine ⟨Go.Proofs.cell_of_shapedOpen_int (zero := #[.int .i64 0]) (t := 3) hs (of_decide_eq_true (by kernel_rfl)) (by kernel_rfl) rfl (by kernel_rfl) (by kernel_rfl) Tryz.underlying3, ⟨.iface 214 (.pointer (some a1)), ?_, .inr ⟨_, _, rfl⟩⟩, ⟨.iface 214 (.pointer (some a0)), ?_, .inr ⟨_, _, rfl⟩⟩⟩
  · have h0 := World.var?_cell gE3 hv1 0
    simpa using h0
  · have h0 := World.var?_cell gE4 hv0 0
    simpa using h0
end Go.Proofs.YtmpkglokhchpiaaGreatDoor
