/- Parts of the proof, in this order: Normal of stones; awake of law01; StonesBack is true; What every row of this work shares: a law of the template 'true whatever the input' holds where its call gives true and leaves all old memory; []byte arguments opened; A note, a list of ints, out of a reading; A face out of a reading; what the library's variables hold. -/
import Derived.Test.YtimmadkbkimonaaGreatDoorRows
import Derived.ProofKit
import Derived.OpenShut
import Derived.Lib.SmallJoins
import Derived.Stop.LaidErr
import Derived.MakeChecks
import Derived.Shelf.Vars
import Derived.Test.YtimmadkbkimonaaGreatDoorKPsk5
set_option linter.unusedSimpArgs false
set_option linter.unusedVariables false
open List renaming getElem_toArray → lq0, getElem_cons_succ → lq1, getElem_cons_zero → lq2, setIfInBounds_toArray → lq3, set_cons_zero → lq4, set_cons_succ → lq5
namespace Go.Proofs.YtimmadkbkimonaaGreatDoor
set_option linter.unusedSimpArgs false
set_option linter.unusedVariables false
open Go.RowKit

def norK (f : FaceV) (k : Nat) : FaceV := (List.range k).foldl (fun least (b : Nat) => if cmpZ (turnF f b).kinds least.kinds < 0 then turnF f b else least) f
theorem norK_succ (f : FaceV) (k : Nat) : norK f (k + 1) = if cmpZ (turnF f k).kinds (norK f k).kinds < 0 then turnF f k else norK f k := by
  unfold norK
  rw [List.range_succ, List.foldl_append]
  rfl
def KOk (W : World) (L : Nat) (a : Option Addr) (n c : Nat) (l : List Int) : Prop := RdI W a n c l ∧ ∀ b off, a = some ⟨b, off, none⟩ → b ≠ L
theorem KOk.below {W W' : World} {L : Nat} {a : Option Addr} {n c : Nat} {l : List Int} (h : KOk W L a n c l) (hb : Below W.heap.size W W') : KOk W' L a n c l := ⟨h.1.below hb, h.2⟩
theorem KOk.step {W W' : World} {L : Nat} {a : Option Addr} {n c : Nat} {l : List Int} (h : KOk W L a n c l) (hg : W.grownBy W' (some L)) : KOk W' L a n c l :=
  ⟨RdA.of_cells h.1 (fun b hb hlt => by
    obtain ⟨off, e⟩ := hb
    exact hg.block b hlt (fun e2 => h.2 b off e (Option.some.inj e2))), h.2⟩
theorem KOk.own {w W : World} {g : FaceV} {a : Option Addr} {n L : Nat} {A : Array Value} (h : FOwn w W g a n) (hL : W.heap[L]? = some (.cells A 28 (0, 0))) : KOk W L a g.kinds.length n g.kinds :=
  ⟨h.rd, fun b off e e2 => by
    have h1 := qown_no h hL (by simp)
    rw [e] at h1
    exact h1 (by rw [← e2]; rfl)⟩
set_option maxHeartbeats 4000000 in
set_option maxRecDepth 100000 in
theorem normalP_any (f : FaceV) (a : Option Addr) (n : Nat) (w : World) (hr : RdI w a f.kinds.length n f.kinds) :
    Calls Tryz.prog 44 #[.agg (f.cells a n)] w fun e w' => (∃ a' n', e = .returned (.tuple #[.agg ((normalP f).1.cells a' n'), .int .i64 (normalP f).2]) ∧ FOwn w w' (normalP f).1 a' n') ∧ Below w.heap.size w w' := by
  have AV := Lib.hid (fun W (hb : Below w.heap.size w W) => valid2_any f a n W (hr.below hb))
  have HR := Lib.hid (fun W (hb : Below w.heap.size w W) => hr.below hb)
  clear hr
  have AL := Lib.hid (al2 w (.cells (f.cells a n) 28) (.cells #[.int .i64 0, .int .i64 0, .int .i64 0, .slice none 0 0] 28))
  go_enter Tryz.func44, Tryz.ntmps44
  go_upto_region 1 with fail
  obtain ⟨p, hp⟩ : ∃ p, Hid (w.heap.size = p) := ⟨_, Lib.hid rfl⟩
  obtain ⟨z, hz⟩ : ∃ z, Hid (w.heap.size + 1 = z) := ⟨_, Lib.hid rfl⟩
  rw [hz.out] at AL ⊢
  rw [hp.out] at AL ⊢
  generalize ((w.alloc (.cells (f.cells a n) 28)).alloc (.cells #[.int .i64 0, .int .i64 0, .int .i64 0, .slice none 0 0] 28)) = W0 at *
  have BF : Hid (Below w.heap.size w W0) := Lib.hid (by rw [hp.out]; exact AL.out.1)
  have XF : Hid (W0.heap[p]? = some (.cells (f.cells a n) 28 (0, 0))) := Lib.hid AL.out.2.1
  have XZ : Hid (W0.heap[z]? = some (.cells (zeroF.cells none 0) 28 (0, 0))) := Lib.hid AL.out.2.2
  clear AL
  have c0 := qcell XF.out 0 (.int .i64 f.eye) rfl
  have c1 := qcell XF.out 1 (.int .i64 f.rings) rfl
  have c2 := qcell XF.out 2 (.int .i64 f.sectors) rfl
  have c3 := qcell XF.out 3 (.slice a f.kinds.length n) rfl
  go_wp2_with (first
    | (refine wpList_load_row rfl 28 _ rfl p rfl 28 (f.cells a n) (0, 0) _ XF.out Tryz.underlying28 rfl (by exact (qJF f a n)) ?_)
    | (refine wpList_load_row rfl 28 _ rfl z rfl 28 (zeroF.cells none 0) (0, 0) _ XZ.out Tryz.underlying28 rfl (by exact (qJF zeroF none 0)) ?_)
    | fail)
  refine (AV.out W0 BF.out).mono ?_
  rintro e V1 ⟨rfl, b⟩
  clear c0 c1 c2 c3
  replace BF := Lib.hid (BF.out.trans (b.mono BF.out.size))
  replace XF := Lib.hid (qblk b XF.out)
  replace XZ := Lib.hid (qblk b XZ.out)
  clear b
  have c0 := qcell XF.out 0 (.int .i64 f.eye) rfl
  have c1 := qcell XF.out 1 (.int .i64 f.rings) rfl
  have c2 := qcell XF.out 2 (.int .i64 f.sectors) rfl
  have c3 := qcell XF.out 3 (.slice a f.kinds.length n) rfl
  cases hv : f.valid
  · go_wp2_with (first
      | (refine wpList_load_row rfl 28 _ rfl p rfl 28 (f.cells a n) (0, 0) _ XF.out Tryz.underlying28 rfl (by exact (qJF f a n)) ?_)
      | (refine wpList_load_row rfl 28 _ rfl z rfl 28 (zeroF.cells none 0) (0, 0) _ XZ.out Tryz.underlying28 rfl (by exact (qJF zeroF none 0)) ?_)
      | (refine wpList_qstore rfl 28 _ _ rfl z (zeroF.cells none 0) (zeroF.cells none 0) 28 rfl rfl XZ.out (by exact (qJF zeroF none 0)) rfl (qone zeroF none 0) ?_; intro VZ hzz hgz; clear c0 c1 c2 c3; replace BF := Lib.hid (qstep BF.out hgz (by have h1 := hz.out; omega)); replace XF := Lib.hid (qgrown hgz XF.out (fun e => by have h1 := hp.out; have h2 := hz.out; have := Option.some.inj e; omega)); replace XZ := Lib.hid hzz; clear hzz hgz; have c0 := qcell XF.out 0 (.int .i64 f.eye) rfl; have c1 := qcell XF.out 1 (.int .i64 f.rings) rfl; have c2 := qcell XF.out 2 (.int .i64 f.sectors) rfl; have c3 := qcell XF.out 3 (.slice a f.kinds.length n) rfl)
      | fail)
    (try simp only [Exit.inBlock, Exit.then])
    refine bodyPost_ret (results_ct rfl _ VZ z 28 (zeroF.cells none 0) (0, 0) _ rfl XZ.out Tryz.underlying28 rfl (by exact (qJF zeroF none 0))) rfl ?_
    unfold normalP
    rw [hv]
    exact ⟨⟨none, 0, rfl, FOwn.nil _ _⟩, BF.out⟩
  · have HV := Lib.hid hv
    have NV := Lib.hid (FaceV.nat hv)
    clear hv
    have LZ : Hid (p < V1.heap.size ∧ z < V1.heap.size) := Lib.hid ⟨qlt XF.out, qlt XZ.out⟩
    go_upto_region 4 with (first
      | (refine wpList_load_row rfl 28 _ rfl p rfl 28 (f.cells a n) (0, 0) _ XF.out Tryz.underlying28 rfl (by exact (qJF f a n)) ?_)
      | (refine wpList_load_row rfl 28 _ rfl z rfl 28 (zeroF.cells none 0) (0, 0) _ XZ.out Tryz.underlying28 rfl (by exact (qJF zeroF none 0)) ?_)
      | (refine wpList_store_new V1 rfl 28 _ _ rfl (zeroF.cells none 0) (f.cells a n) rfl rfl (by exact qJF f a n) rfl (qone f a n) ?_)
      | fail)
    clear c0 c1 c2 c3
    have KW : Hid (∀ b off, a = some ⟨b, off, none⟩ → b < w.heap.size) := Lib.hid (fun b off e => by
      obtain ⟨b0, off0, e2, h2⟩ := (HR.out w (Below.refl _ _)).get (FaceV.kat_at (f := f) (k := 0) (by have := NV.out; have h3 := Nat.mul_pos (show 0 < f.R by omega) (show 0 < f.S by omega); omega))
      rw [e2] at e
      cases e
      exact World.block_lt_of_cell? w _ h2)
    have AL := al1 V1 (.cells (f.cells a n) 28)
    replace BF := Lib.hid (BF.out.trans (AL.1.mono BF.out.size))
    replace XF := Lib.hid (qblk AL.1 XF.out)
    replace XZ := Lib.hid (qblk AL.1 XZ.out)
    have XL := Lib.hid AL.2
    obtain ⟨L, hL⟩ : ∃ L, Hid (V1.heap.size = L) := ⟨_, Lib.hid rfl⟩
    have LG : Hid (w.heap.size ≤ L ∧ L ≠ p ∧ L ≠ z ∧ w.heap.size = p ∧ w.heap.size + 1 = z) := Lib.hid (by have h1 := qlt XF.out; have h2 := hL.out; have h3 := BF.out.size; have h4 := hp.out; have h5 := hz.out; have h6 := V1.size_alloc (.cells (f.cells a n) 28); have h7 := LZ.out; omega)
    rw [hL.out] at XL ⊢
    clear AL
    have KK := Lib.hid (show KOk (V1.alloc (.cells (f.cells a n) 28)) L a f.kinds.length n f.kinds from ⟨HR.out _ BF.out, fun b off e e2 => by have h1 := KW.out b off e; have h2 := LG.out; omega⟩)
    generalize V1.alloc (.cells (f.cells a n) 28) = V2 at *
    have c0 := qcell XF.out 0 (.int .i64 f.eye) rfl
    have c1 := qcell XF.out 1 (.int .i64 f.rings) rfl
    have c2 := qcell XF.out 2 (.int .i64 f.sectors) rfl
    have c3 := qcell XF.out 3 (.slice a f.kinds.length n) rfl
    go_wp2_with fail
    clear c0 c1 c2 c3
    have eS := NV.out.2.1
    rw [eS]
    clear eS
    go_loopw [14] (fun i wr => ∃ (k : Nat) (la : Option Addr) (ln : Nat), i = .int .i64 k ∧ k ≤ f.S ∧ Hid (KOk wr L la (norK f k).kinds.length ln (norK f k).kinds) ∧ Hid (Below w.heap.size w wr) ∧ Hid (wr.heap[p]? = some (.cells (f.cells a n) 28 (0, 0))) ∧ Hid (wr.heap[z]? = some (.cells (zeroF.cells none 0) 28 (0, 0))) ∧ Hid (wr.heap[L]? = some (.cells ((norK f k).cells la ln) 28 (0, 0)))) (fun i _ => f.S - (intOf i).toNat)
    case atStart => exact ⟨0, a, n, rfl, Nat.zero_le _, KK, BF, XF, XZ, XL⟩
    case round =>
      clear KK BF XF XZ XL
      obtain ⟨k, la, ln, rfl, hk, KK, BF, XF, XZ, XL⟩ := hrel
      by_cases hkn : k < f.S
      · have t0 : decide ((k : Int) < (f.S : Int)) = true := by simp; omega
        have HK64 : Hid ((k : Int) + 1 ≤ 9223372036854775807) := Lib.hid (by have := NV.out; omega)
        have c0 := qcell XF.out 0 (.int .i64 f.eye) rfl
        have c1 := qcell XF.out 1 (.int .i64 f.rings) rfl
        have c2 := qcell XF.out 2 (.int .i64 f.sectors) rfl
        have c3 := qcell XF.out 3 (.slice a f.kinds.length n) rfl
        have l3 := qcell XL.out 3 (.slice la (norK f k).kinds.length ln) rfl
        go_wp2_with (first
          | (refine wpList_load_row rfl 28 _ rfl p rfl 28 (f.cells a n) (0, 0) _ XF.out Tryz.underlying28 rfl (by exact (qJF f a n)) ?_)
          | (refine wpList_load_row rfl 28 _ rfl z rfl 28 (zeroF.cells none 0) (0, 0) _ XZ.out Tryz.underlying28 rfl (by exact (qJF zeroF none 0)) ?_)
          | (refine wpList_load_row rfl 28 _ rfl L rfl 28 ((norK f k).cells la ln) (0, 0) _ XL.out Tryz.underlying28 rfl (by exact (qJF (norK f k) la ln)) ?_)
          | fail)
        refine (turned_any f a n k wr HV.out (HR.out wr BF.out)).mono ?_
        rintro e V3 ⟨⟨a', n', rfl, own⟩, b⟩
        have BB := Lib.hid BF.out
        replace KK := Lib.hid (KK.out.below b)
        clear c0 c1 c2 c3 l3
        replace BF := Lib.hid (BF.out.trans (b.mono BF.out.size))
        replace XF := Lib.hid (qblk b XF.out)
        replace XZ := Lib.hid (qblk b XZ.out)
        replace XL := Lib.hid (qblk b XL.out)
        clear b
        have c0 := qcell XF.out 0 (.int .i64 f.eye) rfl
        have c1 := qcell XF.out 1 (.int .i64 f.rings) rfl
        have c2 := qcell XF.out 2 (.int .i64 f.sectors) rfl
        have c3 := qcell XF.out 3 (.slice a f.kinds.length n) rfl
        have l3 := qcell XL.out 3 (.slice la (norK f k).kinds.length ln) rfl
        have OW := Lib.hid (own.mono BB.out.size)
        clear own t0
        go_upto_region 8 with (first
          | (refine wpList_load_row rfl 28 _ rfl p rfl 28 (f.cells a n) (0, 0) _ XF.out Tryz.underlying28 rfl (by exact (qJF f a n)) ?_)
          | (refine wpList_load_row rfl 28 _ rfl z rfl 28 (zeroF.cells none 0) (0, 0) _ XZ.out Tryz.underlying28 rfl (by exact (qJF zeroF none 0)) ?_)
          | (refine wpList_load_row rfl 28 _ rfl L rfl 28 ((norK f k).cells la ln) (0, 0) _ XL.out Tryz.underlying28 rfl (by exact (qJF (norK f k) la ln)) ?_)
          | (refine wpList_store_new V3 rfl 28 _ _ rfl (zeroF.cells none 0) ((turnF f k).cells a' n') rfl rfl (by exact qJF (turnF f k) a' n') rfl (qone (turnF f k) a' n') ?_)
          | fail)
        clear c0 c1 c2 c3 l3
        have AL := al1 V3 (.cells ((turnF f k).cells a' n') 28)
        replace BF := Lib.hid (BF.out.trans (AL.1.mono BF.out.size))
        replace XF := Lib.hid (qblk AL.1 XF.out)
        replace XZ := Lib.hid (qblk AL.1 XZ.out)
        replace KK := Lib.hid (KK.out.below AL.1)
        replace OW := Lib.hid (OW.out.below AL.1)
        have GL : Hid (V3.heap.size ≠ L) := Lib.hid (by have := qlt XL.out; omega)
        replace XL := Lib.hid (qblk AL.1 XL.out)
        have XG := Lib.hid AL.2
        obtain ⟨g, hg⟩ : ∃ g, Hid (V3.heap.size = g) := ⟨_, Lib.hid rfl⟩
        rw [hg.out] at XG GL ⊢
        clear AL
        generalize V3.alloc (.cells ((turnF f k).cells a' n') 28) = V4 at *
        have c0 := qcell XF.out 0 (.int .i64 f.eye) rfl
        have c1 := qcell XF.out 1 (.int .i64 f.rings) rfl
        have c2 := qcell XF.out 2 (.int .i64 f.sectors) rfl
        have c3 := qcell XF.out 3 (.slice a f.kinds.length n) rfl
        have l3 := qcell XL.out 3 (.slice la (norK f k).kinds.length ln) rfl
        have g3 := qcell XG.out 3 (.slice a' (turnF f k).kinds.length n') rfl
        go_wp2_with (first
          | (refine wpList_load_row rfl 28 _ rfl p rfl 28 (f.cells a n) (0, 0) _ XF.out Tryz.underlying28 rfl (by exact (qJF f a n)) ?_)
          | (refine wpList_load_row rfl 28 _ rfl z rfl 28 (zeroF.cells none 0) (0, 0) _ XZ.out Tryz.underlying28 rfl (by exact (qJF zeroF none 0)) ?_)
          | (refine wpList_load_row rfl 28 _ rfl L rfl 28 ((norK f k).cells la ln) (0, 0) _ XL.out Tryz.underlying28 rfl (by exact (qJF (norK f k) la ln)) ?_)
          | (refine wpList_load_row rfl 28 _ rfl g rfl 28 ((turnF f k).cells a' n') (0, 0) _ XG.out Tryz.underlying28 rfl (by exact (qJF (turnF f k) a' n')) ?_)
          | fail)
        refine (cmpZ_any a' _ n' _ la _ ln _ V4 OW.out.rd KK.out.1).mono ?_
        rintro e V5 ⟨rfl, rfl⟩
        cases hc : decide (cmpZ (turnF f k).kinds (norK f k).kinds < 0)
        · have E : Hid (norK f (k + 1) = norK f k) := Lib.hid (by rw [norK_succ, if_neg (of_decide_eq_false hc)])
          have hk64 := HK64.out
          go_wp2_with (first
            | (refine wpList_load_row rfl 28 _ rfl p rfl 28 (f.cells a n) (0, 0) _ XF.out Tryz.underlying28 rfl (by exact (qJF f a n)) ?_)
            | (refine wpList_load_row rfl 28 _ rfl z rfl 28 (zeroF.cells none 0) (0, 0) _ XZ.out Tryz.underlying28 rfl (by exact (qJF zeroF none 0)) ?_)
            | (refine wpList_load_row rfl 28 _ rfl L rfl 28 ((norK f k).cells la ln) (0, 0) _ XL.out Tryz.underlying28 rfl (by exact (qJF (norK f k) la ln)) ?_)
            | (refine wpList_load_row rfl 28 _ rfl g rfl 28 ((turnF f k).cells a' n') (0, 0) _ XG.out Tryz.underlying28 rfl (by exact (qJF (turnF f k) a' n')) ?_)
            | fail)
          go_roundw
          case rel =>
            refine ⟨k + 1, la, ln, by simp, by omega, ?_, BF, XF, XZ, ?_⟩
            · rw [E.out]; exact KK
            · rw [E.out]; exact XL
          case measure => simp [intOf]; omega
        · have E : Hid (norK f (k + 1) = turnF f k) := Lib.hid (by rw [norK_succ, if_pos (of_decide_eq_true hc)])
          go_upto_region 10 with (first
            | (refine wpList_load_row rfl 28 _ rfl p rfl 28 (f.cells a n) (0, 0) _ XF.out Tryz.underlying28 rfl (by exact (qJF f a n)) ?_)
            | (refine wpList_load_row rfl 28 _ rfl z rfl 28 (zeroF.cells none 0) (0, 0) _ XZ.out Tryz.underlying28 rfl (by exact (qJF zeroF none 0)) ?_)
            | (refine wpList_load_row rfl 28 _ rfl L rfl 28 ((norK f k).cells la ln) (0, 0) _ XL.out Tryz.underlying28 rfl (by exact (qJF (norK f k) la ln)) ?_)
            | (refine wpList_load_row rfl 28 _ rfl g rfl 28 ((turnF f k).cells a' n') (0, 0) _ XG.out Tryz.underlying28 rfl (by exact (qJF (turnF f k) a' n')) ?_)
            | (refine wpList_qstore rfl 28 _ _ rfl L ((norK f k).cells la ln) ((turnF f k).cells a' n') 28 rfl rfl XL.out (by exact (qJF (turnF f k) a' n')) rfl (qone (turnF f k) a' n') ?_; intro V6 hzz hgz; clear c0 c1 c2 c3 l3 g3; replace BF := Lib.hid (qstep BF.out hgz (by have h1 := LG.out; omega)); replace XF := Lib.hid (qgrown hgz XF.out (fun e => by have h1 := LG.out; have := Option.some.inj e; omega)); replace XZ := Lib.hid (qgrown hgz XZ.out (fun e => by have h1 := LG.out; have := Option.some.inj e; omega)); replace XG := Lib.hid (qgrown hgz XG.out (fun e => by exact GL.out (Option.some.inj e))); replace OW := Lib.hid (OW.out.kept hgz XL.out); replace XL := Lib.hid hzz; clear hzz hgz; have c0 := qcell XF.out 0 (.int .i64 f.eye) rfl; have c1 := qcell XF.out 1 (.int .i64 f.rings) rfl; have c2 := qcell XF.out 2 (.int .i64 f.sectors) rfl; have c3 := qcell XF.out 3 (.slice a f.kinds.length n) rfl; have g3 := qcell XG.out 3 (.slice a' (turnF f k).kinds.length n') rfl)
            | fail)
          have hk64 := HK64.out
          go_wp2_with fail
          go_roundw
          case rel =>
            refine ⟨k + 1, a', n', by simp, by omega, ?_, BF, XF, XZ, ?_⟩
            · rw [E.out]; exact Lib.hid (KOk.own OW.out XL.out)
            · rw [E.out]; exact XL
          case measure => simp [intOf]; omega
      · have t0 : decide ((k : Int) < (f.S : Int)) = false := by simp; omega
        have e : k = f.S := by omega
        subst e
        have EN : Hid (norK f f.S = normalF f) := Lib.hid rfl
        rw [EN.out] at KK XL
        have NL := Lib.hid (FaceV.len_le (normal_valid HV.out))
        go_upto_region 11 with fail
        have hz0 : Below wr.heap.size wr wr.drew := (Below.refl _ _).drew
        replace XZ := Lib.hid (qblk hz0 XZ.out)
        replace KK := Lib.hid (KK.out.below hz0)
        clear hz0 XF t0
        have l3 := qcell XL.out 3 (.slice la (normalF f).kinds.length ln) rfl
        clear l3
        have hd : Below wr.heap.size wr wr.drew := (Below.refl _ _).drew
        replace BF := Lib.hid (BF.out.drew)
        replace XL := Lib.hid (qblk hd XL.out)
        refine zD (fun W => Below w.heap.size w W ∧ W.heap[L]? = some (.cells ((normalF f).cells la ln) 28 (0, 0))) ⟨BF.out, XL.out⟩ (fun hHeld => ?_)
        clear hd
        generalize wr.drew = V3 at *
        refine zT 0 rfl (.agg ((normalF f).cells la ln)) (qyrow (by kernel_rfl) 28 _ rfl L rfl _ 28 (0, 0) _ (fun W hW => hW.2) Tryz.underlying28 rfl (by exact (qJF (normalF f) la ln))) ?_
        refine zW 1 rfl (.pointer (some ⟨L, 3, none⟩)) ?_
        refine zS 2 rfl (.slice la (normalF f).kinds.length ln) (fun W hW => by have c := qcell hW.2 3 (.slice la (normalF f).kinds.length ln) rfl; go_simp) ?_
        refine zR 3 rfl (fun K hK => ?_)
        go_simp
        refine (cloneZ_any la (normalF f).kinds.length ln (normalF f).kinds V3 (by have := NL.out; omega) KK.out.1).mono ?_
        rintro e V4 ⟨a', n', rfl, own, b⟩
        have OW := Lib.hid (own_mono own BF.out.size)
        clear own
        replace XZ := Lib.hid (qblk b XZ.out)
        replace BF := Lib.hid (BF.out.trans (b.mono BF.out.size))
        replace XL := Lib.hid (qblk b XL.out)
        clear b
        dsimp only
        refine zK hK ⟨BF.out, XL.out⟩ (fun hHeld => ?_)
        clear hK K
        refine zR 4 rfl (fun K hK => ?_)
        go_simp
        refine (with_any (normalF f) la ln (normalF f).kinds a' (normalF f).kinds.length n' V4 rfl).mono ?_
        rintro e V5 ⟨rfl, b⟩
        replace XZ := Lib.hid (qblk b XZ.out)
        replace OW := Lib.hid (own_below OW.out b)
        replace BF := Lib.hid (BF.out.trans (b.mono BF.out.size))
        replace XL := Lib.hid (qblk b XL.out)
        clear b
        dsimp only
        refine zK hK ⟨BF.out, XL.out⟩ (fun hHeld => ?_)
        clear hK K
        have eW : withF (normalF f) (normalF f).kinds = normalF f := rfl
        rw [eW]
        clear eW
        refine zR 5 rfl (fun K hK => ?_)
        rw [if_pos (by kernel_rfl)]
        refine qstore 28 _ _ rfl z (zeroF.cells none 0) ((normalF f).cells a' n') 28 rfl rfl XZ.out (by exact qJF (normalF f) a' n') rfl (qone (normalF f) a' n') ?_
        intro X h8 hg8 hs8
        replace BF := Lib.hid (qstep BF.out hg8 (by have := LG.out; omega))
        replace XL := Lib.hid (qgrown hg8 XL.out (fun e => by have h1 := LG.out; have := Option.some.inj e; omega))
        have OW2 : Hid (FOwn w X (normalF f) a' n') := Lib.hid (FOwn.kept OW.out hg8 XZ.out)
        replace XZ := Lib.hid h8
        clear h8 hg8 hs8
        refine zK hK ⟨BF.out, XL.out⟩ (fun hHeld => ?_)
        clear hK K
        refine zW 6 rfl (.int .i64 0) ?_
        refine zE ?_
        clear hHeld
        go_wp2_with fail
        (try simp only [Exit.inBlock, Exit.then])
        refine bodyPost_ret (results_ct rfl _ X z 28 ((normalF f).cells a' n') (0, 0) _ rfl XZ.out Tryz.underlying28 rfl (by exact (qJF (normalF f) a' n'))) rfl ?_
        unfold normalP
        rw [HV.out]
        exact ⟨⟨a', n', rfl, OW2.out⟩, BF.out⟩
end Go.Proofs.YtimmadkbkimonaaGreatDoor
namespace Go.Proofs.YtimmadkbkimonaaGreatDoor
set_option linter.unusedSimpArgs false
set_option linter.unusedVariables false
open Go.RowKit

theorem lit_ints (W : World) (l : List Int) (h : l.length ≤ 1000000) : RdI (W.alloc (.cells (l.map intV).toArray 3)) (some ⟨W.heap.size, 0, none⟩) l.length l.length l := by
  have := RdA.of_own (World.ownsRow_lit (base := W.heap.size) (e := 3) (size := 1) W (l.map intV).toArray l.length (Nat.le_refl _) (by unfold maxLen; omega) (by simp))
  exact this
theorem lit_fur (W : World) (x : FurV) : RdFu (W.alloc (.cells (furA x) 76)) (some ⟨W.heap.size, 0, none⟩) 1 1 [x] :=
  RdA.of_own (World.ownsRow_lit (base := W.heap.size) (e := 76) (size := 6) W (furA x) 1 (Nat.le_refl _) (by unfold maxLen; omega) rfl)
theorem lit_lists (W : World) (a b : Addr) (l m : List Int) (h1 : RdI W (some a) l.length l.length l) (h2 : RdI W (some b) m.length m.length m) : RdLL (W.alloc (.cells #[.slice (some a) l.length l.length, .slice (some b) m.length m.length] 26)) (some ⟨W.heap.size, 0, none⟩) 2 2 [l, m] := by
  have AL := al1 W (.cells #[.slice (some a) l.length l.length, .slice (some b) m.length m.length] 26)
  refine ⟨rfl, Nat.le_refl _, by unfold maxLen; omega, fun j x hj => ?_⟩
  match j, hj with
  | 0, hj => cases hj; exact ⟨W.heap.size, 0, some a, l.length, rfl, qcell AL.2 0 _ rfl, h1.below AL.1⟩
  | 1, hj => cases hj; exact ⟨W.heap.size, 0, some b, m.length, rfl, qcell AL.2 1 _ rfl, h2.below AL.1⟩
  | j + 2, hj => simp at hj
theorem sameInts2_any (a : Option Addr) (n c : Nat) (l : List Int) (a' : Option Addr) (n' c' : Nat) (l' : List Int) (w : World) (hr : RdI w a n c l) (hr' : RdI w a' n' c' l') :
    Calls Tryz.prog 34 #[.slice a n c, .slice a' n' c'] w fun e w' => e = .returned (.bool (decide (l = l'))) ∧ Below w.heap.size w w' := by
  refine (sameInts_any a n c l a' n' c' l' w hr hr').mono ?_
  rintro e V ⟨rfl, q, rfl⟩
  exact ⟨rfl, rfl, rfl, rfl, Nat.le_refl _, fun _ _ => rfl⟩
theorem smp_cut : Lib.cut [102, 97, 99, 101, 32, 49, 32, 50, 32, 48, 52, 10] [10] = ([102, 97, 99, 101, 32, 49, 32, 50, 32, 48, 52], [], true) := by decide +kernel
theorem smp_hdr : (hdrF ⟨#[102, 97, 99, 101, 32, 49, 32, 50, 32, 48, 52]⟩).2 = false := by decide +kernel
set_option maxHeartbeats 4000000 in
set_option maxRecDepth 100000 in
theorem awake_any (w : World) (he : EnvW w) : Calls Tryz.prog 11 #[] w fun e w' => e = .returned (.bool true) ∧ Below w.heap.size w w' := by
  have EV := Lib.hid (fun W (hb : Below w.heap.size w W) => he.below hb)
  clear he
  have BF := Lib.hid (Below.refl w.heap.size w)
  go_enter Tryz.func11, Tryz.ntmps11
  go_upto_region 1 with fail
  refine yB ?_
  refine yR (fun K hK => ?_)
  go_simp
  refine (sample_any _).mono ?_
  rintro e U1 ⟨⟨aS1, nS1, rfl, own⟩, b⟩
  have S1 := Lib.hid own.rd
  clear own
  replace BF := Lib.hid (BF.out.trans (b.mono BF.out.size))
  clear b
  try dsimp only
  refine yK hK ?_
  clear hK K
  refine yR (fun K hK => ?_)
  go_simp
  refine (areaP_any sampleF aS1 nS1 0 _ S1.out).mono ?_
  rintro e U2 ⟨rfl, b⟩
  rw [smp_area]
  replace BF := Lib.hid (BF.out.trans (b.mono BF.out.size))
  replace S1 := Lib.hid (S1.out.below b)
  clear b
  try dsimp only
  refine yK hK ?_
  clear hK K
  refine yM (.tuple #[.int .i64 19, .int .i64 0]) ?_
  refine yM (.int .i64 19) ?_
  refine yM (.int .i64 0) ?_
  refine yM (.int .i64 19) ?_
  refine yM (.int .i64 0) ?_
  refine yE ?_
  clear S1
  go_upto_region 2 with fail
  refine yB ?_
  refine yR (fun K hK => ?_)
  go_simp
  refine (sample_any _).mono ?_
  rintro e U3 ⟨⟨aS2, nS2, rfl, own⟩, b⟩
  have S2 := Lib.hid own.rd
  clear own
  replace BF := Lib.hid (BF.out.trans (b.mono BF.out.size))
  clear b
  try dsimp only
  refine yK hK ?_
  clear hK K
  refine yR (fun K hK => ?_)
  go_simp
  refine (regionsP_any sampleF aS2 nS2 _ S2.out).mono ?_
  rintro e U4 ⟨⟨oa, oc, rfl, ll⟩, b⟩
  have LL := Lib.hid ll
  clear ll
  rw [show (regionsP sampleF).2 = 0 by rw [smp_regions]]
  replace BF := Lib.hid (BF.out.trans (b.mono BF.out.size))
  replace S2 := Lib.hid (S2.out.below b)
  clear b
  obtain ⟨rl, hrl⟩ : ∃ x, Hid ((regionsP sampleF).1.length = x) := ⟨_, Lib.hid rfl⟩
  rw [hrl.out] at LL ⊢
  try dsimp only
  refine yK hK ?_
  clear hK K
  refine yM (.tuple #[.slice oa rl oc, .int .i64 0]) ?_
  refine yM (.slice oa rl oc) ?_
  refine yM (.int .i64 0) ?_
  refine yM (.slice oa rl oc) ?_
  refine yM (.int .i64 0) ?_
  refine yE ?_
  clear S2
  go_upto_region 3 with fail
  refine yB ?_
  refine yR (fun K hK => ?_)
  go_simp
  refine (sample_any _).mono ?_
  rintro e U5 ⟨⟨aS3, nS3, rfl, own⟩, b⟩
  have S3 := Lib.hid own.rd
  clear own
  replace BF := Lib.hid (BF.out.trans (b.mono BF.out.size))
  replace LL := Lib.hid (LL.out.below b)
  clear b
  try dsimp only
  refine yK hK ?_
  clear hK K
  refine yR (fun K hK => ?_)
  go_simp
  refine (turnP_any sampleF aS3 nS3 1 _ S3.out).mono ?_
  rintro e U6 ⟨⟨bA, mA, rfl, own⟩, b⟩
  have RA := Lib.hid own.rd
  clear own
  rw [show (turnP sampleF 1).2 = 0 by rw [smp_turn]]
  replace BF := Lib.hid (BF.out.trans (b.mono BF.out.size))
  replace LL := Lib.hid (LL.out.below b)
  replace S3 := Lib.hid (S3.out.below b)
  clear b
  obtain ⟨TA, hTA⟩ : ∃ T, Hid ((turnP sampleF 1).1 = T) := ⟨_, Lib.hid rfl⟩
  rw [hTA.out] at RA ⊢
  try dsimp only
  refine yK hK ?_
  clear hK K
  refine yM (.tuple #[.agg (TA.cells bA mA), .int .i64 0]) ?_
  refine yM (.agg (TA.cells bA mA)) ?_
  refine yM (.int .i64 0) ?_
  refine yR (fun K hK => ?_)
  refine qbuild (w' := U6.alloc (.cells #[.int .i64 0, .int .i64 0, .int .i64 0, .slice none 0 0] 28)) (.pointer (some ⟨U6.heap.size, 0, none⟩)) (by kernel_rfl) ?_
  obtain ⟨x5, hx5⟩ : ∃ x, Hid (U6.heap.size = x) := ⟨_, Lib.hid rfl⟩
  have AL := Lib.hid (al1 U6 (.cells #[.int .i64 0, .int .i64 0, .int .i64 0, .slice none 0 0] 28))
  rw [hx5.out] at AL ⊢
  refine yK hK ?_
  clear hK K
  refine yR (fun K hK => ?_)
  refine qstore 28 _ _ rfl x5 #[.int .i64 0, .int .i64 0, .int .i64 0, .slice none 0 0] (TA.cells bA mA) 28 rfl rfl AL.out.2 (by exact qJF TA bA mA) rfl (qone TA bA mA) ?_
  intro U7 h8 hg8 hs8
  have b : Below U6.heap.size U6 U7 := qstep (by have h1 := AL.out.1; rw [← hx5.out] at h1; exact h1) hg8 (Nat.le_of_eq hx5.out)
  replace BF := Lib.hid (BF.out.trans (b.mono BF.out.size))
  replace LL := Lib.hid (LL.out.below b)
  replace S3 := Lib.hid (S3.out.below b)
  replace RA := Lib.hid (RA.out.below b)
  clear b
  have XA := Lib.hid h8
  clear h8 hg8 hs8 AL
  refine yK hK ?_
  clear hK K
  refine yM (.int .i64 0) ?_
  refine yE ?_
  clear S3
  go_upto_region 4 with fail
  refine yB ?_
  refine yR (fun K hK => ?_)
  go_simp
  refine (sample_any _).mono ?_
  rintro e U8 ⟨⟨aS4, nS4, rfl, own⟩, b⟩
  have S4 := Lib.hid own.rd
  clear own
  replace BF := Lib.hid (BF.out.trans (b.mono BF.out.size))
  replace LL := Lib.hid (LL.out.below b)
  replace RA := Lib.hid (RA.out.below b)
  replace XA := Lib.hid (qblk b XA.out)
  clear b
  try dsimp only
  refine yK hK ?_
  clear hK K
  refine yR (fun K hK => ?_)
  go_simp
  refine (normalP_any sampleF aS4 nS4 _ S4.out).mono ?_
  rintro e U9 ⟨⟨bB, mB, rfl, own⟩, b⟩
  have RB := Lib.hid own.rd
  clear own
  rw [show (normalP sampleF).2 = 0 by rw [smp_normal]]
  replace BF := Lib.hid (BF.out.trans (b.mono BF.out.size))
  replace LL := Lib.hid (LL.out.below b)
  replace RA := Lib.hid (RA.out.below b)
  replace S4 := Lib.hid (S4.out.below b)
  replace XA := Lib.hid (qblk b XA.out)
  clear b
  obtain ⟨TB, hTB⟩ : ∃ T, Hid ((normalP sampleF).1 = T) := ⟨_, Lib.hid rfl⟩
  rw [hTB.out] at RB ⊢
  try dsimp only
  refine yK hK ?_
  clear hK K
  refine yM (.tuple #[.agg (TB.cells bB mB), .int .i64 0]) ?_
  refine yM (.agg (TB.cells bB mB)) ?_
  refine yM (.int .i64 0) ?_
  refine yR (fun K hK => ?_)
  refine qbuild (w' := U9.alloc (.cells #[.int .i64 0, .int .i64 0, .int .i64 0, .slice none 0 0] 28)) (.pointer (some ⟨U9.heap.size, 0, none⟩)) (by kernel_rfl) ?_
  obtain ⟨x7, hx7⟩ : ∃ x, Hid (U9.heap.size = x) := ⟨_, Lib.hid rfl⟩
  have AL := Lib.hid (al1 U9 (.cells #[.int .i64 0, .int .i64 0, .int .i64 0, .slice none 0 0] 28))
  rw [hx7.out] at AL ⊢
  refine yK hK ?_
  clear hK K
  refine yR (fun K hK => ?_)
  refine qstore 28 _ _ rfl x7 #[.int .i64 0, .int .i64 0, .int .i64 0, .slice none 0 0] (TB.cells bB mB) 28 rfl rfl AL.out.2 (by exact qJF TB bB mB) rfl (qone TB bB mB) ?_
  intro U10 h8 hg8 hs8
  have b : Below U9.heap.size U9 U10 := qstep (by have h1 := AL.out.1; rw [← hx7.out] at h1; exact h1) hg8 (Nat.le_of_eq hx7.out)
  replace BF := Lib.hid (BF.out.trans (b.mono BF.out.size))
  replace LL := Lib.hid (LL.out.below b)
  replace RA := Lib.hid (RA.out.below b)
  replace S4 := Lib.hid (S4.out.below b)
  replace RB := Lib.hid (RB.out.below b)
  replace XA := Lib.hid (qblk b XA.out)
  clear b
  have XB := Lib.hid h8
  clear h8 hg8 hs8 AL
  refine yK hK ?_
  clear hK K
  refine yM (.int .i64 0) ?_
  refine yE ?_
  clear S4
  go_upto_region 5 with fail
  refine yB ?_
  refine yW (.agg #[.int .i64 0, .int .i64 1, .int .i64 1, .int .i64 1, .int .i64 1, .int .i64 0]) ?_ (.inl ⟨by kernel_rfl, by intro W hW; kernel_rfl⟩)
  refine yR (fun K hK => ?_)
  refine qbuild (w' := U10.alloc (.cells #[.int .i64 0, .int .i64 1, .int .i64 1, .int .i64 1, .int .i64 1, .int .i64 0] 76)) (.slice (some ⟨U10.heap.size, 0, none⟩) 1 1) (by kernel_rfl) ?_
  have LI := lit_fur U10 ⟨0, 1, 1, 1, 1, 0⟩
  have b := zB U10 (.cells #[.int .i64 0, .int .i64 1, .int .i64 1, .int .i64 1, .int .i64 1, .int .i64 0] 76)
  have RF : Hid (RdFu (U10.alloc (.cells #[.int .i64 0, .int .i64 1, .int .i64 1, .int .i64 1, .int .i64 1, .int .i64 0] 76)) (some ⟨U10.heap.size, 0, none⟩) sampleP.furs.length 1 sampleP.furs) := Lib.hid LI
  clear LI
  replace BF := Lib.hid (BF.out.trans (b.mono BF.out.size))
  replace LL := Lib.hid (LL.out.below b)
  replace RA := Lib.hid (RA.out.below b)
  replace RB := Lib.hid (RB.out.below b)
  replace XA := Lib.hid (qblk b XA.out)
  replace XB := Lib.hid (qblk b XB.out)
  clear b
  obtain ⟨fb, hfb⟩ : ∃ x, Hid (U10.heap.size = x) := ⟨_, Lib.hid rfl⟩
  rw [hfb.out] at RF ⊢
  generalize U10.alloc (.cells #[.int .i64 0, .int .i64 1, .int .i64 1, .int .i64 1, .int .i64 1, .int .i64 0] 76) = U11 at *
  refine yK hK ?_
  clear hK K
  refine yW (.agg (patA sampleP (some ⟨fb, 0, none⟩) 1)) ?_ (.inl ⟨by kernel_rfl, by intro W hW; kernel_rfl⟩)
  refine yR (fun K hK => ?_)
  go_simp
  refine (dressP_any sampleP (some ⟨fb, 0, none⟩) 1 _ RF.out).mono ?_
  rintro e U12 ⟨⟨bD, mD, rfl, own⟩, b⟩
  have RD := Lib.hid own.rd
  clear own
  rw [show (dressP sampleP).2 = 0 by rw [smp_dress]]
  replace BF := Lib.hid (BF.out.trans (b.mono BF.out.size))
  replace LL := Lib.hid (LL.out.below b)
  replace RA := Lib.hid (RA.out.below b)
  replace RB := Lib.hid (RB.out.below b)
  replace RF := Lib.hid (RF.out.below b)
  replace XA := Lib.hid (qblk b XA.out)
  replace XB := Lib.hid (qblk b XB.out)
  clear b
  obtain ⟨TD, hTD⟩ : ∃ T, Hid ((dressP sampleP).1 = T) := ⟨_, Lib.hid rfl⟩
  rw [hTD.out] at RD ⊢
  try dsimp only
  refine yK hK ?_
  clear hK K
  refine yM (.tuple #[.agg (TD.cells bD mD), .int .i64 0]) ?_
  refine yM (.agg (TD.cells bD mD)) ?_
  refine yM (.int .i64 0) ?_
  refine yR (fun K hK => ?_)
  refine qbuild (w' := U12.alloc (.cells #[.int .i64 0, .int .i64 0, .int .i64 0, .slice none 0 0] 28)) (.pointer (some ⟨U12.heap.size, 0, none⟩)) (by kernel_rfl) ?_
  obtain ⟨x9, hx9⟩ : ∃ x, Hid (U12.heap.size = x) := ⟨_, Lib.hid rfl⟩
  have AL := Lib.hid (al1 U12 (.cells #[.int .i64 0, .int .i64 0, .int .i64 0, .slice none 0 0] 28))
  rw [hx9.out] at AL ⊢
  refine yK hK ?_
  clear hK K
  refine yR (fun K hK => ?_)
  refine qstore 28 _ _ rfl x9 #[.int .i64 0, .int .i64 0, .int .i64 0, .slice none 0 0] (TD.cells bD mD) 28 rfl rfl AL.out.2 (by exact qJF TD bD mD) rfl (qone TD bD mD) ?_
  intro U13 h8 hg8 hs8
  have b : Below U12.heap.size U12 U13 := qstep (by have h1 := AL.out.1; rw [← hx9.out] at h1; exact h1) hg8 (Nat.le_of_eq hx9.out)
  replace BF := Lib.hid (BF.out.trans (b.mono BF.out.size))
  replace LL := Lib.hid (LL.out.below b)
  replace RA := Lib.hid (RA.out.below b)
  replace RB := Lib.hid (RB.out.below b)
  replace RF := Lib.hid (RF.out.below b)
  replace RD := Lib.hid (RD.out.below b)
  replace XA := Lib.hid (qblk b XA.out)
  replace XB := Lib.hid (qblk b XB.out)
  clear b
  have XD := Lib.hid h8
  clear h8 hg8 hs8 AL
  refine yK hK ?_
  clear hK K
  refine yM (.int .i64 0) ?_
  refine yE ?_
  clear RF
  go_upto_region 6 with fail
  refine yB ?_
  refine yR (fun K hK => ?_)
  go_simp
  refine (parseX_any ⟨#[102, 97, 99, 101, 32, 49, 32, 50, 32, 48, 52, 10]⟩ ⟨#[102, 97, 99, 101, 32, 49, 32, 50, 32, 48, 52]⟩ ⟨#[]⟩ true _ (by decide) (EV.out _ BF.out) (by decide) smp_cut ⟨by decide, by decide, smp_hdr⟩).mono ?_
  rintro e U14 ⟨rfl, b⟩
  replace BF := Lib.hid (BF.out.trans (b.mono BF.out.size))
  replace LL := Lib.hid (LL.out.below b)
  replace RA := Lib.hid (RA.out.below b)
  replace RB := Lib.hid (RB.out.below b)
  replace RD := Lib.hid (RD.out.below b)
  replace XA := Lib.hid (qblk b XA.out)
  replace XB := Lib.hid (qblk b XB.out)
  replace XD := Lib.hid (qblk b XD.out)
  clear b
  try dsimp only
  refine yK hK ?_
  clear hK K
  refine yM (.tuple #[.agg (zeroF.cells none 0), .int .i64 11, .int .i64 1]) ?_
  refine yM (.agg (zeroF.cells none 0)) ?_
  refine yM (.int .i64 11) ?_
  refine yM (.int .i64 1) ?_
  refine yR (fun K hK => ?_)
  refine qbuild (w' := U14.alloc (.cells #[.int .i64 0, .int .i64 0, .int .i64 0, .slice none 0 0] 28)) (.pointer (some ⟨U14.heap.size, 0, none⟩)) (by kernel_rfl) ?_
  obtain ⟨x11, hx11⟩ : ∃ x, Hid (U14.heap.size = x) := ⟨_, Lib.hid rfl⟩
  have AL := Lib.hid (al1 U14 (.cells #[.int .i64 0, .int .i64 0, .int .i64 0, .slice none 0 0] 28))
  rw [hx11.out] at AL ⊢
  refine yK hK ?_
  clear hK K
  refine yR (fun K hK => ?_)
  refine qstore 28 _ _ rfl x11 #[.int .i64 0, .int .i64 0, .int .i64 0, .slice none 0 0] (zeroF.cells none 0) 28 rfl rfl AL.out.2 (by exact qJF zeroF none 0) rfl (qone zeroF none 0) ?_
  intro U15 h8 hg8 hs8
  have b : Below U14.heap.size U14 U15 := qstep (by have h1 := AL.out.1; rw [← hx11.out] at h1; exact h1) hg8 (Nat.le_of_eq hx11.out)
  replace BF := Lib.hid (BF.out.trans (b.mono BF.out.size))
  replace LL := Lib.hid (LL.out.below b)
  replace RA := Lib.hid (RA.out.below b)
  replace RB := Lib.hid (RB.out.below b)
  replace RD := Lib.hid (RD.out.below b)
  replace XA := Lib.hid (qblk b XA.out)
  replace XB := Lib.hid (qblk b XB.out)
  replace XD := Lib.hid (qblk b XD.out)
  clear b
  clear h8 hg8 hs8 AL
  refine yK hK ?_
  clear hK K
  refine yM (.int .i64 11) ?_
  refine yM (.int .i64 1) ?_
  refine yE ?_
  go_upto_region 7 with fail
  refine yB ?_
  refine yM (.int .i64 0) ?_
  refine yW (.bool false) ?_
  refine yM (.bool false) ?_
  refine yM (.int .i64 0) ?_
  refine yW (.bool false) ?_
  refine yM (.bool false) ?_
  refine yM (.bool false) ?_
  refine yM (.int .i64 0) ?_
  refine yW (.bool false) ?_
  refine yM (.bool false) ?_
  refine yM (.bool false) ?_
  refine yM (.int .i64 0) ?_
  refine yW (.bool false) ?_
  refine yM (.bool false) ?_
  refine yM (.bool false) ?_
  refine yM (.int .i64 0) ?_
  refine yW (.bool false) ?_
  refine yM (.bool false) ?_
  refine yM (.bool false) ?_
  refine yM (.int .i64 11) ?_
  refine yW (.bool false) ?_
  refine yM (.bool false) ?_
  refine yM (.bool false) ?_
  refine yM (.int .i64 1) ?_
  refine yW (.bool false) ?_
  refine yM (.bool false) ?_
  refine yM (.bool false) ?_
  refine yM (.int .i64 19) ?_
  refine yW (.bool false) ?_
  refine yM (.bool false) ?_
  refine yE ?_
  go_upto_region 9 with fail
  refine yB ?_
  refine yM (.slice oa rl oc) ?_
  refine yR (fun K hK => ?_)
  refine qbuild (w' := U15.alloc (.cells #[.int .i64 0, .int .i64 2, .int .i64 3, .int .i64 4, .int .i64 7] 3)) (.slice (some ⟨U15.heap.size, 0, none⟩) 5 5) (by kernel_rfl) ?_
  have LI := lit_ints U15 [0, 2, 3, 4, 7] (by decide)
  have b := zB U15 (.cells #[.int .i64 0, .int .i64 2, .int .i64 3, .int .i64 4, .int .i64 7] 3)
  have K1 : Hid (RdI (U15.alloc (.cells #[.int .i64 0, .int .i64 2, .int .i64 3, .int .i64 4, .int .i64 7] 3)) (some ⟨U15.heap.size, 0, none⟩) 5 5 [0, 2, 3, 4, 7]) := Lib.hid LI
  clear LI
  replace BF := Lib.hid (BF.out.trans (b.mono BF.out.size))
  replace LL := Lib.hid (LL.out.below b)
  replace RA := Lib.hid (RA.out.below b)
  replace RB := Lib.hid (RB.out.below b)
  replace RD := Lib.hid (RD.out.below b)
  replace XA := Lib.hid (qblk b XA.out)
  replace XB := Lib.hid (qblk b XB.out)
  replace XD := Lib.hid (qblk b XD.out)
  clear b
  obtain ⟨gK1, hgK1⟩ : ∃ x, Hid (U15.heap.size = x) := ⟨_, Lib.hid rfl⟩
  rw [hgK1.out] at K1 ⊢
  generalize U15.alloc (.cells #[.int .i64 0, .int .i64 2, .int .i64 3, .int .i64 4, .int .i64 7] 3) = U16 at *
  refine yK hK ?_
  clear hK K
  refine yR (fun K hK => ?_)
  refine qbuild (w' := U16.alloc (.cells #[.int .i64 1, .int .i64 5, .int .i64 6] 3)) (.slice (some ⟨U16.heap.size, 0, none⟩) 3 3) (by kernel_rfl) ?_
  have LI := lit_ints U16 [1, 5, 6] (by decide)
  have b := zB U16 (.cells #[.int .i64 1, .int .i64 5, .int .i64 6] 3)
  have K2 : Hid (RdI (U16.alloc (.cells #[.int .i64 1, .int .i64 5, .int .i64 6] 3)) (some ⟨U16.heap.size, 0, none⟩) 3 3 [1, 5, 6]) := Lib.hid LI
  clear LI
  replace BF := Lib.hid (BF.out.trans (b.mono BF.out.size))
  replace LL := Lib.hid (LL.out.below b)
  replace RA := Lib.hid (RA.out.below b)
  replace RB := Lib.hid (RB.out.below b)
  replace RD := Lib.hid (RD.out.below b)
  replace K1 := Lib.hid (K1.out.below b)
  replace XA := Lib.hid (qblk b XA.out)
  replace XB := Lib.hid (qblk b XB.out)
  replace XD := Lib.hid (qblk b XD.out)
  clear b
  obtain ⟨gK2, hgK2⟩ : ∃ x, Hid (U16.heap.size = x) := ⟨_, Lib.hid rfl⟩
  rw [hgK2.out] at K2 ⊢
  generalize U16.alloc (.cells #[.int .i64 1, .int .i64 5, .int .i64 6] 3) = U17 at *
  refine yK hK ?_
  clear hK K
  refine yR (fun K hK => ?_)
  refine qbuild (w' := U17.alloc (.cells #[.slice (some ⟨gK1, 0, none⟩) 5 5, .slice (some ⟨gK2, 0, none⟩) 3 3] 26)) (.slice (some ⟨U17.heap.size, 0, none⟩) 2 2) (by kernel_rfl) ?_
  have LI := lit_lists U17 ⟨gK1, 0, none⟩ ⟨gK2, 0, none⟩ [0, 2, 3, 4, 7] [1, 5, 6] K1.out K2.out
  have b := zB U17 (.cells #[.slice (some ⟨gK1, 0, none⟩) 5 5, .slice (some ⟨gK2, 0, none⟩) 3 3] 26)
  have KL : Hid (RdLL (U17.alloc (.cells #[.slice (some ⟨gK1, 0, none⟩) 5 5, .slice (some ⟨gK2, 0, none⟩) 3 3] 26)) (some ⟨U17.heap.size, 0, none⟩) 2 2 [[0, 2, 3, 4, 7], [1, 5, 6]]) := Lib.hid LI
  clear LI
  replace BF := Lib.hid (BF.out.trans (b.mono BF.out.size))
  replace LL := Lib.hid (LL.out.below b)
  replace RA := Lib.hid (RA.out.below b)
  replace RB := Lib.hid (RB.out.below b)
  replace RD := Lib.hid (RD.out.below b)
  replace K1 := Lib.hid (K1.out.below b)
  replace K2 := Lib.hid (K2.out.below b)
  replace XA := Lib.hid (qblk b XA.out)
  replace XB := Lib.hid (qblk b XB.out)
  replace XD := Lib.hid (qblk b XD.out)
  clear b
  obtain ⟨gL, hgL⟩ : ∃ x, Hid (U17.heap.size = x) := ⟨_, Lib.hid rfl⟩
  rw [hgL.out] at KL ⊢
  generalize U17.alloc (.cells #[.slice (some ⟨gK1, 0, none⟩) 5 5, .slice (some ⟨gK2, 0, none⟩) 3 3] 26) = U18 at *
  refine yK hK ?_
  clear hK K
  refine yR (fun K hK => ?_)
  go_simp
  refine (sameLists_any oa rl oc (regionsP sampleF).1 (some ⟨gL, 0, none⟩) 2 2 [[0, 2, 3, 4, 7], [1, 5, 6]] _ LL.out KL.out).mono ?_
  rintro e U19 ⟨rfl, b⟩
  rw [show decide ((regionsP sampleF).1 = [[0, 2, 3, 4, 7], [1, 5, 6]]) = true by rw [smp_regions]; rfl]
  replace BF := Lib.hid (BF.out.trans (b.mono BF.out.size))
  replace LL := Lib.hid (LL.out.below b)
  replace RA := Lib.hid (RA.out.below b)
  replace RB := Lib.hid (RB.out.below b)
  replace RD := Lib.hid (RD.out.below b)
  replace K1 := Lib.hid (K1.out.below b)
  replace K2 := Lib.hid (K2.out.below b)
  replace KL := Lib.hid (KL.out.below b)
  replace XA := Lib.hid (qblk b XA.out)
  replace XB := Lib.hid (qblk b XB.out)
  replace XD := Lib.hid (qblk b XD.out)
  clear b
  try dsimp only
  refine yK hK ?_
  clear hK K
  refine yM (.bool true) ?_
  refine yW (.pointer (some ⟨x5, 3, none⟩)) ?_
  have qx := qcell XA.out 3 (.slice bA TA.kinds.length mA) rfl
  refine yW (.slice bA TA.kinds.length mA) ?_
  refine yR (fun K hK => ?_)
  refine qbuild (w' := U19.alloc (.cells #[.int .i64 0, .int .i64 0, .int .i64 1, .int .i64 0, .int .i64 0, .int .i64 0, .int .i64 1, .int .i64 2] 3)) (.slice (some ⟨U19.heap.size, 0, none⟩) 8 8) (by kernel_rfl) ?_
  have LI := lit_ints U19 [0, 0, 1, 0, 0, 0, 1, 2] (by decide)
  have b := zB U19 (.cells #[.int .i64 0, .int .i64 0, .int .i64 1, .int .i64 0, .int .i64 0, .int .i64 0, .int .i64 1, .int .i64 2] 3)
  have K3 : Hid (RdI (U19.alloc (.cells #[.int .i64 0, .int .i64 0, .int .i64 1, .int .i64 0, .int .i64 0, .int .i64 0, .int .i64 1, .int .i64 2] 3)) (some ⟨U19.heap.size, 0, none⟩) 8 8 [0, 0, 1, 0, 0, 0, 1, 2]) := Lib.hid LI
  clear LI
  replace BF := Lib.hid (BF.out.trans (b.mono BF.out.size))
  replace LL := Lib.hid (LL.out.below b)
  replace RA := Lib.hid (RA.out.below b)
  replace RB := Lib.hid (RB.out.below b)
  replace RD := Lib.hid (RD.out.below b)
  replace K1 := Lib.hid (K1.out.below b)
  replace K2 := Lib.hid (K2.out.below b)
  replace KL := Lib.hid (KL.out.below b)
  replace XA := Lib.hid (qblk b XA.out)
  replace XB := Lib.hid (qblk b XB.out)
  replace XD := Lib.hid (qblk b XD.out)
  clear b
  obtain ⟨gK3, hgK3⟩ : ∃ x, Hid (U19.heap.size = x) := ⟨_, Lib.hid rfl⟩
  rw [hgK3.out] at K3 ⊢
  generalize U19.alloc (.cells #[.int .i64 0, .int .i64 0, .int .i64 1, .int .i64 0, .int .i64 0, .int .i64 0, .int .i64 1, .int .i64 2] 3) = U20 at *
  refine yK hK ?_
  clear hK K
  refine yR (fun K hK => ?_)
  go_simp
  refine (sameInts2_any bA TA.kinds.length mA TA.kinds (some ⟨gK3, 0, none⟩) 8 8 [0, 0, 1, 0, 0, 0, 1, 2] _ RA.out K3.out).mono ?_
  rintro e U21 ⟨rfl, b⟩
  rw [show decide (TA.kinds = [0, 0, 1, 0, 0, 0, 1, 2]) = true by rw [← hTA.out, smp_turn]; rfl]
  clear qx
  replace BF := Lib.hid (BF.out.trans (b.mono BF.out.size))
  replace LL := Lib.hid (LL.out.below b)
  replace RA := Lib.hid (RA.out.below b)
  replace RB := Lib.hid (RB.out.below b)
  replace RD := Lib.hid (RD.out.below b)
  replace K1 := Lib.hid (K1.out.below b)
  replace K2 := Lib.hid (K2.out.below b)
  replace KL := Lib.hid (KL.out.below b)
  replace K3 := Lib.hid (K3.out.below b)
  replace XA := Lib.hid (qblk b XA.out)
  replace XB := Lib.hid (qblk b XB.out)
  replace XD := Lib.hid (qblk b XD.out)
  clear b
  try dsimp only
  refine yK hK ?_
  clear hK K
  refine yM (.bool true) ?_
  refine yM (.bool true) ?_
  refine yW (.pointer (some ⟨x7, 3, none⟩)) ?_
  have qx := qcell XB.out 3 (.slice bB TB.kinds.length mB) rfl
  refine yW (.slice bB TB.kinds.length mB) ?_
  refine yR (fun K hK => ?_)
  refine qbuild (w' := U21.alloc (.cells #[.int .i64 0, .int .i64 0, .int .i64 0, .int .i64 1, .int .i64 2, .int .i64 0, .int .i64 0, .int .i64 1] 3)) (.slice (some ⟨U21.heap.size, 0, none⟩) 8 8) (by kernel_rfl) ?_
  have LI := lit_ints U21 [0, 0, 0, 1, 2, 0, 0, 1] (by decide)
  have b := zB U21 (.cells #[.int .i64 0, .int .i64 0, .int .i64 0, .int .i64 1, .int .i64 2, .int .i64 0, .int .i64 0, .int .i64 1] 3)
  have K4 : Hid (RdI (U21.alloc (.cells #[.int .i64 0, .int .i64 0, .int .i64 0, .int .i64 1, .int .i64 2, .int .i64 0, .int .i64 0, .int .i64 1] 3)) (some ⟨U21.heap.size, 0, none⟩) 8 8 [0, 0, 0, 1, 2, 0, 0, 1]) := Lib.hid LI
  clear LI
  replace BF := Lib.hid (BF.out.trans (b.mono BF.out.size))
  replace LL := Lib.hid (LL.out.below b)
  replace RA := Lib.hid (RA.out.below b)
  replace RB := Lib.hid (RB.out.below b)
  replace RD := Lib.hid (RD.out.below b)
  replace K1 := Lib.hid (K1.out.below b)
  replace K2 := Lib.hid (K2.out.below b)
  replace KL := Lib.hid (KL.out.below b)
  replace K3 := Lib.hid (K3.out.below b)
  replace XA := Lib.hid (qblk b XA.out)
  replace XB := Lib.hid (qblk b XB.out)
  replace XD := Lib.hid (qblk b XD.out)
  clear b
  obtain ⟨gK4, hgK4⟩ : ∃ x, Hid (U21.heap.size = x) := ⟨_, Lib.hid rfl⟩
  rw [hgK4.out] at K4 ⊢
  generalize U21.alloc (.cells #[.int .i64 0, .int .i64 0, .int .i64 0, .int .i64 1, .int .i64 2, .int .i64 0, .int .i64 0, .int .i64 1] 3) = U22 at *
  refine yK hK ?_
  clear hK K
  refine yR (fun K hK => ?_)
  go_simp
  refine (sameInts2_any bB TB.kinds.length mB TB.kinds (some ⟨gK4, 0, none⟩) 8 8 [0, 0, 0, 1, 2, 0, 0, 1] _ RB.out K4.out).mono ?_
  rintro e U23 ⟨rfl, b⟩
  rw [show decide (TB.kinds = [0, 0, 0, 1, 2, 0, 0, 1]) = true by rw [← hTB.out, smp_normal]; rfl]
  clear qx
  replace BF := Lib.hid (BF.out.trans (b.mono BF.out.size))
  replace LL := Lib.hid (LL.out.below b)
  replace RA := Lib.hid (RA.out.below b)
  replace RB := Lib.hid (RB.out.below b)
  replace RD := Lib.hid (RD.out.below b)
  replace K1 := Lib.hid (K1.out.below b)
  replace K2 := Lib.hid (K2.out.below b)
  replace KL := Lib.hid (KL.out.below b)
  replace K3 := Lib.hid (K3.out.below b)
  replace K4 := Lib.hid (K4.out.below b)
  replace XA := Lib.hid (qblk b XA.out)
  replace XB := Lib.hid (qblk b XB.out)
  replace XD := Lib.hid (qblk b XD.out)
  clear b
  try dsimp only
  refine yK hK ?_
  clear hK K
  refine yM (.bool true) ?_
  refine yM (.bool true) ?_
  refine yW (.pointer (some ⟨x9, 3, none⟩)) ?_
  have qx := qcell XD.out 3 (.slice bD TD.kinds.length mD) rfl
  refine yW (.slice bD TD.kinds.length mD) ?_
  refine yR (fun K hK => ?_)
  refine qbuild (w' := U23.alloc (.cells #[.int .i64 0, .int .i64 0, .int .i64 0, .int .i64 0, .int .i64 0, .int .i64 0, .int .i64 0, .int .i64 1, .int .i64 0, .int .i64 0, .int .i64 1, .int .i64 0, .int .i64 1, .int .i64 0, .int .i64 0, .int .i64 1, .int .i64 0, .int .i64 0] 3)) (.slice (some ⟨U23.heap.size, 0, none⟩) 18 18) (by kernel_rfl) ?_
  have LI := lit_ints U23 [0, 0, 0, 0, 0, 0, 0, 1, 0, 0, 1, 0, 1, 0, 0, 1, 0, 0] (by decide)
  have b := zB U23 (.cells #[.int .i64 0, .int .i64 0, .int .i64 0, .int .i64 0, .int .i64 0, .int .i64 0, .int .i64 0, .int .i64 1, .int .i64 0, .int .i64 0, .int .i64 1, .int .i64 0, .int .i64 1, .int .i64 0, .int .i64 0, .int .i64 1, .int .i64 0, .int .i64 0] 3)
  have K5 : Hid (RdI (U23.alloc (.cells #[.int .i64 0, .int .i64 0, .int .i64 0, .int .i64 0, .int .i64 0, .int .i64 0, .int .i64 0, .int .i64 1, .int .i64 0, .int .i64 0, .int .i64 1, .int .i64 0, .int .i64 1, .int .i64 0, .int .i64 0, .int .i64 1, .int .i64 0, .int .i64 0] 3)) (some ⟨U23.heap.size, 0, none⟩) 18 18 [0, 0, 0, 0, 0, 0, 0, 1, 0, 0, 1, 0, 1, 0, 0, 1, 0, 0]) := Lib.hid LI
  clear LI
  replace BF := Lib.hid (BF.out.trans (b.mono BF.out.size))
  replace LL := Lib.hid (LL.out.below b)
  replace RA := Lib.hid (RA.out.below b)
  replace RB := Lib.hid (RB.out.below b)
  replace RD := Lib.hid (RD.out.below b)
  replace K1 := Lib.hid (K1.out.below b)
  replace K2 := Lib.hid (K2.out.below b)
  replace KL := Lib.hid (KL.out.below b)
  replace K3 := Lib.hid (K3.out.below b)
  replace K4 := Lib.hid (K4.out.below b)
  replace XA := Lib.hid (qblk b XA.out)
  replace XB := Lib.hid (qblk b XB.out)
  replace XD := Lib.hid (qblk b XD.out)
  clear b
  obtain ⟨gK5, hgK5⟩ : ∃ x, Hid (U23.heap.size = x) := ⟨_, Lib.hid rfl⟩
  rw [hgK5.out] at K5 ⊢
  generalize U23.alloc (.cells #[.int .i64 0, .int .i64 0, .int .i64 0, .int .i64 0, .int .i64 0, .int .i64 0, .int .i64 0, .int .i64 1, .int .i64 0, .int .i64 0, .int .i64 1, .int .i64 0, .int .i64 1, .int .i64 0, .int .i64 0, .int .i64 1, .int .i64 0, .int .i64 0] 3) = U24 at *
  refine yK hK ?_
  clear hK K
  refine yR (fun K hK => ?_)
  go_simp
  refine (sameInts2_any bD TD.kinds.length mD TD.kinds (some ⟨gK5, 0, none⟩) 18 18 [0, 0, 0, 0, 0, 0, 0, 1, 0, 0, 1, 0, 1, 0, 0, 1, 0, 0] _ RD.out K5.out).mono ?_
  rintro e U25 ⟨rfl, b⟩
  rw [show decide (TD.kinds = [0, 0, 0, 0, 0, 0, 0, 1, 0, 0, 1, 0, 1, 0, 0, 1, 0, 0]) = true by rw [← hTD.out, smp_dress]; rfl]
  clear qx
  replace BF := Lib.hid (BF.out.trans (b.mono BF.out.size))
  replace LL := Lib.hid (LL.out.below b)
  replace RA := Lib.hid (RA.out.below b)
  replace RB := Lib.hid (RB.out.below b)
  replace RD := Lib.hid (RD.out.below b)
  replace K1 := Lib.hid (K1.out.below b)
  replace K2 := Lib.hid (K2.out.below b)
  replace KL := Lib.hid (KL.out.below b)
  replace K3 := Lib.hid (K3.out.below b)
  replace K4 := Lib.hid (K4.out.below b)
  replace K5 := Lib.hid (K5.out.below b)
  replace XA := Lib.hid (qblk b XA.out)
  replace XB := Lib.hid (qblk b XB.out)
  replace XD := Lib.hid (qblk b XD.out)
  clear b
  try dsimp only
  refine yK hK ?_
  clear hK K
  refine yM (.bool true) ?_
  refine yM (.bool true) ?_
  refine yE ?_
  go_wp2_with fail
  go_ret
  exact ⟨rfl, BF.out⟩
end Go.Proofs.YtimmadkbkimonaaGreatDoor
namespace Go.Proofs.YtimmadkbkimonaaGreatDoor
set_option linter.unusedSimpArgs false
set_option linter.unusedVariables false
open Go.RowKit

theorem parseGo_g : ∀ (n lines : Nat) (f : FaceV) (rest : List UInt8), (parseGo n lines f rest).2.1 = 0 ∨ (parseGo n lines f rest).2.1 = 11
  | 0, lines, f, rest => .inl rfl
  | n + 1, lines, f, rest => by
    unfold parseGo
    split
    · unfold endP
      split
      · exact .inr rfl
      · exact .inl rfl
    · split
      · split
        · exact .inr rfl
        · split
          · exact parseGo_g n _ _ _
          · exact .inr rfl
      · split
        · exact parseGo_g n _ _ _
        · exact .inr rfl
theorem parseP_go {l : List UInt8} (h : l.length ≤ 65536) : parseP l = parseGo (l.length + 1) 0 zeroF l := by
  unfold parseP
  rw [if_neg (by omega)]
theorem printF_len {f : FaceV} (hv : f.valid = true) : (printF f).length ≤ 5000 := by
  have h1 := head_len f
  have h2 := body_len f.S f.kinds 0
  have h3 := FaceV.len_le hv
  unfold printF
  rw [List.length_append, List.length_append]
  simp only [List.length_singleton]
  omega
theorem sameF_self (f : FaceV) : sameF f f = true := by
  unfold sameF
  simp
set_option maxHeartbeats 4000000 in
set_option maxRecDepth 100000 in
theorem back_any (f : FaceV) (a : Option Addr) (n : Nat) (s more : ByteArray) (w : World) (he : EnvW w) (hr : RdI w a f.kinds.length n f.kinds) :
    Calls Tryz.prog 9 #[.agg (f.cells a n), .string s, .string more] w fun e w' => e = .returned (.bool true) ∧ Below w.heap.size w w' := by
  have EV := Lib.hid (fun W (hb : Below w.heap.size w W) => he.below hb)
  have HR := Lib.hid hr
  clear he hr
  have AL := Lib.hid (al1 w (.cells (f.cells a n) 28))
  go_enter Tryz.func9, Tryz.ntmps9
  go_upto_region 1 with fail
  obtain ⟨p, hp⟩ : ∃ p, Hid (w.heap.size = p) := ⟨_, Lib.hid rfl⟩
  rw [hp.out] at AL ⊢
  generalize (w.alloc (.cells (f.cells a n) 28)) = W0 at *
  have BF : Hid (Below w.heap.size w W0) := Lib.hid (by rw [hp.out]; exact AL.out.1)
  have XF : Hid (W0.heap[p]? = some (.cells (f.cells a n) 28 (0, 0))) := Lib.hid AL.out.2
  clear AL
  have c0 := qcell XF.out 0 (.int .i64 f.eye) rfl
  have c1 := qcell XF.out 1 (.int .i64 f.rings) rfl
  have c2 := qcell XF.out 2 (.int .i64 f.sectors) rfl
  have c3 := qcell XF.out 3 (.slice a f.kinds.length n) rfl
  clear c0 c1 c2 c3
  replace HR := Lib.hid (HR.out.below BF.out)
  go_upto_region 1 with fail
  refine yB ?_
  refine yR (fun K hK => ?_)
  go_simp
  refine (awake_any _ (EV.out _ BF.out)).mono ?_
  rintro e U1 ⟨rfl, b⟩
  replace BF := Lib.hid (BF.out.trans (b.mono BF.out.size))
  replace HR := Lib.hid (HR.out.below b)
  replace XF := Lib.hid (qblk b XF.out)
  clear b
  try dsimp only
  refine yK hK ?_
  clear hK K
  refine yM (.bool true) ?_
  refine yE ?_
  go_upto_region 2 with fail
  refine yB ?_
  refine yW (.agg (f.cells a n)) ?_ (qyrow (by kernel_rfl) 28 _ rfl p rfl _ 28 (0, 0) _ (fun W hW => by rw [hW]; exact XF.out) Tryz.underlying28 rfl (by exact (qJF f a n)))
  refine yR (fun K hK => ?_)
  go_simp
  refine (short_any f a n _).mono ?_
  rintro e U2 ⟨rfl, b⟩
  replace BF := Lib.hid (BF.out.trans (b.mono BF.out.size))
  replace HR := Lib.hid (HR.out.below b)
  replace XF := Lib.hid (qblk b XF.out)
  clear b
  cases hf : decide (f.kinds.length ≤ 3000)
  · try dsimp only
    refine yK hK ?_
    clear hK K
    refine yM (.bool true) ?_
    refine yM (.bool true) ?_
    go_skip
    refine yM (.bool true) ?_
    refine yM (.bool true) ?_
    go_skip
    refine yM (.bool true) ?_
    refine yE ?_
    go_wp2_with fail
    go_ret
    exact ⟨rfl, BF.out⟩
  · try dsimp only
    refine yK hK ?_
    clear hK K
    refine yM (.bool false) ?_
    refine yM (.bool false) ?_
    refine yM (.string s) ?_
    refine yW (.int .i64 (s.size : Int)) ?_
    cases hs : decide ((3000 : Int) < (s.size : Int))
    · refine yW (.bool false) ?_ (.inl ⟨by kernel_rfl, by intro W hW; rw [hW]; go_simp; first | done | exact hs | (simpa using hs)⟩)
      refine yM (.bool false) ?_
      refine yM (.bool false) ?_
      refine yM (.string more) ?_
      refine yW (.int .i64 (more.size : Int)) ?_
      cases hm : decide ((3000 : Int) < (more.size : Int))
      · refine yW (.bool false) ?_ (.inl ⟨by kernel_rfl, by intro W hW; rw [hW]; go_simp; first | done | exact hm | (simpa using hm)⟩)
        refine yM (.bool false) ?_
        refine yE ?_
        have SZ : Hid (s.size ≤ 3000) := Lib.hid (by have := of_decide_eq_false hs; omega)
        have MZ : Hid (more.size ≤ 3000) := Lib.hid (by have := of_decide_eq_false hm; omega)
        clear hf hs hm
        by_cases hv : f.valid = true
        · have HV := Lib.hid hv
          obtain ⟨T, hT⟩ : ∃ x, Hid ((⟨(printP f).1.toArray⟩ : ByteArray) = x) := ⟨_, Lib.hid rfl⟩
          have PE : Hid ((printP f).2 = 0) := Lib.hid (by unfold printP; rw [if_pos hv])
          have TS : Hid (T.data.toList = printF f) := Lib.hid (by rw [← hT.out]; unfold printP; rw [if_pos hv])
          have TZ : Hid (T.size ≤ 5000) := Lib.hid (by have h := printF_len hv; rw [← TS.out] at h; exact h)
          have PT : Hid (parseP T.data.toList = (f, 0, 0)) := Lib.hid (by rw [TS.out]; exact parse_print hv (by have h := printF_len hv; omega))
          have P1 : Hid ((parseP T.data.toList).1 = f) := Lib.hid (by rw [PT.out])
          have P2 : Hid ((parseP T.data.toList).2.1 = 0) := Lib.hid (by rw [PT.out])
          have P3 : Hid ((parseP T.data.toList).2.2 = 0) := Lib.hid (by rw [PT.out])
          have SFF := Lib.hid (sameF_self f)
          go_upto_region 4 with fail
          refine yB ?_
          refine yW (.agg (f.cells a n)) ?_ (qyrow (by kernel_rfl) 28 _ rfl p rfl _ 28 (0, 0) _ (fun W hW => by rw [hW]; exact XF.out) Tryz.underlying28 rfl (by exact (qJF f a n)))
          refine yR (fun K hK => ?_)
          go_simp
          refine (print_any f a n _ HR.out).mono ?_
          rintro e U3 ⟨rfl, b⟩
          rw [hT.out, PE.out]
          replace BF := Lib.hid (BF.out.trans (b.mono BF.out.size))
          replace HR := Lib.hid (HR.out.below b)
          replace XF := Lib.hid (qblk b XF.out)
          clear b
          try dsimp only
          refine yK hK ?_
          clear hK K
          refine yM (.tuple #[.string T, .int .i64 0]) ?_
          refine yM (.string T) ?_
          refine yM (.int .i64 0) ?_
          refine yM (.string T) ?_
          refine yM (.int .i64 0) ?_
          refine yE ?_
          go_upto_region 5 with fail
          refine yB ?_
          refine yM (.int .i64 0) ?_
          refine yW (.bool true) ?_ (.inl ⟨by kernel_rfl, by intro W hW; (try rw [hW]); go_simp; (try simp)⟩)
          refine yW (.agg (f.cells a n)) ?_ (qyrow (by kernel_rfl) 28 _ rfl p rfl _ 28 (0, 0) _ (fun W hW => by rw [hW]; exact XF.out) Tryz.underlying28 rfl (by exact (qJF f a n)))
          refine yR (fun K hK => ?_)
          go_simp
          refine (valid2_any f a n _ HR.out).mono ?_
          rintro e U4 ⟨rfl, b⟩
          rw [hv]
          replace BF := Lib.hid (BF.out.trans (b.mono BF.out.size))
          replace HR := Lib.hid (HR.out.below b)
          replace XF := Lib.hid (qblk b XF.out)
          clear b
          try dsimp only
          refine yK hK ?_
          clear hK K
          refine yW (.bool false) ?_ (.inl ⟨by kernel_rfl, by intro W hW; kernel_rfl⟩)
          refine yE ?_
          go_upto_region 7 with fail
          refine yB ?_
          refine yM (.int .i64 0) ?_
          refine yW (.bool true) ?_ (.inl ⟨by kernel_rfl, by intro W hW; (try rw [hW]); go_simp; (try simp)⟩)
          refine yE ?_
          go_upto_region 8 with fail
          refine yB ?_
          refine yM (.string T) ?_
          refine yR (fun K hK => ?_)
          go_simp
          refine (parse_any T _ (by have := TZ.out; omega) (EV.out _ BF.out)).mono ?_
          rintro e U5 ⟨⟨ga, gn, rfl, own⟩, b⟩
          rw [P1.out, P2.out, P3.out]
          rw [P1.out] at own
          have RG : Hid (RdI U5 ga f.kinds.length gn f.kinds) := Lib.hid own.rd
          clear own
          replace BF := Lib.hid (BF.out.trans (b.mono BF.out.size))
          replace HR := Lib.hid (HR.out.below b)
          replace XF := Lib.hid (qblk b XF.out)
          clear b
          try dsimp only
          refine yK hK ?_
          clear hK K
          refine yM (.tuple #[.agg (f.cells ga gn), .int .i64 0, .int .i64 0]) ?_
          refine yM (.agg (f.cells ga gn)) ?_
          refine yM (.int .i64 0) ?_
          refine yM (.int .i64 0) ?_
          refine yR (fun K hK => ?_)
          refine qbuild (w' := U5.alloc (.cells #[.int .i64 0, .int .i64 0, .int .i64 0, .slice none 0 0] 28)) (.pointer (some ⟨U5.heap.size, 0, none⟩)) (by kernel_rfl) ?_
          obtain ⟨x10, hx10⟩ : ∃ x, Hid (U5.heap.size = x) := ⟨_, Lib.hid rfl⟩
          have AL := Lib.hid (al1 U5 (.cells #[.int .i64 0, .int .i64 0, .int .i64 0, .slice none 0 0] 28))
          rw [hx10.out] at AL ⊢
          refine yK hK ?_
          clear hK K
          refine yR (fun K hK => ?_)
          refine qstore 28 _ _ rfl x10 #[.int .i64 0, .int .i64 0, .int .i64 0, .slice none 0 0] (f.cells ga gn) 28 rfl rfl AL.out.2 (by exact qJF f ga gn) rfl (qone f ga gn) ?_
          intro U6 h8 hg8 hs8
          have b : Below U5.heap.size U5 U6 := qstep (by have h1 := AL.out.1; rw [← hx10.out] at h1; exact h1) hg8 (Nat.le_of_eq hx10.out)
          replace BF := Lib.hid (BF.out.trans (b.mono BF.out.size))
          replace HR := Lib.hid (HR.out.below b)
          replace RG := Lib.hid (RG.out.below b)
          replace XF := Lib.hid (qblk b XF.out)
          clear b
          have Xx10 := Lib.hid h8
          clear h8 hg8 hs8 AL
          refine yK hK ?_
          clear hK K
          refine yM (.int .i64 0) ?_
          refine yM (.int .i64 0) ?_
          refine yE ?_
          go_upto_region 9 with fail
          refine yB ?_
          refine yM (.int .i64 0) ?_
          refine yW (.bool false) ?_ (.inl ⟨by kernel_rfl, by intro W hW; (try rw [hW]); go_simp; (try simp)⟩)
          refine yM (.bool false) ?_
          refine yM (.int .i64 0) ?_
          refine yW (.bool false) ?_ (.inl ⟨by kernel_rfl, by intro W hW; (try rw [hW]); go_simp; (try simp)⟩)
          refine yM (.bool false) ?_
          refine yM (.bool false) ?_
          refine yW (.agg (f.cells ga gn)) ?_ (qyrow (by kernel_rfl) 28 _ rfl x10 rfl _ 28 (0, 0) _ (fun W hW => by rw [hW]; exact Xx10.out) Tryz.underlying28 rfl (by exact (qJF f ga gn)))
          refine yW (.agg (f.cells a n)) ?_ (qyrow (by kernel_rfl) 28 _ rfl p rfl _ 28 (0, 0) _ (fun W hW => by rw [hW]; exact XF.out) Tryz.underlying28 rfl (by exact (qJF f a n)))
          refine yR (fun K hK => ?_)
          go_simp
          refine (same_any f f ga a gn n _ RG.out HR.out).mono ?_
          rintro e U7 ⟨rfl, b⟩
          rw [SFF.out]
          replace BF := Lib.hid (BF.out.trans (b.mono BF.out.size))
          replace HR := Lib.hid (HR.out.below b)
          replace RG := Lib.hid (RG.out.below b)
          replace XF := Lib.hid (qblk b XF.out)
          replace Xx10 := Lib.hid (qblk b Xx10.out)
          clear b
          try dsimp only
          refine yK hK ?_
          clear hK K
          refine yM (.bool false) ?_
          refine yM (.bool false) ?_
          refine yE ?_
          obtain ⟨x, gq, aq, hps⟩ : ∃ x g at_, parseP s.data.toList = (x, g, at_) := ⟨_, _, _, rfl⟩
          have Q1 : Hid ((parseP s.data.toList).1 = x) := Lib.hid (by rw [hps])
          have Q2 : Hid ((parseP s.data.toList).2.1 = gq) := Lib.hid (by rw [hps])
          have Q3 : Hid ((parseP s.data.toList).2.2 = aq) := Lib.hid (by rw [hps])
          have HPS := Lib.hid hps
          clear hps HR
          (try clear RG)
          have SL : Hid (s.data.toList.length = s.size) := Lib.hid rfl
          by_cases hg : gq = 0
          · subst hg
            obtain ⟨v1, v2, v3⟩ := print_parse HPS.out
            subst v3
            have PX : Hid ((⟨(printP x).1.toArray⟩ : ByteArray) = s) := Lib.hid (bytes_ext (by unfold printP; rw [if_pos v1]; exact v2))
            have PY : Hid ((printP x).2 = 0) := Lib.hid (by unfold printP; rw [if_pos v1])
            clear v1 v2
            go_upto_region 11 with fail
            refine yB ?_
            refine yM (.string s) ?_
            refine yR (fun K hK => ?_)
            go_simp
            refine (parse_any s _ (by have := SZ.out; omega) (EV.out _ BF.out)).mono ?_
            rintro e U8 ⟨⟨xa, xn, rfl, own⟩, b⟩
            rw [Q1.out, Q2.out, Q3.out]
            rw [Q1.out] at own
            have RX : Hid (RdI U8 xa x.kinds.length xn x.kinds) := Lib.hid own.rd
            clear own
            replace BF := Lib.hid (BF.out.trans (b.mono BF.out.size))
            replace XF := Lib.hid (qblk b XF.out)
            replace Xx10 := Lib.hid (qblk b Xx10.out)
            clear b
            try dsimp only
            refine yK hK ?_
            clear hK K
            refine yM (.tuple #[.agg (x.cells xa xn), .int .i64 0, .int .i64 0]) ?_
            refine yM (.agg (x.cells xa xn)) ?_
            refine yM (.int .i64 0) ?_
            refine yM (.int .i64 0) ?_
            refine yR (fun K hK => ?_)
            refine qbuild (w' := U8.alloc (.cells #[.int .i64 0, .int .i64 0, .int .i64 0, .slice none 0 0] 28)) (.pointer (some ⟨U8.heap.size, 0, none⟩)) (by kernel_rfl) ?_
            obtain ⟨x13, hx13⟩ : ∃ x, Hid (U8.heap.size = x) := ⟨_, Lib.hid rfl⟩
            have AL := Lib.hid (al1 U8 (.cells #[.int .i64 0, .int .i64 0, .int .i64 0, .slice none 0 0] 28))
            rw [hx13.out] at AL ⊢
            refine yK hK ?_
            clear hK K
            refine yR (fun K hK => ?_)
            refine qstore 28 _ _ rfl x13 #[.int .i64 0, .int .i64 0, .int .i64 0, .slice none 0 0] (x.cells xa xn) 28 rfl rfl AL.out.2 (by exact qJF x xa xn) rfl (qone x xa xn) ?_
            intro U9 h8 hg8 hs8
            have b : Below U8.heap.size U8 U9 := qstep (by have h1 := AL.out.1; rw [← hx13.out] at h1; exact h1) hg8 (Nat.le_of_eq hx13.out)
            replace BF := Lib.hid (BF.out.trans (b.mono BF.out.size))
            replace RX := Lib.hid (RX.out.below b)
            replace XF := Lib.hid (qblk b XF.out)
            replace Xx10 := Lib.hid (qblk b Xx10.out)
            clear b
            have Xx13 := Lib.hid h8
            clear h8 hg8 hs8 AL
            refine yK hK ?_
            clear hK K
            refine yM (.int .i64 0) ?_
            refine yM (.int .i64 0) ?_
            refine yE ?_
            go_upto_region 12 with fail
            refine yB ?_
            refine yM (.int .i64 0) ?_
            refine yW (.bool true) ?_ (.inl ⟨by kernel_rfl, by intro W hW; (try rw [hW]); go_simp; (try simp)⟩)
            refine yE ?_
            go_upto_region 13 with fail
            refine yB ?_
            refine yW (.agg (x.cells xa xn)) ?_ (qyrow (by kernel_rfl) 28 _ rfl x13 rfl _ 28 (0, 0) _ (fun W hW => by rw [hW]; exact Xx13.out) Tryz.underlying28 rfl (by exact (qJF x xa xn)))
            refine yR (fun K hK => ?_)
            go_simp
            refine (print_any x xa xn _ RX.out).mono ?_
            rintro e U10 ⟨rfl, b⟩
            rw [PX.out, PY.out]
            replace BF := Lib.hid (BF.out.trans (b.mono BF.out.size))
            replace RX := Lib.hid (RX.out.below b)
            replace XF := Lib.hid (qblk b XF.out)
            replace Xx10 := Lib.hid (qblk b Xx10.out)
            replace Xx13 := Lib.hid (qblk b Xx13.out)
            clear b
            try dsimp only
            refine yK hK ?_
            clear hK K
            refine yM (.tuple #[.string s, .int .i64 0]) ?_
            refine yM (.string s) ?_
            refine yM (.int .i64 0) ?_
            refine yM (.string s) ?_
            refine yM (.int .i64 0) ?_
            refine yE ?_
            go_upto_region 14 with fail
            refine yB ?_
            refine yM (.bool true) ?_
            refine yM (.bool true) ?_
            refine yM (.int .i64 0) ?_
            refine yW (.bool true) ?_ (.inl ⟨by kernel_rfl, by intro W hW; (try rw [hW]); go_simp; (try simp)⟩)
            refine yM (.bool true) ?_
            refine yM (.bool true) ?_
            refine yM (.string s) ?_
            refine yM (.string s) ?_
            refine yW (.bool true) ?_ (.inl ⟨by kernel_rfl, by intro W hW; (try rw [hW]); go_simp; (try simp)⟩)
            refine yM (.bool true) ?_
            refine yM (.bool true) ?_
            refine yM (.int .i64 0) ?_
            refine yW (.bool true) ?_ (.inl ⟨by kernel_rfl, by intro W hW; (try rw [hW]); go_simp; (try simp)⟩)
            refine yM (.bool true) ?_
            refine yM (.bool true) ?_
            refine yE ?_
            go_wp2_with fail
            go_ret
            exact ⟨rfl, BF.out⟩
          · have G11 : gq = 11 := by
              have h := parseGo_g (s.data.toList.length + 1) 0 zeroF s.data.toList
              rw [← parseP_go (by rw [SL.out]; have := SZ.out; omega), Q2.out] at h
              exact h.resolve_left hg
            subst G11
            clear hg
            have PG : Hid (parseGo (s.data.toList.length + 1) 0 zeroF s.data.toList = (x, 11, aq)) := Lib.hid ((parseP_go (by rw [SL.out]; have := SZ.out; omega)).symm.trans HPS.out)
            obtain ⟨N, hN⟩ : ∃ N : Nat, Hid (s.data.toList.count 10 = N) := ⟨_, Lib.hid rfl⟩
            have NB : Hid (N ≤ 3000) := Lib.hid (by have h1 := hN.out; have h2 := List.count_le_length (a := (10 : UInt8)) (l := s.data.toList); have h3 := SL.out; have h4 := SZ.out; omega)
            go_upto_region 11 with fail
            refine yB ?_
            refine yM (.string s) ?_
            refine yR (fun K hK => ?_)
            go_simp
            refine (parse_any s _ (by have := SZ.out; omega) (EV.out _ BF.out)).mono ?_
            rintro e U8 ⟨⟨xa, xn, rfl, own⟩, b⟩
            rw [Q1.out, Q2.out, Q3.out]
            rw [Q1.out] at own
            have RX : Hid (RdI U8 xa x.kinds.length xn x.kinds) := Lib.hid own.rd
            clear own
            replace BF := Lib.hid (BF.out.trans (b.mono BF.out.size))
            replace XF := Lib.hid (qblk b XF.out)
            replace Xx10 := Lib.hid (qblk b Xx10.out)
            clear b
            try dsimp only
            refine yK hK ?_
            clear hK K
            refine yM (.tuple #[.agg (x.cells xa xn), .int .i64 11, .int .i64 aq]) ?_
            refine yM (.agg (x.cells xa xn)) ?_
            refine yM (.int .i64 11) ?_
            refine yM (.int .i64 aq) ?_
            refine yR (fun K hK => ?_)
            refine qbuild (w' := U8.alloc (.cells #[.int .i64 0, .int .i64 0, .int .i64 0, .slice none 0 0] 28)) (.pointer (some ⟨U8.heap.size, 0, none⟩)) (by kernel_rfl) ?_
            obtain ⟨x13, hx13⟩ : ∃ x, Hid (U8.heap.size = x) := ⟨_, Lib.hid rfl⟩
            have AL := Lib.hid (al1 U8 (.cells #[.int .i64 0, .int .i64 0, .int .i64 0, .slice none 0 0] 28))
            rw [hx13.out] at AL ⊢
            refine yK hK ?_
            clear hK K
            refine yR (fun K hK => ?_)
            refine qstore 28 _ _ rfl x13 #[.int .i64 0, .int .i64 0, .int .i64 0, .slice none 0 0] (x.cells xa xn) 28 rfl rfl AL.out.2 (by exact qJF x xa xn) rfl (qone x xa xn) ?_
            intro U9 h8 hg8 hs8
            have b : Below U8.heap.size U8 U9 := qstep (by have h1 := AL.out.1; rw [← hx13.out] at h1; exact h1) hg8 (Nat.le_of_eq hx13.out)
            replace BF := Lib.hid (BF.out.trans (b.mono BF.out.size))
            replace RX := Lib.hid (RX.out.below b)
            replace XF := Lib.hid (qblk b XF.out)
            replace Xx10 := Lib.hid (qblk b Xx10.out)
            clear b
            have Xx13 := Lib.hid h8
            clear h8 hg8 hs8 AL
            refine yK hK ?_
            clear hK K
            refine yM (.int .i64 11) ?_
            refine yM (.int .i64 aq) ?_
            refine yE ?_
            go_upto_region 12 with fail
            refine yB ?_
            refine yM (.int .i64 11) ?_
            refine yW (.bool false) ?_
            refine yE ?_
            go_upto_region 15 with fail
            refine yB ?_
            refine yM (.int .i64 0) ?_
            refine yE ?_
            go_upto_region 16 with fail
            refine yB ?_
            refine yM (.int .i64 0) ?_
            refine yE ?_
            go_wp2_with fail
            generalize hY : U9 = Y1 at *
            clear hY
            go_loopw [18, 19] (fun v18 v19 wr => ∃ i : Nat, v19 = .int .i64 (i : Int) ∧ v18 = .int .i64 (((s.data.toList.take i).count 10 : Nat) : Int) ∧ i ≤ s.size ∧ wr = Y1) (fun _ v _ => s.size - (intOf v).toNat)
            case atStart => exact ⟨0, rfl, rfl, Nat.zero_le _, rfl⟩
            case round =>
              obtain ⟨i, rfl, rfl, hi, rfl⟩ := hrel
              by_cases hil : i < s.size
              · have t0 : decide ((i : Int) < (s.size : Int)) = true := by simp; omega
                have HIL := Lib.hid hil
                have hk64 : (i : Int) + 1 ≤ 9223372036854775807 := by have := SZ.out; omega
                obtain ⟨bb, hbb⟩ : ∃ b, Hid (s[i]'hil = b) := ⟨_, Lib.hid rfl⟩
                have HB : Hid (s.data.toList[i]? = some bb) := Lib.hid (by rw [← hbb.out]; exact Lib.data_getElem? s i hil)
                obtain ⟨c, hc⟩ : ∃ c : Nat, Hid ((s.data.toList.take i).count 10 = c) := ⟨_, Lib.hid rfl⟩
                have CL : Hid (c ≤ 3000) := Lib.hid (by have h1 := hc.out; have h2 := List.count_le_length (a := (10 : UInt8)) (l := s.data.toList.take i); rw [List.length_take] at h2; have h3 := SL.out; have h4 := SZ.out; omega)
                have CN : Hid ((s.data.toList.take (i + 1)).count 10 = c + if bb = 10 then 1 else 0) := Lib.hid (by
                  rw [List.take_add_one, HB.out, List.count_append, hc.out]
                  by_cases h : bb = 10
                  · rw [if_pos h, h]; rfl
                  · rw [if_neg h]; simp [h])
                rw [hc.out]
                have c64 : (c : Int) + 1 ≤ 9223372036854775807 := by have := CL.out; omega
                have h2 := hbb.out
                by_cases hb10 : bb = 10
                · rw [if_pos hb10] at CN
                  have tb : ((bb.toNat : Int) == 10) = true := by rw [hb10]; rfl
                  go_wp2_with fail
                  go_roundw
                  case rel => exact ⟨i + 1, by simp, by rw [CN.out]; simp, HIL.out, by trivial⟩
                  case measure => simp [intOf]; have := HIL.out; omega
                · rw [if_neg hb10] at CN
                  have tb : ((bb.toNat : Int) == 10) = false := by
                    rw [beq_eq_false_iff_ne]
                    intro h
                    exact hb10 (UInt8.toNat_inj.1 (by have : (10 : UInt8).toNat = 10 := rfl; omega))
                  go_wp2_with fail
                  go_roundw
                  case rel => exact ⟨i + 1, by simp, by rw [CN.out]; simp, HIL.out, by trivial⟩
                  case measure => simp [intOf]; have := HIL.out; omega
              · have t0 : decide ((i : Int) < (s.size : Int)) = false := by simp; omega
                have e : i = s.size := by omega
                rw [e, show s.size = s.data.toList.length from rfl, List.take_length, hN.out]
                rw [e] at t0
                clear e
                go_upto_region 21 with fail
                refine yB ?_
                refine yM (.int .i64 aq) ?_
                refine yM (.int .i64 (N : Int)) ?_
                cases hat : decide ((N : Int) < aq)
                · refine yW (.bool false) ?_ (.inl ⟨by kernel_rfl, by intro W hW; rw [hW]; go_simp; first | done | exact hat | (simpa using hat)⟩)
                  refine yE ?_
                  have PM := Lib.hid (parse_more (s.data.toList.length + 1) ((s.data.toList ++ more.data.toList).length + 1) 0 zeroF x s.data.toList more.data.toList 11 aq (Nat.lt_succ_self _) (Nat.lt_succ_self _) PG.out (by decide) (by have h1 := of_decide_eq_false hat; have h2 := hN.out; omega)).2
                  obtain ⟨sm, hsm⟩ : ∃ z, Hid (s ++ more = z) := ⟨_, Lib.hid rfl⟩
                  have SM : Hid (sm.data.toList = s.data.toList ++ more.data.toList) := Lib.hid (by rw [← hsm.out, ByteArray.data_append, Array.toList_append])
                  have SMZ : Hid (sm.size ≤ 6000) := Lib.hid (by rw [← hsm.out, ByteArray.size_append]; have h1 := SZ.out; have h2 := MZ.out; omega)
                  have PS : Hid (parseP sm.data.toList = (x, 11, aq)) := Lib.hid (by
                    rw [parseP_go (by have h1 := SMZ.out; have e1 : sm.data.toList.length = sm.size := rfl; omega), SM.out]
                    exact PM.out)
                  have R1 : Hid ((parseP sm.data.toList).1 = x) := Lib.hid (by rw [PS.out])
                  have R2 : Hid ((parseP sm.data.toList).2.1 = 11) := Lib.hid (by rw [PS.out])
                  have R3 : Hid ((parseP sm.data.toList).2.2 = aq) := Lib.hid (by rw [PS.out])
                  go_upto_region 23 with fail
                  refine yB ?_
                  refine yM (.string s) ?_
                  refine yM (.string more) ?_
                  refine yW (.string sm) ?_ (.inl ⟨by kernel_rfl, by intro W hW; rw [hW]; have e := hsm.out; go_simp; have l1 := SZ.out; have l2 := MZ.out; first | done | omega⟩)
                  refine yR (fun K hK => ?_)
                  go_simp
                  refine (parse_any sm _ (by have := SMZ.out; omega) (EV.out _ BF.out)).mono ?_
                  rintro e U10 ⟨⟨ya, yn, rfl, own⟩, b⟩
                  rw [R1.out, R2.out, R3.out]
                  clear own
                  replace BF := Lib.hid (BF.out.trans (b.mono BF.out.size))
                  replace RX := Lib.hid (RX.out.below b)
                  replace XF := Lib.hid (qblk b XF.out)
                  replace Xx10 := Lib.hid (qblk b Xx10.out)
                  replace Xx13 := Lib.hid (qblk b Xx13.out)
                  clear b
                  try dsimp only
                  refine yK hK ?_
                  clear hK K
                  refine yM (.tuple #[.agg (x.cells ya yn), .int .i64 11, .int .i64 aq]) ?_
                  refine yM (.agg (x.cells ya yn)) ?_
                  refine yM (.int .i64 11) ?_
                  refine yM (.int .i64 aq) ?_
                  refine yR (fun K hK => ?_)
                  refine qbuild (w' := U10.alloc (.cells #[.int .i64 0, .int .i64 0, .int .i64 0, .slice none 0 0] 28)) (.pointer (some ⟨U10.heap.size, 0, none⟩)) (by kernel_rfl) ?_
                  obtain ⟨x20, hx20⟩ : ∃ x, Hid (U10.heap.size = x) := ⟨_, Lib.hid rfl⟩
                  have AL := Lib.hid (al1 U10 (.cells #[.int .i64 0, .int .i64 0, .int .i64 0, .slice none 0 0] 28))
                  rw [hx20.out] at AL ⊢
                  refine yK hK ?_
                  clear hK K
                  refine yR (fun K hK => ?_)
                  refine qstore 28 _ _ rfl x20 #[.int .i64 0, .int .i64 0, .int .i64 0, .slice none 0 0] (x.cells ya yn) 28 rfl rfl AL.out.2 (by exact qJF x ya yn) rfl (qone x ya yn) ?_
                  intro U11 h8 hg8 hs8
                  have b : Below U10.heap.size U10 U11 := qstep (by have h1 := AL.out.1; rw [← hx20.out] at h1; exact h1) hg8 (Nat.le_of_eq hx20.out)
                  replace BF := Lib.hid (BF.out.trans (b.mono BF.out.size))
                  replace RX := Lib.hid (RX.out.below b)
                  replace XF := Lib.hid (qblk b XF.out)
                  replace Xx10 := Lib.hid (qblk b Xx10.out)
                  replace Xx13 := Lib.hid (qblk b Xx13.out)
                  clear b
                  have Xx20 := Lib.hid h8
                  clear h8 hg8 hs8 AL
                  refine yK hK ?_
                  clear hK K
                  refine yM (.int .i64 11) ?_
                  refine yM (.int .i64 aq) ?_
                  refine yE ?_
                  go_upto_region 24 with fail
                  refine yB ?_
                  refine yM (.bool true) ?_
                  refine yM (.bool true) ?_
                  refine yM (.int .i64 11) ?_
                  refine yW (.bool true) ?_ (.inl ⟨by kernel_rfl, by intro W hW; (try rw [hW]); go_simp; (try simp)⟩)
                  refine yM (.bool true) ?_
                  refine yM (.bool true) ?_
                  refine yM (.int .i64 11) ?_
                  refine yW (.bool true) ?_ (.inl ⟨by kernel_rfl, by intro W hW; (try rw [hW]); go_simp; (try simp)⟩)
                  refine yM (.bool true) ?_
                  refine yM (.bool true) ?_
                  refine yM (.int .i64 aq) ?_
                  refine yM (.int .i64 aq) ?_
                  refine yW (.bool true) ?_ (.inl ⟨by kernel_rfl, by intro W hW; (try rw [hW]); go_simp; (try simp)⟩)
                  refine yM (.bool true) ?_
                  refine yM (.bool true) ?_
                  refine yE ?_
                  go_wp2_with fail
                  go_ret
                  exact ⟨rfl, BF.out⟩
                · refine yW (.bool true) ?_ (.inl ⟨by kernel_rfl, by intro W hW; rw [hW]; go_simp; first | done | exact hat | (simpa using hat)⟩)
                  refine yE ?_
                  go_upto_region 22 with fail
                  refine yB ?_
                  refine yM (.bool true) ?_
                  refine yM (.bool true) ?_
                  refine yM (.int .i64 11) ?_
                  refine yW (.bool true) ?_ (.inl ⟨by kernel_rfl, by intro W hW; (try rw [hW]); go_simp; (try simp)⟩)
                  refine yM (.bool true) ?_
                  refine yM (.bool true) ?_
                  refine yE ?_
                  go_wp2_with fail
                  go_ret
                  exact ⟨rfl, BF.out⟩
        · have hn : f.valid = false := by simpa using hv
          obtain ⟨T, hT⟩ : ∃ x, Hid ((⟨(printP f).1.toArray⟩ : ByteArray) = x) := ⟨_, Lib.hid rfl⟩
          have PE : Hid ((printP f).2 = 10) := Lib.hid (by unfold printP; rw [if_neg (by rw [hn]; decide)])
          clear hv
          go_upto_region 4 with fail
          refine yB ?_
          refine yW (.agg (f.cells a n)) ?_ (qyrow (by kernel_rfl) 28 _ rfl p rfl _ 28 (0, 0) _ (fun W hW => by rw [hW]; exact XF.out) Tryz.underlying28 rfl (by exact (qJF f a n)))
          refine yR (fun K hK => ?_)
          go_simp
          refine (print_any f a n _ HR.out).mono ?_
          rintro e U3 ⟨rfl, b⟩
          rw [hT.out, PE.out]
          replace BF := Lib.hid (BF.out.trans (b.mono BF.out.size))
          replace HR := Lib.hid (HR.out.below b)
          replace XF := Lib.hid (qblk b XF.out)
          clear b
          try dsimp only
          refine yK hK ?_
          clear hK K
          refine yM (.tuple #[.string T, .int .i64 10]) ?_
          refine yM (.string T) ?_
          refine yM (.int .i64 10) ?_
          refine yM (.string T) ?_
          refine yM (.int .i64 10) ?_
          refine yE ?_
          go_upto_region 5 with fail
          refine yB ?_
          refine yM (.int .i64 10) ?_
          refine yW (.bool false) ?_
          refine yW (.agg (f.cells a n)) ?_ (qyrow (by kernel_rfl) 28 _ rfl p rfl _ 28 (0, 0) _ (fun W hW => by rw [hW]; exact XF.out) Tryz.underlying28 rfl (by exact (qJF f a n)))
          refine yR (fun K hK => ?_)
          go_simp
          refine (valid2_any f a n _ HR.out).mono ?_
          rintro e U4 ⟨rfl, b⟩
          rw [hn]
          replace BF := Lib.hid (BF.out.trans (b.mono BF.out.size))
          replace HR := Lib.hid (HR.out.below b)
          replace XF := Lib.hid (qblk b XF.out)
          clear b
          try dsimp only
          refine yK hK ?_
          clear hK K
          refine yW (.bool false) ?_ (.inl ⟨by kernel_rfl, by intro W hW; kernel_rfl⟩)
          refine yE ?_
          go_upto_region 7 with fail
          refine yB ?_
          refine yM (.int .i64 10) ?_
          refine yW (.bool false) ?_
          refine yE ?_
          obtain ⟨x, gq, aq, hps⟩ : ∃ x g at_, parseP s.data.toList = (x, g, at_) := ⟨_, _, _, rfl⟩
          have Q1 : Hid ((parseP s.data.toList).1 = x) := Lib.hid (by rw [hps])
          have Q2 : Hid ((parseP s.data.toList).2.1 = gq) := Lib.hid (by rw [hps])
          have Q3 : Hid ((parseP s.data.toList).2.2 = aq) := Lib.hid (by rw [hps])
          have HPS := Lib.hid hps
          clear hps HR
          (try clear RG)
          have SL : Hid (s.data.toList.length = s.size) := Lib.hid rfl
          by_cases hg : gq = 0
          · subst hg
            obtain ⟨v1, v2, v3⟩ := print_parse HPS.out
            subst v3
            have PX : Hid ((⟨(printP x).1.toArray⟩ : ByteArray) = s) := Lib.hid (bytes_ext (by unfold printP; rw [if_pos v1]; exact v2))
            have PY : Hid ((printP x).2 = 0) := Lib.hid (by unfold printP; rw [if_pos v1])
            clear v1 v2
            go_upto_region 11 with fail
            refine yB ?_
            refine yM (.string s) ?_
            refine yR (fun K hK => ?_)
            go_simp
            refine (parse_any s _ (by have := SZ.out; omega) (EV.out _ BF.out)).mono ?_
            rintro e U5 ⟨⟨xa, xn, rfl, own⟩, b⟩
            rw [Q1.out, Q2.out, Q3.out]
            rw [Q1.out] at own
            have RX : Hid (RdI U5 xa x.kinds.length xn x.kinds) := Lib.hid own.rd
            clear own
            replace BF := Lib.hid (BF.out.trans (b.mono BF.out.size))
            replace XF := Lib.hid (qblk b XF.out)
            clear b
            try dsimp only
            refine yK hK ?_
            clear hK K
            refine yM (.tuple #[.agg (x.cells xa xn), .int .i64 0, .int .i64 0]) ?_
            refine yM (.agg (x.cells xa xn)) ?_
            refine yM (.int .i64 0) ?_
            refine yM (.int .i64 0) ?_
            refine yR (fun K hK => ?_)
            refine qbuild (w' := U5.alloc (.cells #[.int .i64 0, .int .i64 0, .int .i64 0, .slice none 0 0] 28)) (.pointer (some ⟨U5.heap.size, 0, none⟩)) (by kernel_rfl) ?_
            obtain ⟨x13, hx13⟩ : ∃ x, Hid (U5.heap.size = x) := ⟨_, Lib.hid rfl⟩
            have AL := Lib.hid (al1 U5 (.cells #[.int .i64 0, .int .i64 0, .int .i64 0, .slice none 0 0] 28))
            rw [hx13.out] at AL ⊢
            refine yK hK ?_
            clear hK K
            refine yR (fun K hK => ?_)
            refine qstore 28 _ _ rfl x13 #[.int .i64 0, .int .i64 0, .int .i64 0, .slice none 0 0] (x.cells xa xn) 28 rfl rfl AL.out.2 (by exact qJF x xa xn) rfl (qone x xa xn) ?_
            intro U6 h8 hg8 hs8
            have b : Below U5.heap.size U5 U6 := qstep (by have h1 := AL.out.1; rw [← hx13.out] at h1; exact h1) hg8 (Nat.le_of_eq hx13.out)
            replace BF := Lib.hid (BF.out.trans (b.mono BF.out.size))
            replace RX := Lib.hid (RX.out.below b)
            replace XF := Lib.hid (qblk b XF.out)
            clear b
            have Xx13 := Lib.hid h8
            clear h8 hg8 hs8 AL
            refine yK hK ?_
            clear hK K
            refine yM (.int .i64 0) ?_
            refine yM (.int .i64 0) ?_
            refine yE ?_
            go_upto_region 12 with fail
            refine yB ?_
            refine yM (.int .i64 0) ?_
            refine yW (.bool true) ?_ (.inl ⟨by kernel_rfl, by intro W hW; (try rw [hW]); go_simp; (try simp)⟩)
            refine yE ?_
            go_upto_region 13 with fail
            refine yB ?_
            refine yW (.agg (x.cells xa xn)) ?_ (qyrow (by kernel_rfl) 28 _ rfl x13 rfl _ 28 (0, 0) _ (fun W hW => by rw [hW]; exact Xx13.out) Tryz.underlying28 rfl (by exact (qJF x xa xn)))
            refine yR (fun K hK => ?_)
            go_simp
            refine (print_any x xa xn _ RX.out).mono ?_
            rintro e U7 ⟨rfl, b⟩
            rw [PX.out, PY.out]
            replace BF := Lib.hid (BF.out.trans (b.mono BF.out.size))
            replace RX := Lib.hid (RX.out.below b)
            replace XF := Lib.hid (qblk b XF.out)
            replace Xx13 := Lib.hid (qblk b Xx13.out)
            clear b
            try dsimp only
            refine yK hK ?_
            clear hK K
            refine yM (.tuple #[.string s, .int .i64 0]) ?_
            refine yM (.string s) ?_
            refine yM (.int .i64 0) ?_
            refine yM (.string s) ?_
            refine yM (.int .i64 0) ?_
            refine yE ?_
            go_upto_region 14 with fail
            refine yB ?_
            refine yM (.bool true) ?_
            refine yM (.bool true) ?_
            refine yM (.int .i64 0) ?_
            refine yW (.bool true) ?_ (.inl ⟨by kernel_rfl, by intro W hW; (try rw [hW]); go_simp; (try simp)⟩)
            refine yM (.bool true) ?_
            refine yM (.bool true) ?_
            refine yM (.string s) ?_
            refine yM (.string s) ?_
            refine yW (.bool true) ?_ (.inl ⟨by kernel_rfl, by intro W hW; (try rw [hW]); go_simp; (try simp)⟩)
            refine yM (.bool true) ?_
            refine yM (.bool true) ?_
            refine yM (.int .i64 0) ?_
            refine yW (.bool true) ?_ (.inl ⟨by kernel_rfl, by intro W hW; (try rw [hW]); go_simp; (try simp)⟩)
            refine yM (.bool true) ?_
            refine yM (.bool true) ?_
            refine yE ?_
            go_wp2_with fail
            go_ret
            exact ⟨rfl, BF.out⟩
          · have G11 : gq = 11 := by
              have h := parseGo_g (s.data.toList.length + 1) 0 zeroF s.data.toList
              rw [← parseP_go (by rw [SL.out]; have := SZ.out; omega), Q2.out] at h
              exact h.resolve_left hg
            subst G11
            clear hg
            have PG : Hid (parseGo (s.data.toList.length + 1) 0 zeroF s.data.toList = (x, 11, aq)) := Lib.hid ((parseP_go (by rw [SL.out]; have := SZ.out; omega)).symm.trans HPS.out)
            obtain ⟨N, hN⟩ : ∃ N : Nat, Hid (s.data.toList.count 10 = N) := ⟨_, Lib.hid rfl⟩
            have NB : Hid (N ≤ 3000) := Lib.hid (by have h1 := hN.out; have h2 := List.count_le_length (a := (10 : UInt8)) (l := s.data.toList); have h3 := SL.out; have h4 := SZ.out; omega)
            go_upto_region 11 with fail
            refine yB ?_
            refine yM (.string s) ?_
            refine yR (fun K hK => ?_)
            go_simp
            refine (parse_any s _ (by have := SZ.out; omega) (EV.out _ BF.out)).mono ?_
            rintro e U5 ⟨⟨xa, xn, rfl, own⟩, b⟩
            rw [Q1.out, Q2.out, Q3.out]
            rw [Q1.out] at own
            have RX : Hid (RdI U5 xa x.kinds.length xn x.kinds) := Lib.hid own.rd
            clear own
            replace BF := Lib.hid (BF.out.trans (b.mono BF.out.size))
            replace XF := Lib.hid (qblk b XF.out)
            clear b
            try dsimp only
            refine yK hK ?_
            clear hK K
            refine yM (.tuple #[.agg (x.cells xa xn), .int .i64 11, .int .i64 aq]) ?_
            refine yM (.agg (x.cells xa xn)) ?_
            refine yM (.int .i64 11) ?_
            refine yM (.int .i64 aq) ?_
            refine yR (fun K hK => ?_)
            refine qbuild (w' := U5.alloc (.cells #[.int .i64 0, .int .i64 0, .int .i64 0, .slice none 0 0] 28)) (.pointer (some ⟨U5.heap.size, 0, none⟩)) (by kernel_rfl) ?_
            obtain ⟨x13, hx13⟩ : ∃ x, Hid (U5.heap.size = x) := ⟨_, Lib.hid rfl⟩
            have AL := Lib.hid (al1 U5 (.cells #[.int .i64 0, .int .i64 0, .int .i64 0, .slice none 0 0] 28))
            rw [hx13.out] at AL ⊢
            refine yK hK ?_
            clear hK K
            refine yR (fun K hK => ?_)
            refine qstore 28 _ _ rfl x13 #[.int .i64 0, .int .i64 0, .int .i64 0, .slice none 0 0] (x.cells xa xn) 28 rfl rfl AL.out.2 (by exact qJF x xa xn) rfl (qone x xa xn) ?_
            intro U6 h8 hg8 hs8
            have b : Below U5.heap.size U5 U6 := qstep (by have h1 := AL.out.1; rw [← hx13.out] at h1; exact h1) hg8 (Nat.le_of_eq hx13.out)
            replace BF := Lib.hid (BF.out.trans (b.mono BF.out.size))
            replace RX := Lib.hid (RX.out.below b)
            replace XF := Lib.hid (qblk b XF.out)
            clear b
            have Xx13 := Lib.hid h8
            clear h8 hg8 hs8 AL
            refine yK hK ?_
            clear hK K
            refine yM (.int .i64 11) ?_
            refine yM (.int .i64 aq) ?_
            refine yE ?_
            go_upto_region 12 with fail
            refine yB ?_
            refine yM (.int .i64 11) ?_
            refine yW (.bool false) ?_
            refine yE ?_
            go_upto_region 15 with fail
            refine yB ?_
            refine yM (.int .i64 0) ?_
            refine yE ?_
            go_upto_region 16 with fail
            refine yB ?_
            refine yM (.int .i64 0) ?_
            refine yE ?_
            go_wp2_with fail
            generalize hY : U6 = Y1 at *
            clear hY
            go_loopw [18, 19] (fun v18 v19 wr => ∃ i : Nat, v19 = .int .i64 (i : Int) ∧ v18 = .int .i64 (((s.data.toList.take i).count 10 : Nat) : Int) ∧ i ≤ s.size ∧ wr = Y1) (fun _ v _ => s.size - (intOf v).toNat)
            case atStart => exact ⟨0, rfl, rfl, Nat.zero_le _, rfl⟩
            case round =>
              obtain ⟨i, rfl, rfl, hi, rfl⟩ := hrel
              by_cases hil : i < s.size
              · have t0 : decide ((i : Int) < (s.size : Int)) = true := by simp; omega
                have HIL := Lib.hid hil
                have hk64 : (i : Int) + 1 ≤ 9223372036854775807 := by have := SZ.out; omega
                obtain ⟨bb, hbb⟩ : ∃ b, Hid (s[i]'hil = b) := ⟨_, Lib.hid rfl⟩
                have HB : Hid (s.data.toList[i]? = some bb) := Lib.hid (by rw [← hbb.out]; exact Lib.data_getElem? s i hil)
                obtain ⟨c, hc⟩ : ∃ c : Nat, Hid ((s.data.toList.take i).count 10 = c) := ⟨_, Lib.hid rfl⟩
                have CL : Hid (c ≤ 3000) := Lib.hid (by have h1 := hc.out; have h2 := List.count_le_length (a := (10 : UInt8)) (l := s.data.toList.take i); rw [List.length_take] at h2; have h3 := SL.out; have h4 := SZ.out; omega)
                have CN : Hid ((s.data.toList.take (i + 1)).count 10 = c + if bb = 10 then 1 else 0) := Lib.hid (by
                  rw [List.take_add_one, HB.out, List.count_append, hc.out]
                  by_cases h : bb = 10
                  · rw [if_pos h, h]; rfl
                  · rw [if_neg h]; simp [h])
                rw [hc.out]
                have c64 : (c : Int) + 1 ≤ 9223372036854775807 := by have := CL.out; omega
                have h2 := hbb.out
                by_cases hb10 : bb = 10
                · rw [if_pos hb10] at CN
                  have tb : ((bb.toNat : Int) == 10) = true := by rw [hb10]; rfl
                  go_wp2_with fail
                  go_roundw
                  case rel => exact ⟨i + 1, by simp, by rw [CN.out]; simp, HIL.out, by trivial⟩
                  case measure => simp [intOf]; have := HIL.out; omega
                · rw [if_neg hb10] at CN
                  have tb : ((bb.toNat : Int) == 10) = false := by
                    rw [beq_eq_false_iff_ne]
                    intro h
                    exact hb10 (UInt8.toNat_inj.1 (by have : (10 : UInt8).toNat = 10 := rfl; omega))
                  go_wp2_with fail
                  go_roundw
                  case rel => exact ⟨i + 1, by simp, by rw [CN.out]; simp, HIL.out, by trivial⟩
                  case measure => simp [intOf]; have := HIL.out; omega
              · have t0 : decide ((i : Int) < (s.size : Int)) = false := by simp; omega
                have e : i = s.size := by omega
                rw [e, show s.size = s.data.toList.length from rfl, List.take_length, hN.out]
                rw [e] at t0
                clear e
                go_upto_region 21 with fail
                refine yB ?_
                refine yM (.int .i64 aq) ?_
                refine yM (.int .i64 (N : Int)) ?_
                cases hat : decide ((N : Int) < aq)
                · refine yW (.bool false) ?_ (.inl ⟨by kernel_rfl, by intro W hW; rw [hW]; go_simp; first | done | exact hat | (simpa using hat)⟩)
                  refine yE ?_
                  have PM := Lib.hid (parse_more (s.data.toList.length + 1) ((s.data.toList ++ more.data.toList).length + 1) 0 zeroF x s.data.toList more.data.toList 11 aq (Nat.lt_succ_self _) (Nat.lt_succ_self _) PG.out (by decide) (by have h1 := of_decide_eq_false hat; have h2 := hN.out; omega)).2
                  obtain ⟨sm, hsm⟩ : ∃ z, Hid (s ++ more = z) := ⟨_, Lib.hid rfl⟩
                  have SM : Hid (sm.data.toList = s.data.toList ++ more.data.toList) := Lib.hid (by rw [← hsm.out, ByteArray.data_append, Array.toList_append])
                  have SMZ : Hid (sm.size ≤ 6000) := Lib.hid (by rw [← hsm.out, ByteArray.size_append]; have h1 := SZ.out; have h2 := MZ.out; omega)
                  have PS : Hid (parseP sm.data.toList = (x, 11, aq)) := Lib.hid (by
                    rw [parseP_go (by have h1 := SMZ.out; have e1 : sm.data.toList.length = sm.size := rfl; omega), SM.out]
                    exact PM.out)
                  have R1 : Hid ((parseP sm.data.toList).1 = x) := Lib.hid (by rw [PS.out])
                  have R2 : Hid ((parseP sm.data.toList).2.1 = 11) := Lib.hid (by rw [PS.out])
                  have R3 : Hid ((parseP sm.data.toList).2.2 = aq) := Lib.hid (by rw [PS.out])
                  go_upto_region 23 with fail
                  refine yB ?_
                  refine yM (.string s) ?_
                  refine yM (.string more) ?_
                  refine yW (.string sm) ?_ (.inl ⟨by kernel_rfl, by intro W hW; rw [hW]; have e := hsm.out; go_simp; have l1 := SZ.out; have l2 := MZ.out; first | done | omega⟩)
                  refine yR (fun K hK => ?_)
                  go_simp
                  refine (parse_any sm _ (by have := SMZ.out; omega) (EV.out _ BF.out)).mono ?_
                  rintro e U7 ⟨⟨ya, yn, rfl, own⟩, b⟩
                  rw [R1.out, R2.out, R3.out]
                  clear own
                  replace BF := Lib.hid (BF.out.trans (b.mono BF.out.size))
                  replace RX := Lib.hid (RX.out.below b)
                  replace XF := Lib.hid (qblk b XF.out)
                  replace Xx13 := Lib.hid (qblk b Xx13.out)
                  clear b
                  try dsimp only
                  refine yK hK ?_
                  clear hK K
                  refine yM (.tuple #[.agg (x.cells ya yn), .int .i64 11, .int .i64 aq]) ?_
                  refine yM (.agg (x.cells ya yn)) ?_
                  refine yM (.int .i64 11) ?_
                  refine yM (.int .i64 aq) ?_
                  refine yR (fun K hK => ?_)
                  refine qbuild (w' := U7.alloc (.cells #[.int .i64 0, .int .i64 0, .int .i64 0, .slice none 0 0] 28)) (.pointer (some ⟨U7.heap.size, 0, none⟩)) (by kernel_rfl) ?_
                  obtain ⟨x20, hx20⟩ : ∃ x, Hid (U7.heap.size = x) := ⟨_, Lib.hid rfl⟩
                  have AL := Lib.hid (al1 U7 (.cells #[.int .i64 0, .int .i64 0, .int .i64 0, .slice none 0 0] 28))
                  rw [hx20.out] at AL ⊢
                  refine yK hK ?_
                  clear hK K
                  refine yR (fun K hK => ?_)
                  refine qstore 28 _ _ rfl x20 #[.int .i64 0, .int .i64 0, .int .i64 0, .slice none 0 0] (x.cells ya yn) 28 rfl rfl AL.out.2 (by exact qJF x ya yn) rfl (qone x ya yn) ?_
                  intro U8 h8 hg8 hs8
                  have b : Below U7.heap.size U7 U8 := qstep (by have h1 := AL.out.1; rw [← hx20.out] at h1; exact h1) hg8 (Nat.le_of_eq hx20.out)
                  replace BF := Lib.hid (BF.out.trans (b.mono BF.out.size))
                  replace RX := Lib.hid (RX.out.below b)
                  replace XF := Lib.hid (qblk b XF.out)
                  replace Xx13 := Lib.hid (qblk b Xx13.out)
                  clear b
                  have Xx20 := Lib.hid h8
                  clear h8 hg8 hs8 AL
                  refine yK hK ?_
                  clear hK K
                  refine yM (.int .i64 11) ?_
                  refine yM (.int .i64 aq) ?_
                  refine yE ?_
                  go_upto_region 24 with fail
                  refine yB ?_
                  refine yM (.bool true) ?_
                  refine yM (.bool true) ?_
                  refine yM (.int .i64 11) ?_
                  refine yW (.bool true) ?_ (.inl ⟨by kernel_rfl, by intro W hW; (try rw [hW]); go_simp; (try simp)⟩)
                  refine yM (.bool true) ?_
                  refine yM (.bool true) ?_
                  refine yM (.int .i64 11) ?_
                  refine yW (.bool true) ?_ (.inl ⟨by kernel_rfl, by intro W hW; (try rw [hW]); go_simp; (try simp)⟩)
                  refine yM (.bool true) ?_
                  refine yM (.bool true) ?_
                  refine yM (.int .i64 aq) ?_
                  refine yM (.int .i64 aq) ?_
                  refine yW (.bool true) ?_ (.inl ⟨by kernel_rfl, by intro W hW; (try rw [hW]); go_simp; (try simp)⟩)
                  refine yM (.bool true) ?_
                  refine yM (.bool true) ?_
                  refine yE ?_
                  go_wp2_with fail
                  go_ret
                  exact ⟨rfl, BF.out⟩
                · refine yW (.bool true) ?_ (.inl ⟨by kernel_rfl, by intro W hW; rw [hW]; go_simp; first | done | exact hat | (simpa using hat)⟩)
                  refine yE ?_
                  go_upto_region 22 with fail
                  refine yB ?_
                  refine yM (.bool true) ?_
                  refine yM (.bool true) ?_
                  refine yM (.int .i64 11) ?_
                  refine yW (.bool true) ?_ (.inl ⟨by kernel_rfl, by intro W hW; (try rw [hW]); go_simp; (try simp)⟩)
                  refine yM (.bool true) ?_
                  refine yM (.bool true) ?_
                  refine yE ?_
                  go_wp2_with fail
                  go_ret
                  exact ⟨rfl, BF.out⟩
      · refine yW (.bool true) ?_ (.inl ⟨by kernel_rfl, by intro W hW; rw [hW]; go_simp; first | done | exact hm | (simpa using hm)⟩)
        refine yM (.bool true) ?_
        refine yE ?_
        go_wp2_with fail
        go_ret
        exact ⟨rfl, BF.out⟩
    · refine yW (.bool true) ?_ (.inl ⟨by kernel_rfl, by intro W hW; rw [hW]; go_simp; first | done | exact hs | (simpa using hs)⟩)
      refine yM (.bool true) ?_
      refine yM (.bool true) ?_
      go_skip
      refine yM (.bool true) ?_
      refine yE ?_
      go_wp2_with fail
      go_ret
      exact ⟨rfl, BF.out⟩
end Go.Proofs.YtimmadkbkimonaaGreatDoor
namespace Go.Proofs.YtimmadkbkimonaaGreatDoor
open Go.ChangeShapes Go.WideShapes Go.ChangeAt Go.RowKit

theorem Tryz.own : ownKnob Tryz.prog.godebug = none := by kernel_rfl
theorem Tryz.laidOut : laidOutB Tryz.prog = true := by kernel_rfl

theorem below_trodAll {H : Type} {enc : TypeId × Value → H} {P : Program} (hl : laidOutB P = true) {W W' : World} (hb : Below W.heap.size W W') :
    ∀ (ts : List TypeId) {vs : List Value} {ds : List (DataW H)} {ps : List MemPlace}, ts.all (fun t => P.readableRec t && decide (t < P.types.size)) = true → (∀ x ∈ ps, x.block < W.heap.size) →
      DataW.TrodAll enc P W 0 (fun _ => true) true ts vs ds ps → DataW.TrodAll enc P W' 0 (fun b => decide (b < W.heap.size)) true ts vs ds ps
  | [], [], [], _, _, _, h => h
  | [], _ :: _, _, _, _, _, h => h.elim
  | [], [], _ :: _, _, _, _, h => h.elim
  | _ :: _, [], _, _, _, _, h => h.elim
  | _ :: _, _ :: _, [], _, _, _, h => h.elim
  | t :: ts, v :: vs, d :: ds, ps, hr, hlt, h => by
    obtain ⟨p, q, h1, h2, rfl⟩ := h
    simp only [List.all_cons, Bool.and_eq_true, decide_eq_true_eq] at hr
    exact ⟨p, q, Below.trod hl hr.1.1 hr.1.2 h1 hb (fun x hx => hlt x (List.mem_append_left _ hx)), below_trodAll hl hb ts hr.2 (fun x hx => hlt x (List.mem_append_right _ hx)) h2, rfl⟩

theorem post_of_law {H : Type} {enc : TypeId × Value → H} {P : Program} (hl : laidOutB P = true) {t : TypeId} (ht : P.underlying t = some .bool) {f : Func} {s : ChangeSpec} {W W' : World} {args : Array Value} {ds : List (DataW H)} {ps : List MemPlace}
    (hv : s.vars = []) (hf : f.resultTypes = #[t]) (hr : f.params.toList.all (fun t => P.readableRec t && decide (t < P.types.size)) = true)
    (hW : DataW.Whole enc P f.params.toList s.vars false W args.toList ds [] ps) (hA : DataW.TrodAll enc P W 0 (fun _ => true) true f.params.toList args.toList ds ps)
    (hs : s.fn H (ds ++ []) = { results := [.lit (.bool true)], args := ds }) (hb : Below W.heap.size W W') : s.post enc P f false true false false W args (.bool true) W' := by
  refine ⟨ds, [], ps, [], ps, [], hW, ?_, ?_, ?_, hb.frame _, fun h => by cases h⟩
  · rw [hs, hf]
    exact trodAll_mk1 (shut_bool ht _)
  · rw [hs]
    exact below_trodAll hl hb _ hr hW.lt hA
  · rw [hs, hv]
    rfl

end Go.Proofs.YtimmadkbkimonaaGreatDoor
namespace Go.Proofs.YtimmadkbkimonaaGreatDoor
open Go.ChangeShapes Go.WideShapes Go.ChangeAt Go.RowKit

theorem i64_of_wf {x : Int} (h : (Lit.int .i64 x).wf = true) : I64 x := by
  simp [Lit.wf, IntKind.min, IntKind.max, IntKind.signed, IntKind.bits] at h
  unfold I64
  omega
theorem Tryz.cells3 : Tryz.prog.cellsOf 3 = 1 := by kernel_rfl
theorem Tryz.cells26 : Tryz.prog.cellsOf 26 = 1 := by kernel_rfl
section
variable {H : Type} {enc : TypeId × Value → H} {W : World} {fuel : Nat}

theorem open_ri1 {cs : List Value} {y : DataW H × List MemPlace} (h : DataW.trod enc Tryz.prog W 0 (fun _ => true) true fuel 26 cs = some y) : ∃ a c l, cs = [.slice a l.length c] ∧ RdI W a l.length c l ∧ ∀ z ∈ l, I64 z := by
  rcases open_ints Tryz.underlying26 Tryz.underlying3 Tryz.cells3 h with ⟨hcs, hx⟩ | ⟨a, n, c, zs, hcs, _, hl, hm, hz, hx, hcell, hwz⟩
  · exact ⟨none, 0, [], hcs, RdA.nil _ _, fun z hz => by cases hz⟩
  · simp only [if_true] at hz
    have hlen : (zs.take n).length = n := by rw [List.length_take]; omega
    refine ⟨some a, c, zs.take n, by rw [hlen]; exact hcs, ⟨by simp, by omega, hm, ?_⟩, fun z hz => i64_of_wf (hwz z (List.mem_of_mem_take hz))⟩
    by_cases hc0 : c = 0
    · exact .inl hc0
    · obtain ⟨ab, ao, spot⟩ := a
      have hspot : spot = none := by simpa [Addr.add] using World.cell?_spot (hcell 0 (by omega))
      subst hspot
      refine .inr ⟨ab, ao, rfl, fun i x hx => ?_⟩
      rw [List.getElem?_map, List.getElem?_take] at hx
      split at hx
      · rename_i hi
        have hiz : i < zs.length := by omega
        rw [List.getElem?_eq_getElem hiz, Option.map_some] at hx
        simp only [Option.some.injEq] at hx
        subst hx
        have hc := hcell i hiz
        rw [Addr.add_lit] at hc
        rw [hc, List.getD_eq_getElem?_getD, List.getElem?_eq_getElem hiz]
        rfl
      · cases hx
end
end Go.Proofs.YtimmadkbkimonaaGreatDoor
namespace Go.Proofs.YtimmadkbkimonaaGreatDoor
set_option linter.constructorNameAsVariable false
open Go.ChangeShapes Go.WideShapes Go.ChangeAt Go.RowKit

theorem Tryz.cells28 : Tryz.prog.cellsOf 28 = 4 := by kernel_rfl
section
variable {H : Type} {enc : TypeId × Value → H} {W : World}
set_option maxRecDepth 100000 in
theorem open_face {base : Nat} {v : Value} {d : DataW H} {p : List MemPlace} (hval : Value.okWide Tryz.prog W .any base 28 v)
    (h : DataW.Trod enc Tryz.prog W 0 (fun _ => true) true 28 v d p) : ∃ (f : FaceV) (a : Option Addr) (n : Nat), v = .agg (f.cells a n) ∧ RdI W a f.kinds.length n f.kinds := by
  obtain ⟨cs, rfl, hsz⟩ := okWide_struct Tryz.underlying28 hval
  obtain ⟨fuel, hf⟩ := h
  obtain ⟨y0, y1, y2, y3, n, _, hl, g0, g1, g2, g3⟩ := Go.Joins.trod_struct4 Tryz.underlying28 hf
  rw [Tryz.cells28] at hsz
  obtain ⟨l⟩ := cs
  match l, hsz with
  | [c0, c1, c2, c3], _ =>
    have g0' : DataW.trod enc Tryz.prog W 0 (fun _ => true) true n 3 (([c0, c1, c2, c3].drop 0).take (Tryz.prog.cellsOf 3)) = some y0 := g0
    have g1' : DataW.trod enc Tryz.prog W 0 (fun _ => true) true n 3 (([c0, c1, c2, c3].drop 1).take (Tryz.prog.cellsOf 3)) = some y1 := g1
    have g2' : DataW.trod enc Tryz.prog W 0 (fun _ => true) true n 3 (([c0, c1, c2, c3].drop 2).take (Tryz.prog.cellsOf 3)) = some y2 := g2
    have g3' : DataW.trod enc Tryz.prog W 0 (fun _ => true) true n 26 (([c0, c1, c2, c3].drop 3).take (Tryz.prog.cellsOf 26)) = some y3 := g3
    rw [Tryz.cells3] at g0' g1' g2'
    rw [Tryz.cells26] at g3'
    obtain ⟨x0, a0, _, _⟩ := DataW.trod_int Tryz.underlying3 g0'
    obtain ⟨x1, a1, _, _⟩ := DataW.trod_int Tryz.underlying3 g1'
    obtain ⟨x2, a2, _, _⟩ := DataW.trod_int Tryz.underlying3 g2'
    obtain ⟨a, c, l, a3, hr, _⟩ := open_ri1 g3'
    simp at a0 a1 a2 a3
    exact ⟨⟨x0, x1, x2, l⟩, a, c, by rw [a0, a1, a2, a3]; rfl, hr⟩
end
theorem gE3 : Tryz.prog.globalNamed "strconv.ErrSyntax" = some 3 := by kernel_rfl
theorem gE4 : Tryz.prog.globalNamed "strconv.ErrRange" = some 4 := by kernel_rfl
theorem gE3t : (Tryz.prog.globals[3]?).map (·.type) = some 89 := by kernel_rfl
theorem gE4t : (Tryz.prog.globals[4]?).map (·.type) = some 89 := by kernel_rfl
theorem gstar : "*" ++ "errors.errorString" = "*errors.errorString" := by decide
theorem rowE (u : TypeId) (h : Tryz.prog.typeName? 3 u = some "*errors.errorString") : u = 212 :=
  typeName_ptr_named (nm := "errors.errorString") (by rw [gstar]; kernel_rfl) (by kernel_rfl) (by decide) u (by rw [gstar]; exact h)
theorem Tryz.cells214 : Tryz.prog.cellsOf 214 = 1 := by kernel_rfl
theorem Tryz.cells9 : Tryz.prog.cellsOf 9 = 1 := by kernel_rfl
theorem env_of {W : World} (hL : laidMetH Tryz.prog Rows.stonesCellsRow.laid W) (hs : W.ShapedOpen Tryz.prog) : EnvW W := by
  rw [MakeChecks.laidMetH_plain _ _ _ (by kernel_rfl)] at hL
  obtain ⟨a0, s0, hv0, _⟩ := laid_sentinel hL.tail.tail.tail.tail gE4 gE4t Tryz.underlying89 rowE Tryz.underlying212 Tryz.underlying214 rfl rfl Tryz.underlying9 Tryz.cells214 Tryz.cells9
  obtain ⟨a1, s1, hv1, _⟩ := laid_sentinel hL.tail.tail.tail.tail.tail gE3 gE3t Tryz.underlying89 rowE Tryz.underlying212 Tryz.underlying214 rfl rfl Tryz.underlying9 Tryz.cells214 Tryz.cells9
  refine ⟨Go.Proofs.cell_of_shapedOpen_int (zero := #[.int .i64 0]) (t := 3) hs (of_decide_eq_true (by kernel_rfl)) (by kernel_rfl) rfl (by kernel_rfl) (by kernel_rfl) Tryz.underlying3, ⟨.iface 212 (.pointer (some a1)), ?_, .inr ⟨_, _, rfl⟩⟩, ⟨.iface 212 (.pointer (some a0)), ?_, .inr ⟨_, _, rfl⟩⟩⟩
  · have h0 := World.var?_cell gE3 hv1 0
    simpa using h0
  · have h0 := World.var?_cell gE4 hv0 0
    simpa using h0
end Go.Proofs.YtimmadkbkimonaaGreatDoor
