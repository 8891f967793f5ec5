/- Parts of the proof, in this order: Regions of the reference; Dead, Drains of the reference; furrows of law01; Normal of stones; Draining step by step, plain; Set's result is the call's own; strconv.Atoi, Itoa, strings.Cut, Split, IndexByte of the library, laid at this program; Faces as texts, plain; header of stones; parseHeader of stones; Parse of stones at a text whose first line is wrong; The examples of the document, by the mirrors, plain; SameInts of the reference; sample, short, few, SameLists. -/
import Derived.Shelf.Strconv.AtoiAll
import Derived.Shelf.Strconv.Itoa3
import Derived.Shelf.Strings.SplitShaped
import Derived.Shelf.Strings.Cut
import Derived.Shelf.Small.Strs
import Derived.Shelf.LaysM
import Derived.Ground.Names2Prog
import Derived.Laws.StructEq
import Derived.Test.YtimmadkbkimonaaGreatDoorKPsv4
set_option linter.unusedSimpArgs false
set_option linter.unusedVariables false
open List renaming getElem_toArray → lq0, getElem_cons_succ → lq1, getElem_cons_zero → lq2, setIfInBounds_toArray → lq3, set_cons_zero → lq4, set_cons_succ → lq5
namespace Go.Proofs.YtimmadkbkimonaaGreatDoor
set_option linter.unusedSimpArgs false
set_option linter.unusedVariables false
open Go.RowKit

structure LsR (w : World) (R q : Nat) (ls : Nat → List Int) (wa : Nat → Option Addr) (wc : Nat → Nat) (W : World) : Prop where
  bel : Below w.heap.size w W
  blk : W.heap[R]? = some (.cells (lsCells q ls wa wc) 26 (0, 0))
  own : ∀ j, j < q → W.ownsRow w.heap.size 3 1 (.slice (wa j) (ls j).length (wc j)) (ls j).length ((ls j).map intV)
  dis : ∀ j k, j < q → k < q → j ≠ k → ∀ g, Value.ownBlock (.slice (wa j) 0 0) = some g → Value.ownBlock (.slice (wa k) 0 0) ≠ some g
  ge : w.heap.size ≤ R
theorem LsR.below {w W W' : World} {R q : Nat} {ls : Nat → List Int} {wa : Nat → Option Addr} {wc : Nat → Nat} (h : LsR w R q ls wa wc W) (hb : Below W.heap.size W W') : LsR w R q ls wa wc W' :=
  ⟨h.bel.trans (hb.mono h.bel.size), qblk hb h.blk, fun j hj => own_below (h.own j hj) hb, h.dis, h.ge⟩
theorem LsR.push {w W V V7 : World} {R q r k : Nat} {f : FaceV} {o : OfM} {wa : Nat → Option Addr} {wc : Nat → Nat} {a7 : Option Addr} {c7 : Nat} (h : LsR w R q (fun j => regAt f o j k) wa wc V) (hr : r < q) (ho : o (k : Int) = some (r : Int))
    (ho7 : V7.ownsRow w.heap.size 3 1 (.slice a7 ((regAt f o r k).length + 1) c7) ((regAt f o r k).length + 1) ((regAt f o r k ++ [(k : Int)]).map intV))
    (hk7 : ∀ (p : Nat) (ob : Obj), V.heap[p]? = some ob → (∀ cur, ob ≠ .cells cur 3 (0, 0)) → V7.heap[p]? = some ob) (hb7 : ∀ W, Below w.heap.size W V → Below w.heap.size W V7)
    (hap : AppK (.slice (wa r) (regAt f o r k).length (wc r)) (.slice a7 ((regAt f o r k).length + 1) c7) V V7) (hg7 : V.grownBy V7 (Value.ownBlock (.slice (wa r) (regAt f o r k).length (wc r)))) :
    LsR w R q (fun j => regAt f o j ((k + 1 : Nat))) (fun j => if j = r then a7 else wa j) (fun j => if j = r then c7 else wc j) (V7.setCell ⟨R, r, none⟩ (.slice a7 ((regAt f o r k).length + 1) c7)) := by
  have hR := hk7 _ _ h.blk (by simp)
  have HG := qput_grown V7 R r (.slice a7 ((regAt f o r k).length + 1) c7)
  have er : regAt f o (r : Int) (k + 1) = regAt f o r k ++ [(k : Int)] := by rw [regAt_succ, if_pos ho]
  have ne : ∀ j : Nat, j ≠ r → regAt f o (j : Int) (k + 1) = regAt f o j k := fun j hj => by
    rw [regAt_succ, if_neg (by rw [ho]; intro e; have := Option.some.inj e; omega), List.append_nil]
  have lt : ∀ j : Nat, j < q → ∀ g, Value.ownBlock (.slice (wa j) 0 0) = some g → g < V.heap.size := fun j hj g e => ((h.own j hj).lt g (by rw [qob]; exact e)).2
  refine ⟨qstep (hb7 _ h.bel) HG h.ge, ?_, fun j hj => ?_, fun j k2 hj hk2 hjk g e => ?_, h.ge⟩
  · rw [qput_at hR r _]
    congr 2
    unfold lsCells
    apply Array.ext_getElem?
    intro j
    rw [Array.getElem?_setIfInBounds]
    by_cases hj : j < q
    · rw [List.getElem?_toArray, List.getElem?_toArray, List.getElem?_map, List.getElem?_map, List.getElem?_range hj]
      by_cases e : r = j
      · subst e
        rw [if_pos rfl, if_pos (by simp; omega)]
        simp only [Option.map_some, if_true]
        rw [er, List.length_append]
        rfl
      · rw [if_neg e]
        simp only [Option.map_some]
        rw [if_neg (fun e2 => e e2.symm), if_neg (fun e2 => e e2.symm), ne j (fun e2 => e e2.symm)]
    · rw [if_neg (by omega), List.getElem?_toArray, List.getElem?_toArray, List.getElem?_eq_none (by simp; omega), List.getElem?_eq_none (by simp; omega)]
  · try dsimp only
    by_cases e : j = r
    · subst e
      rw [if_pos rfl, if_pos rfl, er, List.length_append]
      exact ho7.kept HG (.inr (qown_no ho7 hR (by simp)).symm)
    · rw [if_neg e, if_neg e, ne j e]
      have h1 := h.own j hj
      have h2 := h1.kept hg7 (by
        cases hoj : Value.ownBlock (.slice (wa j) 0 0) with
        | none => left; rw [qob]; exact hoj
        | some g =>
          right
          intro e2
          rw [qob (wa j), qob (wa r), hoj] at e2
          exact h.dis j r hj hr e g hoj e2.symm)
      exact h2.kept HG (.inr (qown_no h2 hR (by simp)).symm)
  · try dsimp only at e ⊢
    by_cases e1 : j = r
    · rw [if_pos e1] at e
      rw [if_neg (fun e2 => hjk (e1.trans e2.symm))]
      intro e3
      have h1 := hap.no g (by rw [qob]; exact fun e4 => h.dis k2 r hk2 hr (fun e5 => hjk (e1.trans e5.symm)) g e3 e4) (lt k2 hk2 g e3)
      rw [qob] at h1
      exact h1.1 e
    · rw [if_neg e1] at e
      by_cases e2 : k2 = r
      · rw [if_pos e2]
        have h1 := hap.no g (by rw [qob]; exact fun e4 => h.dis j r hj hr e1 g e e4) (lt j hj g e)
        rw [qob] at h1
        exact h1.1
      · rw [if_neg e2]
        exact h.dis j k2 hj hk2 hjk g e
end Go.Proofs.YtimmadkbkimonaaGreatDoor
namespace Go.Proofs.YtimmadkbkimonaaGreatDoor
set_option linter.unusedSimpArgs false
set_option linter.unusedVariables false
open Go.RowKit

structure LsC (W : World) (R o : Nat) (aj : Option Addr) (cj : Nat) (cs : List Int) : Prop where
  cell : W.cell? ⟨R, o, none⟩ = some (.slice aj cs.length cj)
  rd : RdI W aj cs.length cj cs
theorem LsC.below {W W' : World} {R o : Nat} {aj : Option Addr} {cj : Nat} {cs : List Int} (h : LsC W R o aj cj cs) (hb : Below W.heap.size W W') : LsC W' R o aj cj cs :=
  ⟨(hb.cell (p := ⟨R, o, none⟩) (World.block_lt_of_cell? W _ h.cell)).trans h.cell, h.rd.below hb⟩
end Go.Proofs.YtimmadkbkimonaaGreatDoor
namespace Go.Proofs.YtimmadkbkimonaaGreatDoor
set_option linter.unusedSimpArgs false
set_option linter.unusedVariables false
open Go.RowKit

def AlL (W : World) (vs : List Value) (ls : List (List Int)) : Prop := vs.length = ls.length ∧ ∀ (j : Nat) l, ls[j]? = some l → ∃ aj cj, vs[j]? = some (.slice aj l.length cj) ∧ RdI W aj l.length cj l
theorem AlL.nil (W : World) : AlL W [] [] := ⟨rfl, fun j l h => by simp at h⟩
theorem RdLL.of_own {w W Wb : World} {oa : Option Addr} {oc : Nat} {vs : List Value} {ls : List (List Int)} (ho : W.ownsRow w.heap.size 26 1 (.slice oa vs.length oc) vs.length vs) (ha : AlL Wb vs ls) (hb : Below Wb.heap.size Wb W) : RdLL W oa vs.length oc ls := by
  have hr : RdA W 1 oa vs.length oc vs := RdA.of_own ho
  refine ⟨ha.1.symm, hr.2.1, hr.2.2.1, fun j l hj => ?_⟩
  obtain ⟨aj, cj, e1, e2⟩ := ha.2 j l hj
  have hlt : j < vs.length := (List.getElem?_eq_some_iff.1 e1).1
  obtain ⟨b, off, e3, h4⟩ := RdA.at hr (by omega)
  exact ⟨b, off, aj, cj, e3, h4 j _ e1, e2.below hb⟩
def OwnS (w W : World) (oa : Option Addr) (N oc : Nat) (vs : List Value) : Prop := W.ownsRow w.heap.size 26 1 (.slice oa N oc) N vs
theorem OwnS.below {w W W' : World} {oa : Option Addr} {N oc : Nat} {vs : List Value} (h : OwnS w W oa N oc vs) (hb : Below W.heap.size W W') : OwnS w W' oa N oc vs := own_below h hb
end Go.Proofs.YtimmadkbkimonaaGreatDoor
namespace Go.Proofs.YtimmadkbkimonaaGreatDoor
set_option linter.unusedSimpArgs false
set_option linter.unusedVariables false
open Go.RowKit

def norK (f : FaceV) (k : Nat) : FaceV := (List.range k).foldl (fun least (b : Nat) => if cmpZ (turnF f b).kinds least.kinds < 0 then turnF f b else least) f
theorem norK_succ (f : FaceV) (k : Nat) : norK f (k + 1) = if cmpZ (turnF f k).kinds (norK f k).kinds < 0 then turnF f k else norK f k := by
  unfold norK
  rw [List.range_succ, List.foldl_append]
  rfl
def KOk (W : World) (L : Nat) (a : Option Addr) (n c : Nat) (l : List Int) : Prop := RdI W a n c l ∧ ∀ b off, a = some ⟨b, off, none⟩ → b ≠ L
theorem KOk.below {W W' : World} {L : Nat} {a : Option Addr} {n c : Nat} {l : List Int} (h : KOk W L a n c l) (hb : Below W.heap.size W W') : KOk W' L a n c l := ⟨h.1.below hb, h.2⟩
theorem KOk.step {W W' : World} {L : Nat} {a : Option Addr} {n c : Nat} {l : List Int} (h : KOk W L a n c l) (hg : W.grownBy W' (some L)) : KOk W' L a n c l :=
  ⟨RdA.of_cells h.1 (fun b hb hlt => by
    obtain ⟨off, e⟩ := hb
    exact hg.block b hlt (fun e2 => h.2 b off e (Option.some.inj e2))), h.2⟩
theorem KOk.own {w W : World} {g : FaceV} {a : Option Addr} {n L : Nat} {A : Array Value} (h : FOwn w W g a n) (hL : W.heap[L]? = some (.cells A 28 (0, 0))) : KOk W L a g.kinds.length n g.kinds :=
  ⟨h.rd, fun b off e e2 => by
    have h1 := qown_no h hL (by simp)
    rw [e] at h1
    exact h1 (by rw [← e2]; rfl)⟩
set_option maxHeartbeats 4000000 in
set_option maxRecDepth 100000 in
theorem normalP_any (f : FaceV) (a : Option Addr) (n : Nat) (w : World) (hr : RdI w a f.kinds.length n f.kinds) :
    Calls Tryz.prog 44 #[.agg (f.cells a n)] w fun e w' => (∃ a' n', e = .returned (.tuple #[.agg ((normalP f).1.cells a' n'), .int .i64 (normalP f).2]) ∧ FOwn w w' (normalP f).1 a' n') ∧ Below w.heap.size w w' := by
  have AV := Lib.hid (fun W (hb : Below w.heap.size w W) => valid2_any f a n W (hr.below hb))
  have HR := Lib.hid (fun W (hb : Below w.heap.size w W) => hr.below hb)
  clear hr
  have AL := Lib.hid (al2 w (.cells (f.cells a n) 28) (.cells #[.int .i64 0, .int .i64 0, .int .i64 0, .slice none 0 0] 28))
  go_enter Tryz.func44, Tryz.ntmps44
  go_upto_region 1 with fail
  obtain ⟨p, hp⟩ : ∃ p, Hid (w.heap.size = p) := ⟨_, Lib.hid rfl⟩
  obtain ⟨z, hz⟩ : ∃ z, Hid (w.heap.size + 1 = z) := ⟨_, Lib.hid rfl⟩
  rw [hz.out] at AL ⊢
  rw [hp.out] at AL ⊢
  generalize ((w.alloc (.cells (f.cells a n) 28)).alloc (.cells #[.int .i64 0, .int .i64 0, .int .i64 0, .slice none 0 0] 28)) = W0 at *
  have BF : Hid (Below w.heap.size w W0) := Lib.hid (by rw [hp.out]; exact AL.out.1)
  have XF : Hid (W0.heap[p]? = some (.cells (f.cells a n) 28 (0, 0))) := Lib.hid AL.out.2.1
  have XZ : Hid (W0.heap[z]? = some (.cells (zeroF.cells none 0) 28 (0, 0))) := Lib.hid AL.out.2.2
  clear AL
  have c0 := qcell XF.out 0 (.int .i64 f.eye) rfl
  have c1 := qcell XF.out 1 (.int .i64 f.rings) rfl
  have c2 := qcell XF.out 2 (.int .i64 f.sectors) rfl
  have c3 := qcell XF.out 3 (.slice a f.kinds.length n) rfl
  go_wp2_with (first
    | (refine wpList_load_row rfl 28 _ rfl p rfl 28 (f.cells a n) (0, 0) _ XF.out Tryz.underlying28 rfl (by exact (qJF f a n)) ?_)
    | (refine wpList_load_row rfl 28 _ rfl z rfl 28 (zeroF.cells none 0) (0, 0) _ XZ.out Tryz.underlying28 rfl (by exact (qJF zeroF none 0)) ?_)
    | fail)
  refine (AV.out W0 BF.out).mono ?_
  rintro e V1 ⟨rfl, b⟩
  clear c0 c1 c2 c3
  replace BF := Lib.hid (BF.out.trans (b.mono BF.out.size))
  replace XF := Lib.hid (qblk b XF.out)
  replace XZ := Lib.hid (qblk b XZ.out)
  clear b
  have c0 := qcell XF.out 0 (.int .i64 f.eye) rfl
  have c1 := qcell XF.out 1 (.int .i64 f.rings) rfl
  have c2 := qcell XF.out 2 (.int .i64 f.sectors) rfl
  have c3 := qcell XF.out 3 (.slice a f.kinds.length n) rfl
  cases hv : f.valid
  · go_wp2_with (first
      | (refine wpList_load_row rfl 28 _ rfl p rfl 28 (f.cells a n) (0, 0) _ XF.out Tryz.underlying28 rfl (by exact (qJF f a n)) ?_)
      | (refine wpList_load_row rfl 28 _ rfl z rfl 28 (zeroF.cells none 0) (0, 0) _ XZ.out Tryz.underlying28 rfl (by exact (qJF zeroF none 0)) ?_)
      | (refine wpList_qstore rfl 28 _ _ rfl z (zeroF.cells none 0) (zeroF.cells none 0) 28 rfl rfl XZ.out (by exact (qJF zeroF none 0)) rfl (qone zeroF none 0) ?_; intro VZ hzz hgz; clear c0 c1 c2 c3; replace BF := Lib.hid (qstep BF.out hgz (by have h1 := hz.out; omega)); replace XF := Lib.hid (qgrown hgz XF.out (fun e => by have h1 := hp.out; have h2 := hz.out; have := Option.some.inj e; omega)); replace XZ := Lib.hid hzz; clear hzz hgz; have c0 := qcell XF.out 0 (.int .i64 f.eye) rfl; have c1 := qcell XF.out 1 (.int .i64 f.rings) rfl; have c2 := qcell XF.out 2 (.int .i64 f.sectors) rfl; have c3 := qcell XF.out 3 (.slice a f.kinds.length n) rfl)
      | fail)
    (try simp only [Exit.inBlock, Exit.then])
    refine bodyPost_ret (results_ct rfl _ VZ z 28 (zeroF.cells none 0) (0, 0) _ rfl XZ.out Tryz.underlying28 rfl (by exact (qJF zeroF none 0))) rfl ?_
    unfold normalP
    rw [hv]
    exact ⟨⟨none, 0, rfl, FOwn.nil _ _⟩, BF.out⟩
  · have HV := Lib.hid hv
    have NV := Lib.hid (FaceV.nat hv)
    clear hv
    have LZ : Hid (p < V1.heap.size ∧ z < V1.heap.size) := Lib.hid ⟨qlt XF.out, qlt XZ.out⟩
    go_upto_region 4 with (first
      | (refine wpList_load_row rfl 28 _ rfl p rfl 28 (f.cells a n) (0, 0) _ XF.out Tryz.underlying28 rfl (by exact (qJF f a n)) ?_)
      | (refine wpList_load_row rfl 28 _ rfl z rfl 28 (zeroF.cells none 0) (0, 0) _ XZ.out Tryz.underlying28 rfl (by exact (qJF zeroF none 0)) ?_)
      | (refine wpList_store_new V1 rfl 28 _ _ rfl (zeroF.cells none 0) (f.cells a n) rfl rfl (by exact qJF f a n) rfl (qone f a n) ?_)
      | fail)
    clear c0 c1 c2 c3
    have KW : Hid (∀ b off, a = some ⟨b, off, none⟩ → b < w.heap.size) := Lib.hid (fun b off e => by
      obtain ⟨b0, off0, e2, h2⟩ := (HR.out w (Below.refl _ _)).get (FaceV.kat_at (f := f) (k := 0) (by have := NV.out; have h3 := Nat.mul_pos (show 0 < f.R by omega) (show 0 < f.S by omega); omega))
      rw [e2] at e
      cases e
      exact World.block_lt_of_cell? w _ h2)
    have AL := al1 V1 (.cells (f.cells a n) 28)
    replace BF := Lib.hid (BF.out.trans (AL.1.mono BF.out.size))
    replace XF := Lib.hid (qblk AL.1 XF.out)
    replace XZ := Lib.hid (qblk AL.1 XZ.out)
    have XL := Lib.hid AL.2
    obtain ⟨L, hL⟩ : ∃ L, Hid (V1.heap.size = L) := ⟨_, Lib.hid rfl⟩
    have LG : Hid (w.heap.size ≤ L ∧ L ≠ p ∧ L ≠ z ∧ w.heap.size = p ∧ w.heap.size + 1 = z) := Lib.hid (by have h1 := qlt XF.out; have h2 := hL.out; have h3 := BF.out.size; have h4 := hp.out; have h5 := hz.out; have h6 := V1.size_alloc (.cells (f.cells a n) 28); have h7 := LZ.out; omega)
    rw [hL.out] at XL ⊢
    clear AL
    have KK := Lib.hid (show KOk (V1.alloc (.cells (f.cells a n) 28)) L a f.kinds.length n f.kinds from ⟨HR.out _ BF.out, fun b off e e2 => by have h1 := KW.out b off e; have h2 := LG.out; omega⟩)
    generalize V1.alloc (.cells (f.cells a n) 28) = V2 at *
    have c0 := qcell XF.out 0 (.int .i64 f.eye) rfl
    have c1 := qcell XF.out 1 (.int .i64 f.rings) rfl
    have c2 := qcell XF.out 2 (.int .i64 f.sectors) rfl
    have c3 := qcell XF.out 3 (.slice a f.kinds.length n) rfl
    go_wp2_with fail
    clear c0 c1 c2 c3
    have eS := NV.out.2.1
    rw [eS]
    clear eS
    go_loopw [14] (fun i wr => ∃ (k : Nat) (la : Option Addr) (ln : Nat), i = .int .i64 k ∧ k ≤ f.S ∧ Hid (KOk wr L la (norK f k).kinds.length ln (norK f k).kinds) ∧ Hid (Below w.heap.size w wr) ∧ Hid (wr.heap[p]? = some (.cells (f.cells a n) 28 (0, 0))) ∧ Hid (wr.heap[z]? = some (.cells (zeroF.cells none 0) 28 (0, 0))) ∧ Hid (wr.heap[L]? = some (.cells ((norK f k).cells la ln) 28 (0, 0)))) (fun i _ => f.S - (intOf i).toNat)
    case atStart => exact ⟨0, a, n, rfl, Nat.zero_le _, KK, BF, XF, XZ, XL⟩
    case round =>
      clear KK BF XF XZ XL
      obtain ⟨k, la, ln, rfl, hk, KK, BF, XF, XZ, XL⟩ := hrel
      by_cases hkn : k < f.S
      · have t0 : decide ((k : Int) < (f.S : Int)) = true := by simp; omega
        have HK64 : Hid ((k : Int) + 1 ≤ 9223372036854775807) := Lib.hid (by have := NV.out; omega)
        have c0 := qcell XF.out 0 (.int .i64 f.eye) rfl
        have c1 := qcell XF.out 1 (.int .i64 f.rings) rfl
        have c2 := qcell XF.out 2 (.int .i64 f.sectors) rfl
        have c3 := qcell XF.out 3 (.slice a f.kinds.length n) rfl
        have l3 := qcell XL.out 3 (.slice la (norK f k).kinds.length ln) rfl
        go_wp2_with (first
          | (refine wpList_load_row rfl 28 _ rfl p rfl 28 (f.cells a n) (0, 0) _ XF.out Tryz.underlying28 rfl (by exact (qJF f a n)) ?_)
          | (refine wpList_load_row rfl 28 _ rfl z rfl 28 (zeroF.cells none 0) (0, 0) _ XZ.out Tryz.underlying28 rfl (by exact (qJF zeroF none 0)) ?_)
          | (refine wpList_load_row rfl 28 _ rfl L rfl 28 ((norK f k).cells la ln) (0, 0) _ XL.out Tryz.underlying28 rfl (by exact (qJF (norK f k) la ln)) ?_)
          | fail)
        refine (turned_any f a n k wr HV.out (HR.out wr BF.out)).mono ?_
        rintro e V3 ⟨⟨a', n', rfl, own⟩, b⟩
        have BB := Lib.hid BF.out
        replace KK := Lib.hid (KK.out.below b)
        clear c0 c1 c2 c3 l3
        replace BF := Lib.hid (BF.out.trans (b.mono BF.out.size))
        replace XF := Lib.hid (qblk b XF.out)
        replace XZ := Lib.hid (qblk b XZ.out)
        replace XL := Lib.hid (qblk b XL.out)
        clear b
        have c0 := qcell XF.out 0 (.int .i64 f.eye) rfl
        have c1 := qcell XF.out 1 (.int .i64 f.rings) rfl
        have c2 := qcell XF.out 2 (.int .i64 f.sectors) rfl
        have c3 := qcell XF.out 3 (.slice a f.kinds.length n) rfl
        have l3 := qcell XL.out 3 (.slice la (norK f k).kinds.length ln) rfl
        have OW := Lib.hid (own.mono BB.out.size)
        clear own t0
        go_upto_region 8 with (first
          | (refine wpList_load_row rfl 28 _ rfl p rfl 28 (f.cells a n) (0, 0) _ XF.out Tryz.underlying28 rfl (by exact (qJF f a n)) ?_)
          | (refine wpList_load_row rfl 28 _ rfl z rfl 28 (zeroF.cells none 0) (0, 0) _ XZ.out Tryz.underlying28 rfl (by exact (qJF zeroF none 0)) ?_)
          | (refine wpList_load_row rfl 28 _ rfl L rfl 28 ((norK f k).cells la ln) (0, 0) _ XL.out Tryz.underlying28 rfl (by exact (qJF (norK f k) la ln)) ?_)
          | (refine wpList_store_new V3 rfl 28 _ _ rfl (zeroF.cells none 0) ((turnF f k).cells a' n') rfl rfl (by exact qJF (turnF f k) a' n') rfl (qone (turnF f k) a' n') ?_)
          | fail)
        clear c0 c1 c2 c3 l3
        have AL := al1 V3 (.cells ((turnF f k).cells a' n') 28)
        replace BF := Lib.hid (BF.out.trans (AL.1.mono BF.out.size))
        replace XF := Lib.hid (qblk AL.1 XF.out)
        replace XZ := Lib.hid (qblk AL.1 XZ.out)
        replace KK := Lib.hid (KK.out.below AL.1)
        replace OW := Lib.hid (OW.out.below AL.1)
        have GL : Hid (V3.heap.size ≠ L) := Lib.hid (by have := qlt XL.out; omega)
        replace XL := Lib.hid (qblk AL.1 XL.out)
        have XG := Lib.hid AL.2
        obtain ⟨g, hg⟩ : ∃ g, Hid (V3.heap.size = g) := ⟨_, Lib.hid rfl⟩
        rw [hg.out] at XG GL ⊢
        clear AL
        generalize V3.alloc (.cells ((turnF f k).cells a' n') 28) = V4 at *
        have c0 := qcell XF.out 0 (.int .i64 f.eye) rfl
        have c1 := qcell XF.out 1 (.int .i64 f.rings) rfl
        have c2 := qcell XF.out 2 (.int .i64 f.sectors) rfl
        have c3 := qcell XF.out 3 (.slice a f.kinds.length n) rfl
        have l3 := qcell XL.out 3 (.slice la (norK f k).kinds.length ln) rfl
        have g3 := qcell XG.out 3 (.slice a' (turnF f k).kinds.length n') rfl
        go_wp2_with (first
          | (refine wpList_load_row rfl 28 _ rfl p rfl 28 (f.cells a n) (0, 0) _ XF.out Tryz.underlying28 rfl (by exact (qJF f a n)) ?_)
          | (refine wpList_load_row rfl 28 _ rfl z rfl 28 (zeroF.cells none 0) (0, 0) _ XZ.out Tryz.underlying28 rfl (by exact (qJF zeroF none 0)) ?_)
          | (refine wpList_load_row rfl 28 _ rfl L rfl 28 ((norK f k).cells la ln) (0, 0) _ XL.out Tryz.underlying28 rfl (by exact (qJF (norK f k) la ln)) ?_)
          | (refine wpList_load_row rfl 28 _ rfl g rfl 28 ((turnF f k).cells a' n') (0, 0) _ XG.out Tryz.underlying28 rfl (by exact (qJF (turnF f k) a' n')) ?_)
          | fail)
        refine (cmpZ_any a' _ n' _ la _ ln _ V4 OW.out.rd KK.out.1).mono ?_
        rintro e V5 ⟨rfl, rfl⟩
        cases hc : decide (cmpZ (turnF f k).kinds (norK f k).kinds < 0)
        · have E : Hid (norK f (k + 1) = norK f k) := Lib.hid (by rw [norK_succ, if_neg (of_decide_eq_false hc)])
          have hk64 := HK64.out
          go_wp2_with (first
            | (refine wpList_load_row rfl 28 _ rfl p rfl 28 (f.cells a n) (0, 0) _ XF.out Tryz.underlying28 rfl (by exact (qJF f a n)) ?_)
            | (refine wpList_load_row rfl 28 _ rfl z rfl 28 (zeroF.cells none 0) (0, 0) _ XZ.out Tryz.underlying28 rfl (by exact (qJF zeroF none 0)) ?_)
            | (refine wpList_load_row rfl 28 _ rfl L rfl 28 ((norK f k).cells la ln) (0, 0) _ XL.out Tryz.underlying28 rfl (by exact (qJF (norK f k) la ln)) ?_)
            | (refine wpList_load_row rfl 28 _ rfl g rfl 28 ((turnF f k).cells a' n') (0, 0) _ XG.out Tryz.underlying28 rfl (by exact (qJF (turnF f k) a' n')) ?_)
            | fail)
          go_roundw
          case rel =>
            refine ⟨k + 1, la, ln, by simp, by omega, ?_, BF, XF, XZ, ?_⟩
            · rw [E.out]; exact KK
            · rw [E.out]; exact XL
          case measure => simp [intOf]; omega
        · have E : Hid (norK f (k + 1) = turnF f k) := Lib.hid (by rw [norK_succ, if_pos (of_decide_eq_true hc)])
          go_upto_region 10 with (first
            | (refine wpList_load_row rfl 28 _ rfl p rfl 28 (f.cells a n) (0, 0) _ XF.out Tryz.underlying28 rfl (by exact (qJF f a n)) ?_)
            | (refine wpList_load_row rfl 28 _ rfl z rfl 28 (zeroF.cells none 0) (0, 0) _ XZ.out Tryz.underlying28 rfl (by exact (qJF zeroF none 0)) ?_)
            | (refine wpList_load_row rfl 28 _ rfl L rfl 28 ((norK f k).cells la ln) (0, 0) _ XL.out Tryz.underlying28 rfl (by exact (qJF (norK f k) la ln)) ?_)
            | (refine wpList_load_row rfl 28 _ rfl g rfl 28 ((turnF f k).cells a' n') (0, 0) _ XG.out Tryz.underlying28 rfl (by exact (qJF (turnF f k) a' n')) ?_)
            | (refine wpList_qstore rfl 28 _ _ rfl L ((norK f k).cells la ln) ((turnF f k).cells a' n') 28 rfl rfl XL.out (by exact (qJF (turnF f k) a' n')) rfl (qone (turnF f k) a' n') ?_; intro V6 hzz hgz; clear c0 c1 c2 c3 l3 g3; replace BF := Lib.hid (qstep BF.out hgz (by have h1 := LG.out; omega)); replace XF := Lib.hid (qgrown hgz XF.out (fun e => by have h1 := LG.out; have := Option.some.inj e; omega)); replace XZ := Lib.hid (qgrown hgz XZ.out (fun e => by have h1 := LG.out; have := Option.some.inj e; omega)); replace XG := Lib.hid (qgrown hgz XG.out (fun e => by exact GL.out (Option.some.inj e))); replace OW := Lib.hid (OW.out.kept hgz XL.out); replace XL := Lib.hid hzz; clear hzz hgz; have c0 := qcell XF.out 0 (.int .i64 f.eye) rfl; have c1 := qcell XF.out 1 (.int .i64 f.rings) rfl; have c2 := qcell XF.out 2 (.int .i64 f.sectors) rfl; have c3 := qcell XF.out 3 (.slice a f.kinds.length n) rfl; have g3 := qcell XG.out 3 (.slice a' (turnF f k).kinds.length n') rfl)
            | fail)
          have hk64 := HK64.out
          go_wp2_with fail
          go_roundw
          case rel =>
            refine ⟨k + 1, a', n', by simp, by omega, ?_, BF, XF, XZ, ?_⟩
            · rw [E.out]; exact Lib.hid (KOk.own OW.out XL.out)
            · rw [E.out]; exact XL
          case measure => simp [intOf]; omega
      · have t0 : decide ((k : Int) < (f.S : Int)) = false := by simp; omega
        have e : k = f.S := by omega
        subst e
        have EN : Hid (norK f f.S = normalF f) := Lib.hid rfl
        rw [EN.out] at KK XL
        have NL := Lib.hid (FaceV.len_le (normal_valid HV.out))
        go_upto_region 11 with fail
        have hz0 : Below wr.heap.size wr wr.drew := (Below.refl _ _).drew
        replace XZ := Lib.hid (qblk hz0 XZ.out)
        replace KK := Lib.hid (KK.out.below hz0)
        clear hz0 XF t0
        have l3 := qcell XL.out 3 (.slice la (normalF f).kinds.length ln) rfl
        clear l3
        have hd : Below wr.heap.size wr wr.drew := (Below.refl _ _).drew
        replace BF := Lib.hid (BF.out.drew)
        replace XL := Lib.hid (qblk hd XL.out)
        refine zD (fun W => Below w.heap.size w W ∧ W.heap[L]? = some (.cells ((normalF f).cells la ln) 28 (0, 0))) ⟨BF.out, XL.out⟩ (fun hHeld => ?_)
        clear hd
        generalize wr.drew = V3 at *
        refine zT 0 rfl (.agg ((normalF f).cells la ln)) (qyrow (by kernel_rfl) 28 _ rfl L rfl _ 28 (0, 0) _ (fun W hW => hW.2) Tryz.underlying28 rfl (by exact (qJF (normalF f) la ln))) ?_
        refine zW 1 rfl (.pointer (some ⟨L, 3, none⟩)) ?_
        refine zS 2 rfl (.slice la (normalF f).kinds.length ln) (fun W hW => by have c := qcell hW.2 3 (.slice la (normalF f).kinds.length ln) rfl; go_simp) ?_
        refine zR 3 rfl (fun K hK => ?_)
        go_simp
        refine (cloneZ_any la (normalF f).kinds.length ln (normalF f).kinds V3 (by have := NL.out; omega) KK.out.1).mono ?_
        rintro e V4 ⟨a', n', rfl, own, b⟩
        have OW := Lib.hid (own_mono own BF.out.size)
        clear own
        replace XZ := Lib.hid (qblk b XZ.out)
        replace BF := Lib.hid (BF.out.trans (b.mono BF.out.size))
        replace XL := Lib.hid (qblk b XL.out)
        clear b
        dsimp only
        refine zK hK ⟨BF.out, XL.out⟩ (fun hHeld => ?_)
        clear hK K
        refine zR 4 rfl (fun K hK => ?_)
        go_simp
        refine (with_any (normalF f) la ln (normalF f).kinds a' (normalF f).kinds.length n' V4 rfl).mono ?_
        rintro e V5 ⟨rfl, b⟩
        replace XZ := Lib.hid (qblk b XZ.out)
        replace OW := Lib.hid (own_below OW.out b)
        replace BF := Lib.hid (BF.out.trans (b.mono BF.out.size))
        replace XL := Lib.hid (qblk b XL.out)
        clear b
        dsimp only
        refine zK hK ⟨BF.out, XL.out⟩ (fun hHeld => ?_)
        clear hK K
        have eW : withF (normalF f) (normalF f).kinds = normalF f := rfl
        rw [eW]
        clear eW
        refine zR 5 rfl (fun K hK => ?_)
        rw [if_pos (by kernel_rfl)]
        refine qstore 28 _ _ rfl z (zeroF.cells none 0) ((normalF f).cells a' n') 28 rfl rfl XZ.out (by exact qJF (normalF f) a' n') rfl (qone (normalF f) a' n') ?_
        intro X h8 hg8 hs8
        replace BF := Lib.hid (qstep BF.out hg8 (by have := LG.out; omega))
        replace XL := Lib.hid (qgrown hg8 XL.out (fun e => by have h1 := LG.out; have := Option.some.inj e; omega))
        have OW2 : Hid (FOwn w X (normalF f) a' n') := Lib.hid (FOwn.kept OW.out hg8 XZ.out)
        replace XZ := Lib.hid h8
        clear h8 hg8 hs8
        refine zK hK ⟨BF.out, XL.out⟩ (fun hHeld => ?_)
        clear hK K
        refine zW 6 rfl (.int .i64 0) ?_
        refine zE ?_
        clear hHeld
        go_wp2_with fail
        (try simp only [Exit.inBlock, Exit.then])
        refine bodyPost_ret (results_ct rfl _ X z 28 ((normalF f).cells a' n') (0, 0) _ rfl XZ.out Tryz.underlying28 rfl (by exact (qJF (normalF f) a' n'))) rfl ?_
        unfold normalP
        rw [HV.out]
        exact ⟨⟨a', n', rfl, OW2.out⟩, BF.out⟩
end Go.Proofs.YtimmadkbkimonaaGreatDoor
namespace Go.Proofs.YtimmadkbkimonaaGreatDoor
set_option linter.unusedSimpArgs false
set_option linter.unusedVariables false
open Go.RowKit

theorem cut_w2 {A1 A2 : Type} {P T : A1 → A2 → Prop} {G : Prop} (h1 : (∀ x1 x2, P x1 x2 → T x1 x2) → G) (h2 : ∀ x1 x2, P x1 x2 → T x1 x2) : G := h1 h2
theorem pairwise_at {l : List Int} (h : l.Pairwise (· < ·)) {i j : Nat} {x y : Int} (hi : l[i]? = some x) (hj : l[j]? = some y) (hij : i < j) : x < y := by
  obtain ⟨h1, rfl⟩ := List.getElem?_eq_some_iff.1 hi
  obtain ⟨h2, rfl⟩ := List.getElem?_eq_some_iff.1 hj
  exact List.pairwise_iff_getElem.1 h i j h1 h2 hij
end Go.Proofs.YtimmadkbkimonaaGreatDoor
namespace Go.Proofs.YtimmadkbkimonaaGreatDoor
set_option linter.unusedSimpArgs false
set_option linter.unusedVariables false
open Go.Shelf

def sh_lays171_ren : Go.Shelf.Ren := ⟨fun | 171 => 114 | 243 => 139 | 246 => 152 | 283 => 178 | 284 => 179 | 285 => 180 | 286 => 181 | 129 => 177 | 317 => 194 | 318 => 195 | 319 => 196 | 320 => 197 | 337 => 201 | 338 => 202 | n => n, fun | 3 => 3 | 9 => 9 | 2 => 2 | 4 => 4 | 171 => 184 | 0 => 0 | 53 => 183 | 37 => 85 | 5 => 5 | 173 => 186 | 212 => 208 | 51 => 181 | 20 => 20 | 213 => 209 | 46 => 162 | 232 => 218 | 233 => 219 | n => n, fun | 17 => 5 | 18 => 6 | 19 => 7 | n => n⟩
theorem sh_lays171 : Go.Proofs.Lays.n171 Tryz.prog sh_lays171_ren := {
  mixed := by kernel_rfl
  f129 := Tryz.func177.trans (congrArg some (by kernel_rfl))
  f171 := Tryz.func114.trans (congrArg some (by kernel_rfl))
  f243 := Tryz.func139.trans (congrArg some (by kernel_rfl))
  f246 := Tryz.func152.trans (congrArg some (by kernel_rfl))
  f283 := Tryz.func178.trans (congrArg some (by kernel_rfl))
  f284 := Tryz.func179.trans (congrArg some (by kernel_rfl))
  f285 := Tryz.func180.trans (congrArg some (by kernel_rfl))
  f286 := Tryz.func181.trans (congrArg some (by kernel_rfl))
  f317 := Tryz.func194.trans (congrArg some (by kernel_rfl))
  f318 := Tryz.func195.trans (congrArg some (by kernel_rfl))
  f319 := Tryz.func196.trans (congrArg some (by kernel_rfl))
  f320 := Tryz.func197.trans (congrArg some (by kernel_rfl))
  f337 := Tryz.func201.trans (congrArg some (by kernel_rfl))
  f338 := Tryz.func202.trans (congrArg some (by kernel_rfl))
  t0 := Tryz.underlying0
  a0 := Tryz.isAgg0
  z0 := Tryz.sizeOf0
  v0 := Tryz.zeroValue0
  t2 := Tryz.underlying2
  a2 := Tryz.isAgg2
  z2 := Tryz.sizeOf2
  v2 := Tryz.zeroValue2
  t3 := Tryz.underlying3
  a3 := Tryz.isAgg3
  z3 := Tryz.sizeOf3
  v3 := Tryz.zeroValue3
  t4 := Tryz.underlying4
  a4 := Tryz.isAgg4
  z4 := Tryz.sizeOf4
  v4 := Tryz.zeroValue4
  t5 := Tryz.underlying5
  a5 := Tryz.isAgg5
  z5 := Tryz.sizeOf5
  v5 := Tryz.zeroValue5
  t9 := Tryz.underlying9
  a9 := Tryz.isAgg9
  z9 := Tryz.sizeOf9
  v9 := Tryz.zeroValue9
  t20 := Tryz.underlying20
  a20 := Tryz.isAgg20
  z20 := Tryz.sizeOf20
  v20 := Tryz.zeroValue20
  t37 := Tryz.underlying85
  a37 := Tryz.isAgg85
  z37 := Tryz.sizeOf85
  v37 := Tryz.zeroValue85
  t46 := Tryz.underlying162
  a46 := Tryz.isAgg162
  z46 := Tryz.sizeOf162
  v46 := Tryz.zeroValue162
  t51 := Tryz.underlying181
  a51 := Tryz.isAgg181
  z51 := Tryz.sizeOf181
  v51 := Tryz.zeroValue181
  t53 := Tryz.underlying183
  a53 := Tryz.isAgg183
  z53 := Tryz.sizeOf183
  v53 := Tryz.zeroValue183
  t171 := Tryz.underlying184
  a171 := Tryz.isAgg184
  z171 := Tryz.sizeOf184
  v171 := Tryz.zeroValue184
  t173 := Tryz.underlying186
  a173 := Tryz.isAgg186
  z173 := Tryz.sizeOf186
  v173 := Tryz.zeroValue186
  t212 := Tryz.underlying208
  a212 := Tryz.isAgg208
  z212 := Tryz.sizeOf208
  v212 := Tryz.zeroValue208
  t213 := Tryz.underlying209
  a213 := Tryz.isAgg209
  z213 := Tryz.sizeOf209
  t232 := Tryz.underlying218
  a232 := Tryz.isAgg218
  z232 := Tryz.sizeOf218
  v232 := Tryz.zeroValue218
  t233 := Tryz.underlying219
  a233 := Tryz.isAgg219
  z233 := Tryz.sizeOf219
  v233 := Tryz.zeroValue219
  g17 := by kernel_rfl
  g18 := by kernel_rfl
  g19 := by kernel_rfl }
open Go.RowKit Go.Sort Go.Lib in
theorem sh_strconv_Itoa_small (i : Nat) (hi : i < 100) (w : World) :
    Calls Tryz.prog 114 #[.int .i64 i] w fun e w' => e = .returned (.string ⟨(Lib.decDigits i).toArray⟩) ∧ w' = w := Any.strconv_Itoa_small sh_lays171 i hi w
def sh_laysC172_ren : Go.Shelf.Ren := ⟨fun | 172 => 124 | 244 => 146 | 245 => 147 | 247 => 162 | 279 => 163 | 280 => 164 | 281 => 165 | 282 => 166 | 287 => 186 | 316 => 187 | 171 => 114 | 205 => 188 | 321 => 198 | 322 => 199 | 243 => 139 | 246 => 152 | 283 => 178 | 284 => 179 | 285 => 180 | 286 => 181 | 129 => 177 | 317 => 194 | 318 => 195 | 319 => 196 | 320 => 197 | 337 => 201 | 338 => 202 | n => n, fun | 9 => 9 | 3 => 3 | 75 => 89 | 76 => 90 | 4 => 4 | 5 => 5 | 167 => 166 | 37 => 85 | 0 => 0 | 85 => 167 | 2 => 2 | 168 => 169 | 53 => 183 | 175 => 196 | 46 => 162 | 210 => 200 | 127 => 133 | 145 => 214 | 143 => 212 | 21 => 21 | 171 => 184 | 173 => 186 | 212 => 208 | 51 => 181 | 20 => 20 | 213 => 209 | 232 => 218 | 233 => 219 | 80 => 94 | n => n, fun | 15 => 3 | 16 => 4 | 17 => 5 | 18 => 6 | 19 => 7 | n => n⟩
theorem sh_laysC172 : Go.Proofs.LaysC.n172 Tryz.prog sh_laysC172_ren := {
  mixed := by kernel_rfl
  f129 := Tryz.func177.trans (congrArg some (by kernel_rfl))
  f171 := Tryz.func114.trans (congrArg some (by kernel_rfl))
  f172 := Tryz.func124.trans (congrArg some (by kernel_rfl))
  f205 := Tryz.func188.trans (congrArg some (by kernel_rfl))
  f243 := Tryz.func139.trans (congrArg some (by kernel_rfl))
  f244 := Tryz.func146.trans (congrArg some (by kernel_rfl))
  f245 := Tryz.func147.trans (congrArg some (by kernel_rfl))
  f246 := Tryz.func152.trans (congrArg some (by kernel_rfl))
  f247 := Tryz.func162.trans (congrArg some (by kernel_rfl))
  f279 := Tryz.func163.trans (congrArg some (by kernel_rfl))
  f280 := Tryz.func164.trans (congrArg some (by kernel_rfl))
  f281 := Tryz.func165.trans (congrArg some (by kernel_rfl))
  f282 := Tryz.func166.trans (congrArg some (by kernel_rfl))
  f283 := Tryz.func178.trans (congrArg some (by kernel_rfl))
  f284 := Tryz.func179.trans (congrArg some (by kernel_rfl))
  f285 := Tryz.func180.trans (congrArg some (by kernel_rfl))
  f286 := Tryz.func181.trans (congrArg some (by kernel_rfl))
  f287 := Tryz.func186.trans (congrArg some (by kernel_rfl))
  f316 := Tryz.func187.trans (congrArg some (by kernel_rfl))
  f317 := Tryz.func194.trans (congrArg some (by kernel_rfl))
  f318 := Tryz.func195.trans (congrArg some (by kernel_rfl))
  f319 := Tryz.func196.trans (congrArg some (by kernel_rfl))
  f320 := Tryz.func197.trans (congrArg some (by kernel_rfl))
  f321 := Tryz.func198.trans (congrArg some (by kernel_rfl))
  f322 := Tryz.func199.trans (congrArg some (by kernel_rfl))
  f337 := Tryz.func201.trans (congrArg some (by kernel_rfl))
  f338 := Tryz.func202.trans (congrArg some (by kernel_rfl))
  t0 := Tryz.underlying0
  a0 := Tryz.isAgg0
  z0 := Tryz.sizeOf0
  v0 := Tryz.zeroValue0
  t2 := Tryz.underlying2
  a2 := Tryz.isAgg2
  z2 := Tryz.sizeOf2
  v2 := Tryz.zeroValue2
  t3 := Tryz.underlying3
  a3 := Tryz.isAgg3
  z3 := Tryz.sizeOf3
  v3 := Tryz.zeroValue3
  t4 := Tryz.underlying4
  a4 := Tryz.isAgg4
  z4 := Tryz.sizeOf4
  v4 := Tryz.zeroValue4
  t5 := Tryz.underlying5
  a5 := Tryz.isAgg5
  z5 := Tryz.sizeOf5
  v5 := Tryz.zeroValue5
  t9 := Tryz.underlying9
  a9 := Tryz.isAgg9
  z9 := Tryz.sizeOf9
  v9 := Tryz.zeroValue9
  t20 := Tryz.underlying20
  a20 := Tryz.isAgg20
  z20 := Tryz.sizeOf20
  v20 := Tryz.zeroValue20
  t21 := Tryz.underlying21
  a21 := Tryz.isAgg21
  z21 := Tryz.sizeOf21
  v21 := Tryz.zeroValue21
  t37 := Tryz.underlying85
  a37 := Tryz.isAgg85
  z37 := Tryz.sizeOf85
  v37 := Tryz.zeroValue85
  t46 := Tryz.underlying162
  a46 := Tryz.isAgg162
  z46 := Tryz.sizeOf162
  v46 := Tryz.zeroValue162
  t51 := Tryz.underlying181
  a51 := Tryz.isAgg181
  z51 := Tryz.sizeOf181
  v51 := Tryz.zeroValue181
  t53 := Tryz.underlying183
  a53 := Tryz.isAgg183
  z53 := Tryz.sizeOf183
  v53 := Tryz.zeroValue183
  t75 := Tryz.underlying89
  a75 := Tryz.isAgg89
  z75 := Tryz.sizeOf89
  v75 := Tryz.zeroValue89
  t76 := Tryz.underlying90
  a76 := Tryz.isAgg90
  z76 := Tryz.sizeOf90
  v76 := Tryz.zeroValue90
  t85 := Tryz.underlying167
  a85 := Tryz.isAgg167
  z85 := Tryz.sizeOf167
  v85 := Tryz.zeroValue167
  t127 := Tryz.underlying133
  a127 := Tryz.isAgg133
  z127 := Tryz.sizeOf133
  v127 := Tryz.zeroValue133
  t143 := Tryz.underlying212
  a143 := Tryz.isAgg212
  z143 := Tryz.sizeOf212
  v143 := Tryz.zeroValue212
  t145 := Tryz.underlying214
  a145 := Tryz.isAgg214
  z145 := Tryz.sizeOf214
  v145 := Tryz.zeroValue214
  t167 := Tryz.underlying166
  a167 := Tryz.isAgg166
  z167 := Tryz.sizeOf166
  v167 := Tryz.zeroValue166
  t168 := Tryz.underlying169
  a168 := Tryz.isAgg169
  z168 := Tryz.sizeOf169
  v168 := Tryz.zeroValue169
  t171 := Tryz.underlying184
  a171 := Tryz.isAgg184
  z171 := Tryz.sizeOf184
  v171 := Tryz.zeroValue184
  t173 := Tryz.underlying186
  a173 := Tryz.isAgg186
  z173 := Tryz.sizeOf186
  v173 := Tryz.zeroValue186
  t175 := Tryz.underlying196
  a175 := Tryz.isAgg196
  z175 := Tryz.sizeOf196
  v175 := Tryz.zeroValue196
  t210 := Tryz.underlying200
  a210 := Tryz.isAgg200
  z210 := Tryz.sizeOf200
  v210 := Tryz.zeroValue200
  t212 := Tryz.underlying208
  a212 := Tryz.isAgg208
  z212 := Tryz.sizeOf208
  v212 := Tryz.zeroValue208
  t213 := Tryz.underlying209
  a213 := Tryz.isAgg209
  z213 := Tryz.sizeOf209
  t232 := Tryz.underlying218
  a232 := Tryz.isAgg218
  z232 := Tryz.sizeOf218
  v232 := Tryz.zeroValue218
  t233 := Tryz.underlying219
  a233 := Tryz.isAgg219
  z233 := Tryz.sizeOf219
  v233 := Tryz.zeroValue219
  g15 := by kernel_rfl
  g16 := by kernel_rfl
  g17 := by kernel_rfl
  g18 := by kernel_rfl
  g19 := by kernel_rfl
  t80 := Tryz.underlying94
  a80 := Tryz.isAgg94
  z80 := Tryz.sizeOf94
  v80 := Tryz.zeroValue94
  i0 := by kernel_rfl
  i2 := by kernel_rfl
  i3 := by kernel_rfl
  i4 := by kernel_rfl
  i5 := by kernel_rfl
  i9 := by kernel_rfl
  i20 := by kernel_rfl
  i21 := by kernel_rfl
  i37 := by kernel_rfl
  i46 := by kernel_rfl
  i51 := by kernel_rfl
  i53 := by kernel_rfl
  i75 := by kernel_rfl
  i76 := by kernel_rfl
  i80 := by kernel_rfl
  i85 := by kernel_rfl
  i127 := by kernel_rfl
  i143 := by kernel_rfl
  i145 := by kernel_rfl
  i167 := by kernel_rfl
  i168 := by kernel_rfl
  i171 := by kernel_rfl
  i173 := by kernel_rfl
  i175 := by kernel_rfl
  i210 := by kernel_rfl
  i212 := by kernel_rfl
  i232 := by kernel_rfl
  i233 := by kernel_rfl
  m15 := by kernel_rfl
  m16 := by kernel_rfl
  m17 := by kernel_rfl
  m18 := by kernel_rfl
  m19 := by kernel_rfl
  c0 := by kernel_rfl
  c2 := by kernel_rfl
  c3 := by kernel_rfl
  c4 := by kernel_rfl
  c5 := by kernel_rfl
  c9 := by kernel_rfl
  c20 := by kernel_rfl
  c21 := by kernel_rfl
  c37 := by kernel_rfl
  c46 := by kernel_rfl
  c51 := by kernel_rfl
  c53 := by kernel_rfl
  c75 := by kernel_rfl
  c76 := by kernel_rfl
  c80 := by kernel_rfl
  c85 := by kernel_rfl
  c127 := by kernel_rfl
  c143 := by kernel_rfl
  c145 := by kernel_rfl
  c167 := by kernel_rfl
  c168 := by kernel_rfl
  c171 := by kernel_rfl
  c173 := by kernel_rfl
  c175 := by kernel_rfl
  c210 := by kernel_rfl
  c212 := by kernel_rfl
  c213 := by kernel_rfl
  c232 := by kernel_rfl
  c233 := by kernel_rfl }
open Go.RowKit in
theorem sh_strconv_Atoi_ok (s : ByteArray) (hmax : s.size ≤ 9223372036854775806) (v : Int) (h : Lib.atoiAll s.data.toList = .ok v) (w : World) :
    Calls Tryz.prog 124 #[.string s] w fun e w' => e = .returned (.tuple #[.int .i64 v, .nilIface]) ∧ (w' = w ∨ ∃ t, w' = Lib.bytesWorld w 5 t) := Any.strconv_Atoi_ok sh_laysC172 s hmax v h w
open Go.RowKit in
theorem sh_strconv_Atoi_syntax (s : ByteArray) (hlim : s.size ≤ 281474976710656) (h : Lib.atoiAll s.data.toList = Lib.NumEnd.syntax) (ev : Value) (w : World) (hv : w.cell? ⟨3, 0, none⟩ = some ev) (hev : ev = .nilIface ∨ ∃ te pe, ev = .iface te pe) :
    Calls Tryz.prog 124 #[.string s] w fun e w' => ∃ N, e = .returned (.tuple #[.int .i64 (0), .iface 169 (.pointer (some ⟨N, 0, none⟩))]) ∧ w.heap.size ≤ N ∧ w'.heap[N]? = some (.cells #[.string ⟨#[65, 116, 111, 105]⟩, .string s, ev] 200 (0, 0)) ∧ Below w.heap.size w w' := Any.strconv_Atoi_syntax sh_laysC172 s hlim h ev w hv hev
open Go.RowKit in
theorem sh_strconv_Atoi_range (s : ByteArray) (hlim : s.size ≤ 281474976710656) (h : Lib.atoiAll s.data.toList = .range) (ev : Value) (w : World) (hv : w.cell? ⟨4, 0, none⟩ = some ev) (hev : ev = .nilIface ∨ ∃ te pe, ev = .iface te pe) :
    Calls Tryz.prog 124 #[.string s] w fun e w' => ∃ N, e = .returned (.tuple #[.int .i64 (Lib.atoiSat s.data.toList), .iface 169 (.pointer (some ⟨N, 0, none⟩))]) ∧ w.heap.size ≤ N ∧ w'.heap[N]? = some (.cells #[.string ⟨#[65, 116, 111, 105]⟩, .string s, ev] 200 (0, 0)) ∧ Below w.heap.size w w' := Any.strconv_Atoi_range sh_laysC172 s hlim h ev w hv hev
def sh_lays145_ren : Go.Shelf.Ren := ⟨fun | 145 => 79 | 220 => 115 | 219 => 140 | 217 => 125 | 225 => 153 | 224 => 154 | 267 => 155 | 266 => 148 | 314 => 182 | n => n, fun | 9 => 9 | 4 => 4 | 59 => 97 | 3 => 3 | 5 => 5 | 46 => 162 | 146 => 188 | 51 => 181 | n => n, fun | 1 => 0 | n => n⟩
theorem sh_lays145 : Go.Proofs.Lays.n145 Tryz.prog sh_lays145_ren := {
  mixed := by kernel_rfl
  f145 := Tryz.func79.trans (congrArg some (by kernel_rfl))
  f217 := Tryz.func125.trans (congrArg some (by kernel_rfl))
  f219 := Tryz.func140.trans (congrArg some (by kernel_rfl))
  f220 := Tryz.func115.trans (congrArg some (by kernel_rfl))
  f224 := Tryz.func154.trans (congrArg some (by kernel_rfl))
  f225 := Tryz.func153.trans (congrArg some (by kernel_rfl))
  f266 := Tryz.func148.trans (congrArg some (by kernel_rfl))
  f267 := Tryz.func155.trans (congrArg some (by kernel_rfl))
  f314 := Tryz.func182.trans (congrArg some (by kernel_rfl))
  t3 := Tryz.underlying3
  a3 := Tryz.isAgg3
  z3 := Tryz.sizeOf3
  v3 := Tryz.zeroValue3
  t4 := Tryz.underlying4
  a4 := Tryz.isAgg4
  z4 := Tryz.sizeOf4
  v4 := Tryz.zeroValue4
  t5 := Tryz.underlying5
  a5 := Tryz.isAgg5
  z5 := Tryz.sizeOf5
  v5 := Tryz.zeroValue5
  t9 := Tryz.underlying9
  a9 := Tryz.isAgg9
  z9 := Tryz.sizeOf9
  v9 := Tryz.zeroValue9
  t46 := Tryz.underlying162
  a46 := Tryz.isAgg162
  z46 := Tryz.sizeOf162
  v46 := Tryz.zeroValue162
  t51 := Tryz.underlying181
  a51 := Tryz.isAgg181
  z51 := Tryz.sizeOf181
  v51 := Tryz.zeroValue181
  t59 := Tryz.underlying97
  a59 := Tryz.isAgg97
  z59 := Tryz.sizeOf97
  v59 := Tryz.zeroValue97
  t146 := Tryz.underlying188
  a146 := Tryz.isAgg188
  z146 := Tryz.sizeOf188
  v146 := Tryz.zeroValue188
  g1 := by kernel_rfl }
open Go.RowKit Go.Lib in
theorem sh_strings_Cut (s sep : ByteArray) (m : Int) (w : World) (hs : s.size < 4294967281) (hm : w.cell? ⟨0, 0, none⟩ = some (.int .i64 m)) :
    Calls Tryz.prog 79 #[.string s, .string sep] w fun e w' => e = .returned (.tuple #[.string ⟨(Lib.cut s.data.toList sep.data.toList).1.toArray⟩, .string ⟨(Lib.cut s.data.toList sep.data.toList).2.1.toArray⟩, .bool (Lib.cut s.data.toList sep.data.toList).2.2]) ∧ ∃ n, w' = w.drewN n := Any.strings_Cut sh_lays145 s sep m w hs hm
def sh_lays146_ren : Go.Shelf.Ren := ⟨fun | 146 => 123 | 221 => 145 | 268 => 159 | 138 => 160 | 143 => 161 | 195 => 184 | 197 => 142 | 218 => 185 | 219 => 140 | 260 => 156 | 217 => 125 | 225 => 153 | 224 => 154 | 267 => 155 | 266 => 148 | 314 => 182 | n => n, fun | 9 => 9 | 31 => 103 | 3 => 3 | 4 => 4 | 0 => 0 | 105 => 155 | 21 => 21 | 5 => 5 | 46 => 162 | 119 => 190 | 139 => 193 | 138 => 192 | 146 => 188 | 51 => 181 | n => n, fun | 1 => 0 | 3 => 1 | 4 => 2 | n => n⟩
theorem sh_lays146 : Go.Proofs.Lays.n146 Tryz.prog sh_lays146_ren := {
  mixed := by kernel_rfl
  f138 := Tryz.func160.trans (congrArg some (by kernel_rfl))
  f143 := Tryz.func161.trans (congrArg some (by kernel_rfl))
  f146 := Tryz.func123.trans (congrArg some (by kernel_rfl))
  f195 := Tryz.func184.trans (congrArg some (by kernel_rfl))
  f197 := Tryz.func142.trans (congrArg some (by kernel_rfl))
  f217 := Tryz.func125.trans (congrArg some (by kernel_rfl))
  f218 := Tryz.func185.trans (congrArg some (by kernel_rfl))
  f219 := Tryz.func140.trans (congrArg some (by kernel_rfl))
  f221 := Tryz.func145.trans (congrArg some (by kernel_rfl))
  f224 := Tryz.func154.trans (congrArg some (by kernel_rfl))
  f225 := Tryz.func153.trans (congrArg some (by kernel_rfl))
  f260 := Tryz.func156.trans (congrArg some (by kernel_rfl))
  f266 := Tryz.func148.trans (congrArg some (by kernel_rfl))
  f267 := Tryz.func155.trans (congrArg some (by kernel_rfl))
  f268 := Tryz.func159.trans (congrArg some (by kernel_rfl))
  f314 := Tryz.func182.trans (congrArg some (by kernel_rfl))
  t0 := Tryz.underlying0
  a0 := Tryz.isAgg0
  z0 := Tryz.sizeOf0
  v0 := Tryz.zeroValue0
  t3 := Tryz.underlying3
  a3 := Tryz.isAgg3
  z3 := Tryz.sizeOf3
  v3 := Tryz.zeroValue3
  t4 := Tryz.underlying4
  a4 := Tryz.isAgg4
  z4 := Tryz.sizeOf4
  v4 := Tryz.zeroValue4
  t5 := Tryz.underlying5
  a5 := Tryz.isAgg5
  z5 := Tryz.sizeOf5
  v5 := Tryz.zeroValue5
  t9 := Tryz.underlying9
  a9 := Tryz.isAgg9
  z9 := Tryz.sizeOf9
  v9 := Tryz.zeroValue9
  t21 := Tryz.underlying21
  a21 := Tryz.isAgg21
  z21 := Tryz.sizeOf21
  v21 := Tryz.zeroValue21
  t31 := Tryz.underlying103
  a31 := Tryz.isAgg103
  z31 := Tryz.sizeOf103
  v31 := Tryz.zeroValue103
  t46 := Tryz.underlying162
  a46 := Tryz.isAgg162
  z46 := Tryz.sizeOf162
  v46 := Tryz.zeroValue162
  t51 := Tryz.underlying181
  a51 := Tryz.isAgg181
  z51 := Tryz.sizeOf181
  v51 := Tryz.zeroValue181
  t105 := Tryz.underlying155
  a105 := Tryz.isAgg155
  z105 := Tryz.sizeOf155
  v105 := Tryz.zeroValue155
  t119 := Tryz.underlying190
  a119 := Tryz.isAgg190
  z119 := Tryz.sizeOf190
  t138 := Tryz.underlying192
  a138 := Tryz.isAgg192
  z138 := Tryz.sizeOf192
  v138 := Tryz.zeroValue192
  t139 := Tryz.underlying193
  a139 := Tryz.isAgg193
  z139 := Tryz.sizeOf193
  v139 := Tryz.zeroValue193
  t146 := Tryz.underlying188
  a146 := Tryz.isAgg188
  z146 := Tryz.sizeOf188
  v146 := Tryz.zeroValue188
  g1 := by kernel_rfl
  g3 := by kernel_rfl
  g4 := by kernel_rfl }
open Go.RowKit Go.Lib in
theorem sh_strings_Split (s sep : ByteArray) (m : Int) (w : World) (hs : s.size < 4294967281) (hm : w.cell? ⟨0, 0, none⟩ = some (.int .i64 m)) (h1 : 1 ≤ sep.size) :
    Calls Tryz.prog 123 #[.string s, .string sep] w fun e w' =>
      e = .returned (.slice (some ⟨w.heap.size, 0, none⟩) (Lib.countB s sep + 1) (Lib.countB s sep + 1)) ∧ w' = w.alloc (.cells ((Lib.splitB sep 0 (Lib.countB s sep) s).map Value.string).toArray 9) := Any.strings_Split sh_lays146 (by kernel_rfl) s sep m w hs hm h1
end Go.Proofs.YtimmadkbkimonaaGreatDoor
namespace Go.Proofs.YtimmadkbkimonaaGreatDoor
set_option linter.unusedSimpArgs false
set_option linter.unusedVariables false
open Go.RowKit

def itoaB (n : Nat) : List UInt8 := if n < 10 then [UInt8.ofNat (48 + n)] else [UInt8.ofNat (48 + n / 10), UInt8.ofNat (48 + n % 10)]
def faceB : List UInt8 := [102, 97, 99, 101]
def headB (f : FaceV) : List UInt8 := faceB ++ 32 :: (itoaB f.eye.toNat ++ 32 :: (itoaB f.rings.toNat ++ 32 :: itoaB f.sectors.toNat))
def headF (f : FaceV) : Bool := inB f.eye 1 16 && (inB f.rings 1 24 && inB f.sectors 2 96)
theorem headF_iff {f : FaceV} : headF f = true ↔ (1 ≤ f.eye ∧ f.eye ≤ 16) ∧ (1 ≤ f.rings ∧ f.rings ≤ 24) ∧ 2 ≤ f.sectors ∧ f.sectors ≤ 96 := by
  unfold headF
  rw [Bool.and_eq_true, Bool.and_eq_true, inB_true, inB_true, inB_true]
end Go.Proofs.YtimmadkbkimonaaGreatDoor
namespace Go.Proofs.YtimmadkbkimonaaGreatDoor
set_option linter.unusedSimpArgs false
set_option linter.unusedVariables false
open Go.RowKit

theorem dig_all : (List.range 100).all (fun n => Lib.decDigits n == itoaB n) = true := by decide +kernel
theorem dig_itoa {n : Nat} (h : n < 100) : Lib.decDigits n = itoaB n := by
  have := List.all_eq_true.1 dig_all n (List.mem_range.2 h)
  simpa using this
def headS (f : FaceV) : ByteArray := ⟨(headB f).toArray⟩
theorem bytes_ext {a b : ByteArray} (h : a.data.toList = b.data.toList) : a = b := by
  obtain ⟨⟨x⟩⟩ := a
  obtain ⟨⟨y⟩⟩ := b
  simp only at h
  subst h
  rfl
theorem headS_eq {f : FaceV} (h : headF f = true) : (((((⟨#[102, 97, 99, 101, 32]⟩ : ByteArray) ++ ⟨(Lib.decDigits f.eye.toNat).toArray⟩) ++ ⟨#[32]⟩) ++ ⟨(Lib.decDigits f.rings.toNat).toArray⟩) ++ ⟨#[32]⟩) ++ ⟨(Lib.decDigits f.sectors.toNat).toArray⟩ = headS f := by
  have hh := headF_iff.1 h
  rw [dig_itoa (n := f.eye.toNat) (by omega), dig_itoa (n := f.rings.toNat) (by omega), dig_itoa (n := f.sectors.toNat) (by omega)]
  apply bytes_ext
  unfold headS headB
  simp [faceB]
theorem sz1 : (⟨#[32]⟩ : ByteArray).size = 1 := rfl
theorem sz5 : (⟨#[102, 97, 99, 101, 32]⟩ : ByteArray).size = 5 := rfl
set_option maxHeartbeats 4000000 in
set_option maxRecDepth 100000 in
theorem header_any (f : FaceV) (a : Option Addr) (n : Nat) (w : World) (hv : headF f = true) : Calls Tryz.prog 74 #[.agg (f.cells a n)] w fun e w' => e = .returned (.string (headS f)) ∧ Below w.heap.size w w' := by
  have DL : Hid ((Lib.decDigits f.eye.toNat).length ≤ 2 ∧ (Lib.decDigits f.rings.toNat).length ≤ 2 ∧ (Lib.decDigits f.sectors.toNat).length ≤ 2) := Lib.hid (by
    have hh := headF_iff.1 hv
    rw [dig_itoa (n := f.eye.toNat) (by omega), dig_itoa (n := f.rings.toNat) (by omega), dig_itoa (n := f.sectors.toNat) (by omega)]
    have h : ∀ n, (itoaB n).length ≤ 2 := fun n => by unfold itoaB; split <;> simp
    exact ⟨h _, h _, h _⟩)
  have HH := Lib.hid (headF_iff.1 hv)
  have EQ := Lib.hid (headS_eq hv)
  have IE := Lib.hid (fun W => sh_strconv_Itoa_small f.eye.toNat (by have := HH.out; omega) W)
  have IR := Lib.hid (fun W => sh_strconv_Itoa_small f.rings.toNat (by have := HH.out; omega) W)
  have IS := Lib.hid (fun W => sh_strconv_Itoa_small f.sectors.toNat (by have := HH.out; omega) W)
  rw [Int.toNat_of_nonneg (by have := HH.out; omega)] at IE IR IS
  clear hv
  obtain ⟨x1, hx1⟩ : ∃ x, Hid ((⟨(Lib.decDigits f.eye.toNat).toArray⟩ : ByteArray) = x) := ⟨_, Lib.hid rfl⟩
  obtain ⟨x2, hx2⟩ : ∃ x, Hid ((⟨(Lib.decDigits f.rings.toNat).toArray⟩ : ByteArray) = x) := ⟨_, Lib.hid rfl⟩
  obtain ⟨x3, hx3⟩ : ∃ x, Hid ((⟨(Lib.decDigits f.sectors.toNat).toArray⟩ : ByteArray) = x) := ⟨_, Lib.hid rfl⟩
  have L1 : Hid (x1.size ≤ 2) := Lib.hid (by rw [← hx1.out]; exact DL.out.1)
  have L2 : Hid (x2.size ≤ 2) := Lib.hid (by rw [← hx2.out]; exact DL.out.2.1)
  have L3 : Hid (x3.size ≤ 2) := Lib.hid (by rw [← hx3.out]; exact DL.out.2.2)
  rw [hx1.out] at EQ IE
  rw [hx2.out] at EQ IR
  rw [hx3.out] at EQ IS
  clear hx1 hx2 hx3 DL
  obtain ⟨s1, hs1⟩ : ∃ x, Hid ((⟨#[102, 97, 99, 101, 32]⟩ : ByteArray) ++ x1 = x) := ⟨_, Lib.hid rfl⟩
  obtain ⟨s2, hs2⟩ : ∃ x, Hid (s1 ++ (⟨#[32]⟩ : ByteArray) = x) := ⟨_, Lib.hid rfl⟩
  obtain ⟨s3, hs3⟩ : ∃ x, Hid (s2 ++ x2 = x) := ⟨_, Lib.hid rfl⟩
  obtain ⟨s4, hs4⟩ : ∃ x, Hid (s3 ++ (⟨#[32]⟩ : ByteArray) = x) := ⟨_, Lib.hid rfl⟩
  obtain ⟨s5, hs5⟩ : ∃ x, Hid (s4 ++ x3 = x) := ⟨_, Lib.hid rfl⟩
  rw [hs1.out, hs2.out, hs3.out, hs4.out, hs5.out] at EQ
  have M1 : Hid (s1.size ≤ 10) := Lib.hid (by have := L1.out; rw [← hs1.out, ByteArray.size_append]; show 5 + _ ≤ _; omega)
  have M2 : Hid (s2.size ≤ 12) := Lib.hid (by have := M1.out; rw [← hs2.out, ByteArray.size_append]; show _ + 1 ≤ _; omega)
  have M3 : Hid (s3.size ≤ 20) := Lib.hid (by have := M2.out; have := L2.out; rw [← hs3.out, ByteArray.size_append]; omega)
  have M4 : Hid (s4.size ≤ 22) := Lib.hid (by have := M3.out; rw [← hs4.out, ByteArray.size_append]; show _ + 1 ≤ _; omega)
  have AL := Lib.hid (al1 w (.cells (f.cells a n) 28))
  go_enter Tryz.func74, Tryz.ntmps74
  go_upto_region 1 with fail
  obtain ⟨p, hp⟩ : ∃ p, Hid (w.heap.size = p) := ⟨_, Lib.hid rfl⟩
  rw [hp.out] at AL ⊢
  generalize (w.alloc (.cells (f.cells a n) 28)) = W0 at *
  have BF : Hid (Below w.heap.size w W0) := Lib.hid (by rw [hp.out]; exact AL.out.1)
  have XF : Hid (W0.heap[p]? = some (.cells (f.cells a n) 28 (0, 0))) := Lib.hid AL.out.2
  clear AL
  have c0 := qcell XF.out 0 (.int .i64 f.eye) rfl
  have c1 := qcell XF.out 1 (.int .i64 f.rings) rfl
  have c2 := qcell XF.out 2 (.int .i64 f.sectors) rfl
  have c3 := qcell XF.out 3 (.slice a f.kinds.length n) rfl
  clear c0 c1 c2 c3
  have hd : Below W0.heap.size W0 W0.drew := (Below.refl _ _).drew
  replace BF := Lib.hid (BF.out.drew)
  replace XF := Lib.hid (qblk hd XF.out)
  refine zD (fun W => Below w.heap.size w W ∧ W.heap[p]? = some (.cells (f.cells a n) 28 (0, 0))) ⟨BF.out, XF.out⟩ (fun hHeld => ?_)
  clear hd
  generalize W0.drew = V0 at *
  refine zW 0 rfl (.pointer (some ⟨p, 0, none⟩)) ?_
  refine zS 1 rfl (.int .i64 f.eye) (fun W hW => by have c := qcell hW.2 0 (.int .i64 f.eye) rfl; go_simp) ?_
  refine zW 5 rfl (.pointer (some ⟨p, 1, none⟩)) ?_
  refine zS 6 rfl (.int .i64 f.rings) (fun W hW => by have c := qcell hW.2 1 (.int .i64 f.rings) rfl; go_simp) ?_
  refine zW 10 rfl (.pointer (some ⟨p, 2, none⟩)) ?_
  refine zS 11 rfl (.int .i64 f.sectors) (fun W hW => by have c := qcell hW.2 2 (.int .i64 f.sectors) rfl; go_simp) ?_
  refine zR 2 rfl (fun K hK => ?_)
  go_simp
  refine (IE.out _).mono ?_
  rintro e V1 ⟨rfl, rfl⟩
  dsimp only
  refine zK hK ⟨BF.out, XF.out⟩ (fun hHeld => ?_)
  clear hK K
  refine zW 3 rfl (.string s1) (hy := .inl ⟨by kernel_rfl, by intro W _; have e := hs1.out; go_simp; have l1 := L1.out; have l2 := L1.out; (try simp only [sz1, sz5]); omega⟩) ?_
  refine zW 4 rfl (.string s2) (hy := .inl ⟨by kernel_rfl, by intro W _; have e := hs2.out; go_simp; have l1 := M1.out; have l2 := M1.out; (try simp only [sz1, sz5]); omega⟩) ?_
  refine zR 7 rfl (fun K hK => ?_)
  go_simp
  refine (IR.out _).mono ?_
  rintro e V1 ⟨rfl, rfl⟩
  dsimp only
  refine zK hK ⟨BF.out, XF.out⟩ (fun hHeld => ?_)
  clear hK K
  refine zW 8 rfl (.string s3) (hy := .inl ⟨by kernel_rfl, by intro W _; have e := hs3.out; go_simp; have l1 := M2.out; have l2 := L2.out; (try simp only [sz1, sz5]); omega⟩) ?_
  refine zW 9 rfl (.string s4) (hy := .inl ⟨by kernel_rfl, by intro W _; have e := hs4.out; go_simp; have l1 := M3.out; have l2 := M3.out; (try simp only [sz1, sz5]); omega⟩) ?_
  refine zR 12 rfl (fun K hK => ?_)
  go_simp
  refine (IS.out _).mono ?_
  rintro e V1 ⟨rfl, rfl⟩
  dsimp only
  refine zK hK ⟨BF.out, XF.out⟩ (fun hHeld => ?_)
  clear hK K
  refine zW 13 rfl (.string s5) (hy := .inl ⟨by kernel_rfl, by intro W _; have e := hs5.out; go_simp; have l1 := M4.out; have l2 := L3.out; (try simp only [sz1, sz5]); omega⟩) ?_
  refine zW 14 rfl (.string s5) ?_
  refine zE ?_
  go_wp2_with fail
  go_ret
  exact ⟨by rw [← EQ.out]; rfl, BF.out⟩
end Go.Proofs.YtimmadkbkimonaaGreatDoor
namespace Go.Proofs.YtimmadkbkimonaaGreatDoor
set_option linter.unusedSimpArgs false
set_option linter.unusedVariables false
open Go.RowKit

def EnvW (W : World) : Prop := (∃ m, W.cell? ⟨0, 0, none⟩ = some (.int .i64 m)) ∧ (∃ ev, W.cell? ⟨3, 0, none⟩ = some ev ∧ (ev = .nilIface ∨ ∃ te pe, ev = .iface te pe)) ∧ ∃ ev, W.cell? ⟨4, 0, none⟩ = some ev ∧ (ev = .nilIface ∨ ∃ te pe, ev = .iface te pe)
theorem EnvW.below {W W' : World} (h : EnvW W) (hb : Below W.heap.size W W') : EnvW W' := by
  obtain ⟨⟨m, h1⟩, ⟨e1, h2, h3⟩, ⟨e2, h4, h5⟩⟩ := h
  exact ⟨⟨m, (hb.cell (p := ⟨0, 0, none⟩) (World.block_lt_of_cell? W _ h1)).trans h1⟩, ⟨e1, (hb.cell (p := ⟨3, 0, none⟩) (World.block_lt_of_cell? W _ h2)).trans h2, h3⟩, ⟨e2, (hb.cell (p := ⟨4, 0, none⟩) (World.block_lt_of_cell? W _ h4)).trans h4, h5⟩⟩
def atoiV (l : List UInt8) : Int := match Lib.atoiAll l with
  | Lib.NumEnd.ok v => v
  | Lib.NumEnd.syntax => 0
  | Lib.NumEnd.range => Lib.atoiSat l
theorem atoi_any (s : ByteArray) (w : World) (hs : s.size ≤ 1000000) (he : EnvW w) : Calls Tryz.prog 124 #[.string s] w fun e w' => (∃ ev, e = .returned (.tuple #[.int .i64 (atoiV s.data.toList), ev])) ∧ Below w.heap.size w w' := by
  obtain ⟨_, ⟨e1, h2, h3⟩, ⟨e2, h4, h5⟩⟩ := he
  unfold atoiV
  match h : Lib.atoiAll s.data.toList with
  | Lib.NumEnd.ok v =>
    refine (sh_strconv_Atoi_ok s (by omega) v h w).mono ?_
    rintro e W ⟨rfl, hw⟩
    refine ⟨⟨_, rfl⟩, ?_⟩
    rcases hw with rfl | ⟨t, rfl⟩
    · exact Below.refl _ _
    · exact Lib.bytesWorld_below _ _ _
  | Lib.NumEnd.syntax =>
    refine (sh_strconv_Atoi_syntax s (by omega) h e1 w h2 h3).mono ?_
    rintro e W ⟨N, rfl, _, _, hb⟩
    exact ⟨⟨_, rfl⟩, hb⟩
  | Lib.NumEnd.range =>
    refine (sh_strconv_Atoi_range s (by omega) h e2 w h4 h5).mono ?_
    rintro e W ⟨N, rfl, _, _, hb⟩
    exact ⟨⟨_, rfl⟩, hb⟩
def wordsS (s : ByteArray) : List ByteArray := Lib.splitB ⟨#[32]⟩ 0 (Lib.countB s ⟨#[32]⟩) s
theorem wordsS_len (s : ByteArray) : (wordsS s).length = Lib.countB s ⟨#[32]⟩ + 1 := Lib.splitB_all ⟨#[32]⟩ (by decide) 0 _ s rfl
theorem splitB_size (sep : ByteArray) : ∀ (k : Nat) (s x : ByteArray), x ∈ Lib.splitB sep 0 k s → x.size ≤ s.size
  | 0, s, x, h => by
    have := List.mem_singleton.1 h
    subst this; exact Nat.le_refl _
  | k + 1, s, x, h => by
    unfold Lib.splitB at h
    split at h
    · have := List.mem_singleton.1 h
      subst this; exact Nat.le_refl _
    · rcases List.mem_cons.1 h with h | h
      · subst h
        rw [ByteArray.size_extract]; omega
      · have := splitB_size sep k _ x h
        rw [ByteArray.size_extract] at this; omega
theorem wordsS_size (s x : ByteArray) (h : x ∈ wordsS s) : x.size ≤ s.size := splitB_size _ _ s x h
def hdrF (s : ByteArray) : FaceV × Bool := match wordsS s with
  | [_, a, b, c] => (⟨atoiV a.data.toList, atoiV b.data.toList, atoiV c.data.toList, []⟩, headF ⟨atoiV a.data.toList, atoiV b.data.toList, atoiV c.data.toList, []⟩ && headS ⟨atoiV a.data.toList, atoiV b.data.toList, atoiV c.data.toList, []⟩ == s)
  | _ => (zeroF, false)
def hdrC (a b c : Int) (k : Nat) : Array Value := #[.int .i64 (if 0 < k then a else 0), .int .i64 (if 1 < k then b else 0), .int .i64 (if 2 < k then c else 0), .slice none 0 0]
theorem hdrF_four {s w0 a b c : ByteArray} (h : wordsS s = [w0, a, b, c]) : hdrF s = (⟨atoiV a.data.toList, atoiV b.data.toList, atoiV c.data.toList, []⟩, headF ⟨atoiV a.data.toList, atoiV b.data.toList, atoiV c.data.toList, []⟩ && headS ⟨atoiV a.data.toList, atoiV b.data.toList, atoiV c.data.toList, []⟩ == s) := by
  unfold hdrF
  rw [h]
theorem hdrF_not {s : ByteArray} (h : (wordsS s).length ≠ 4) : hdrF s = (zeroF, false) := by
  unfold hdrF
  split
  · rename_i h1; rw [h1] at h; exact absurd rfl h
  · rfl
set_option maxHeartbeats 4000000 in
set_option maxRecDepth 100000 in
theorem parseHeader_any (s : ByteArray) (w : World) (hs : s.size ≤ 100000) (he : EnvW w) : Calls Tryz.prog 81 #[.string s] w fun e w' => e = .returned (.tuple #[.agg ((hdrF s).1.cells none 0), .bool (hdrF s).2]) ∧ Below w.heap.size w w' := by
  have EV := Lib.hid (fun W (hb : Below w.heap.size w W) => he.below hb)
  have HS := Lib.hid hs
  clear he hs
  have AL := Lib.hid (al2 w (.cells #[.int .i64 0, .int .i64 0, .int .i64 0, .slice none 0 0] 28) (.cells #[.int .i64 0, .int .i64 0, .int .i64 0, .slice none 0 0] 28))
  go_enter Tryz.func81, Tryz.ntmps81
  go_upto_region 2 with fail
  obtain ⟨z, hz⟩ : ∃ z, Hid (w.heap.size = z) := ⟨_, Lib.hid rfl⟩
  obtain ⟨p, hp⟩ : ∃ p, Hid (w.heap.size + 1 = p) := ⟨_, Lib.hid rfl⟩
  rw [hp.out] at AL ⊢
  rw [hz.out] at AL ⊢
  generalize ((w.alloc (.cells #[.int .i64 0, .int .i64 0, .int .i64 0, .slice none 0 0] 28)).alloc (.cells #[.int .i64 0, .int .i64 0, .int .i64 0, .slice none 0 0] 28)) = W0 at *
  have BF : Hid (Below w.heap.size w W0) := Lib.hid (by rw [hz.out]; exact AL.out.1)
  have XZ : Hid (W0.heap[z]? = some (.cells (zeroF.cells none 0) 28 (0, 0))) := Lib.hid AL.out.2.1
  have XP : Hid (W0.heap[p]? = some (.cells (zeroF.cells none 0) 28 (0, 0))) := Lib.hid AL.out.2.2
  clear AL
  go_wp2_with fail
  obtain ⟨m, hm⟩ := (EV.out W0 BF.out).1
  refine (sh_strings_Split s ⟨#[32]⟩ m W0 (by have := HS.out; omega) hm (by decide)).mono ?_
  rintro e V1 ⟨rfl, hV1⟩
  have eW : Lib.splitB ⟨#[32]⟩ 0 (Lib.countB s ⟨#[32]⟩) s = wordsS s := rfl
  rw [eW] at hV1
  clear eW hm
  have AL := al1 W0 (.cells ((wordsS s).map Value.string).toArray 9)
  rw [← hV1] at AL
  obtain ⟨g, hg⟩ : ∃ x, Hid (W0.heap.size = x) := ⟨_, Lib.hid rfl⟩
  have NG : Hid (z ≠ p ∧ g ≠ p ∧ w.heap.size ≤ p ∧ w.heap.size ≤ z) := Lib.hid (by have h1 := hz.out; have h2 := hp.out; have h3 := qlt XP.out; have h4 := hg.out; omega)
  replace BF := Lib.hid (BF.out.trans (AL.1.mono BF.out.size))
  replace XZ := Lib.hid (qblk AL.1 XZ.out)
  replace XP := Lib.hid (qblk AL.1 XP.out)
  have XG := Lib.hid AL.2
  rw [hg.out] at XG ⊢
  clear AL hV1
  obtain ⟨L, hL⟩ : ∃ L, Hid ((Lib.countB s ⟨#[32]⟩ + 1) = L) := ⟨_, Lib.hid rfl⟩
  have WL := Lib.hid (wordsS_len s)
  rw [hL.out] at WL ⊢
  by_cases h4 : L = 4
  · subst h4
    obtain ⟨w0, a1, a2, a3, hw⟩ : ∃ w0 a1 a2 a3, wordsS s = [w0, a1, a2, a3] := by
      have h := WL.out
      match wordsS s, h with
      | [w0, a1, a2, a3], _ => exact ⟨w0, a1, a2, a3, rfl⟩
    have HD := Lib.hid (hdrF_four hw)
    have S1 := Lib.hid (wordsS_size s a1 (by rw [hw]; simp))
    have S2 := Lib.hid (wordsS_size s a2 (by rw [hw]; simp))
    have S3 := Lib.hid (wordsS_size s a3 (by rw [hw]; simp))
    rw [hw] at XG
    have XW : Hid (V1.heap[g]? = some (.cells #[.string w0, .string a1, .string a2, .string a3] 9 (0, 0))) := Lib.hid XG.out
    clear XG hw WL hL
    obtain ⟨v1, hv1⟩ : ∃ v, Hid (atoiV a1.data.toList = v) := ⟨_, Lib.hid rfl⟩
    obtain ⟨v2, hv2⟩ : ∃ v, Hid (atoiV a2.data.toList = v) := ⟨_, Lib.hid rfl⟩
    obtain ⟨v3, hv3⟩ : ∃ v, Hid (atoiV a3.data.toList = v) := ⟨_, Lib.hid rfl⟩
    rw [hv1.out, hv2.out, hv3.out] at HD
    go_upto_region 5 with fail
    refine yB ?_
    refine yW (.pointer (some ⟨p, 0, none⟩)) ?_
    refine yW (.pointer (some ⟨p, 1, none⟩)) ?_
    refine yW (.pointer (some ⟨p, 2, none⟩)) ?_
    refine yR (fun K hK => ?_)
    refine qbuild (w' := V1.alloc (.cells #[.pointer (some ⟨p, 0, none⟩), .pointer (some ⟨p, 1, none⟩), .pointer (some ⟨p, 2, none⟩)] 142)) (.slice (some ⟨V1.heap.size, 0, none⟩) 3 3) (by kernel_rfl) ?_
    have AL := al1 V1 (.cells #[.pointer (some ⟨p, 0, none⟩), .pointer (some ⟨p, 1, none⟩), .pointer (some ⟨p, 2, none⟩)] 142)
    have hd := AL.1
    obtain ⟨R, hR⟩ : ∃ x, Hid (V1.heap.size = x) := ⟨_, Lib.hid rfl⟩
    have NR : Hid (R ≠ p) := Lib.hid (by have h1 := qlt XP.out; have h2 := hR.out; omega)
    replace BF := Lib.hid (BF.out.trans (hd.mono BF.out.size))
    replace XZ := Lib.hid (qblk hd XZ.out)
    replace XP := Lib.hid (qblk hd XP.out)
    replace XW := Lib.hid (qblk hd XW.out)
    have XR := Lib.hid AL.2
    rw [hR.out] at XR ⊢
    clear AL hd
    generalize V1.alloc (.cells #[.pointer (some ⟨p, 0, none⟩), .pointer (some ⟨p, 1, none⟩), .pointer (some ⟨p, 2, none⟩)] 142) = V2 at *
    refine yK hK ?_
    clear hK K
    refine yW (.int .i64 3) ?_
    refine yM (.int .i64 0) ?_
    refine yE ?_
    go_wp2_with fail
    go_loopw [20] (fun v wr => ∃ k : Nat, v = .int .i64 (k : Int) ∧ k ≤ 3 ∧ Hid (Below w.heap.size w wr) ∧ Hid (wr.heap[z]? = some (.cells (zeroF.cells none 0) 28 (0, 0))) ∧ Hid (wr.heap[p]? = some (.cells (hdrC v1 v2 v3 k) 28 (0, 0))) ∧ Hid (wr.heap[g]? = some (.cells #[.string w0, .string a1, .string a2, .string a3] 9 (0, 0))) ∧ Hid (wr.heap[R]? = some (.cells #[.pointer (some ⟨p, 0, none⟩), .pointer (some ⟨p, 1, none⟩), .pointer (some ⟨p, 2, none⟩)] 142 (0, 0)))) (fun v _ => 3 - (intOf v).toNat)
    case atStart => exact ⟨0, rfl, by omega, BF, XZ, XP, XW, XR⟩
    case round =>
      clear BF XZ XP XW XR
      obtain ⟨k, rfl, hk, BF, XZ, XP, XW, XR⟩ := hrel
      rcases (show k = 0 ∨ k = 1 ∨ k = 2 ∨ k = 3 by omega) with rfl | rfl | rfl | rfl
      · have cr := qcell XR.out 0 (.pointer (some ⟨p, 0, none⟩)) rfl
        have cw := qcell XW.out 1 (.string a1) rfl
        go_upto_region 8 with fail
        go_wp2_with fail
        refine (atoi_any a1 _ (by have := S1.out; have := HS.out; omega) (EV.out _ BF.out)).mono ?_
        rintro e X1 ⟨⟨ev, rfl⟩, b⟩
        clear cr cw
        replace BF := Lib.hid (BF.out.trans (b.mono BF.out.size))
        replace XZ := Lib.hid (qblk b XZ.out)
        replace XP := Lib.hid (qblk b XP.out)
        replace XW := Lib.hid (qblk b XW.out)
        replace XR := Lib.hid (qblk b XR.out)
        clear b
        rw [hv1.out]
        have cp := qcell XP.out 0 (.int .i64 0) rfl
        have fz := qfroz XP.out 0
        go_upto_region 9 with fail
        clear cp fz
        have HG := qput_grown X1 p 0 (.int .i64 v1)
        replace BF := Lib.hid (qstep BF.out HG NG.out.2.2.1)
        have XP2 : Hid ((X1.setCell ⟨p, 0, none⟩ (.int .i64 v1)).heap[p]? = some (.cells (hdrC v1 v2 v3 1) 28 (0, 0))) := Lib.hid (by rw [qput_at XP.out 0 _]; rfl)
        replace XZ := Lib.hid (qgrown HG XZ.out (fun e => NG.out.1 (Option.some.inj e)))
        replace XW := Lib.hid (qgrown HG XW.out (fun e => NG.out.2.1 (Option.some.inj e)))
        replace XR := Lib.hid (qgrown HG XR.out (fun e => NR.out (Option.some.inj e)))
        clear HG XP
        generalize X1.setCell ⟨p, 0, none⟩ (.int .i64 v1) = X2 at *
        go_wp2_with fail
        go_roundw
        case rel => exact ⟨1, rfl, by omega, BF, XZ, XP2, XW, XR⟩
        case measure => simp [intOf]
      · have cr := qcell XR.out 1 (.pointer (some ⟨p, 1, none⟩)) rfl
        have cw := qcell XW.out 2 (.string a2) rfl
        go_upto_region 8 with fail
        go_wp2_with fail
        refine (atoi_any a2 _ (by have := S2.out; have := HS.out; omega) (EV.out _ BF.out)).mono ?_
        rintro e X1 ⟨⟨ev, rfl⟩, b⟩
        clear cr cw
        replace BF := Lib.hid (BF.out.trans (b.mono BF.out.size))
        replace XZ := Lib.hid (qblk b XZ.out)
        replace XP := Lib.hid (qblk b XP.out)
        replace XW := Lib.hid (qblk b XW.out)
        replace XR := Lib.hid (qblk b XR.out)
        clear b
        rw [hv2.out]
        have cp := qcell XP.out 1 (.int .i64 0) rfl
        have fz := qfroz XP.out 1
        go_upto_region 9 with fail
        clear cp fz
        have HG := qput_grown X1 p 1 (.int .i64 v2)
        replace BF := Lib.hid (qstep BF.out HG NG.out.2.2.1)
        have XP2 : Hid ((X1.setCell ⟨p, 1, none⟩ (.int .i64 v2)).heap[p]? = some (.cells (hdrC v1 v2 v3 2) 28 (0, 0))) := Lib.hid (by rw [qput_at XP.out 1 _]; rfl)
        replace XZ := Lib.hid (qgrown HG XZ.out (fun e => NG.out.1 (Option.some.inj e)))
        replace XW := Lib.hid (qgrown HG XW.out (fun e => NG.out.2.1 (Option.some.inj e)))
        replace XR := Lib.hid (qgrown HG XR.out (fun e => NR.out (Option.some.inj e)))
        clear HG XP
        generalize X1.setCell ⟨p, 1, none⟩ (.int .i64 v2) = X2 at *
        go_wp2_with fail
        go_roundw
        case rel => exact ⟨2, rfl, by omega, BF, XZ, XP2, XW, XR⟩
        case measure => simp [intOf]
      · have cr := qcell XR.out 2 (.pointer (some ⟨p, 2, none⟩)) rfl
        have cw := qcell XW.out 3 (.string a3) rfl
        go_upto_region 8 with fail
        go_wp2_with fail
        refine (atoi_any a3 _ (by have := S3.out; have := HS.out; omega) (EV.out _ BF.out)).mono ?_
        rintro e X1 ⟨⟨ev, rfl⟩, b⟩
        clear cr cw
        replace BF := Lib.hid (BF.out.trans (b.mono BF.out.size))
        replace XZ := Lib.hid (qblk b XZ.out)
        replace XP := Lib.hid (qblk b XP.out)
        replace XW := Lib.hid (qblk b XW.out)
        replace XR := Lib.hid (qblk b XR.out)
        clear b
        rw [hv3.out]
        have cp := qcell XP.out 2 (.int .i64 0) rfl
        have fz := qfroz XP.out 2
        go_upto_region 9 with fail
        clear cp fz
        have HG := qput_grown X1 p 2 (.int .i64 v3)
        replace BF := Lib.hid (qstep BF.out HG NG.out.2.2.1)
        have XP2 : Hid ((X1.setCell ⟨p, 2, none⟩ (.int .i64 v3)).heap[p]? = some (.cells (hdrC v1 v2 v3 3) 28 (0, 0))) := Lib.hid (by rw [qput_at XP.out 2 _]; rfl)
        replace XZ := Lib.hid (qgrown HG XZ.out (fun e => NG.out.1 (Option.some.inj e)))
        replace XW := Lib.hid (qgrown HG XW.out (fun e => NG.out.2.1 (Option.some.inj e)))
        replace XR := Lib.hid (qgrown HG XR.out (fun e => NR.out (Option.some.inj e)))
        clear HG XP
        generalize X1.setCell ⟨p, 2, none⟩ (.int .i64 v3) = X2 at *
        go_wp2_with fail
        go_roundw
        case rel => exact ⟨3, rfl, by omega, BF, XZ, XP2, XW, XR⟩
        case measure => simp [intOf]
      · have F3 : Hid (wr.heap[p]? = some (.cells ((⟨v1, v2, v3, []⟩ : FaceV).cells none 0) 28 (0, 0))) := Lib.hid XP.out
        clear XP XW XR
        obtain ⟨F, hF⟩ : ∃ F : FaceV, Hid (F = ⟨v1, v2, v3, []⟩) := ⟨_, Lib.hid rfl⟩
        have e1 : Hid (F.eye = v1 ∧ F.rings = v2 ∧ F.sectors = v3) := Lib.hid (by rw [hF.out]; exact ⟨rfl, rfl, rfl⟩)
        rw [← hF.out] at HD F3
        have N1 : Hid (inB v1 1 16 = false → headF F = false) := Lib.hid (fun h => by unfold headF; rw [e1.out.1, h]; rfl)
        have N2 : Hid (inB v2 1 24 = false → headF F = false) := Lib.hid (fun h => by unfold headF; rw [e1.out.2.1, h]; simp)
        have N3 : Hid (inB v3 2 96 = false → headF F = false) := Lib.hid (fun h => by unfold headF; rw [e1.out.2.2, h]; simp)
        have NY : Hid (inB v1 1 16 = true → inB v2 1 24 = true → inB v3 2 96 = true → headF F = true) := Lib.hid (fun h1 h2 h3 => by unfold headF; rw [e1.out.1, e1.out.2.1, e1.out.2.2, h1, h2, h3]; rfl)
        have p0 := qcell F3.out 0 (.int .i64 v1) (by rw [hF.out]; rfl)
        have p1 := qcell F3.out 1 (.int .i64 v2) (by rw [hF.out]; rfl)
        have p2 := qcell F3.out 2 (.int .i64 v3) (by rw [hF.out]; rfl)
        clear hv1 hv2 hv3 S1 S2 S3
        go_upto_region 10 with fail
        refine yB ?_
        refine yW (.pointer (some ⟨p, 0, none⟩)) ?_
        refine yW (.int .i64 v1) ?_
        refine yR (fun K hK => ?_)
        go_simp
        refine (within_any v1 1 16 _).mono ?_
        rintro e wr ⟨rfl, rfl⟩
        cases h1 : inB v1 1 16
        · have HN := Lib.hid (N1.out h1)
          clear h1
          try dsimp only
          refine yK hK ?_
          clear hK K
          refine yM (.bool false) ?_
          go_skip
          refine yM (.bool false) ?_
          refine yM (.bool false) ?_
          go_skip
          refine yM (.bool false) ?_
          refine yM (.bool false) ?_
          refine yE ?_
          go_upto_region 11 with fail
          clear p0 p1 p2
          clear N1 N2 N3 NY
          have hzd : Below wr.heap.size wr wr.drew := (Below.refl _ _).drew
          replace XZ := Lib.hid (qblk hzd XZ.out)
          clear hzd
          have hd : Below wr.heap.size wr wr.drew := (Below.refl _ _).drew
          replace BF := Lib.hid (BF.out.drew)
          replace F3 := Lib.hid (qblk hd F3.out)
          refine zD (fun W => Below w.heap.size w W ∧ W.heap[p]? = some (.cells (F.cells none 0) 28 (0, 0))) ⟨BF.out, F3.out⟩ (fun hHeld => ?_)
          clear hd
          generalize wr.drew = V3 at *
          refine zT 0 rfl (.agg (F.cells none 0)) (qyrow (by kernel_rfl) 28 _ rfl p rfl _ 28 (0, 0) _ (fun W hW => hW.2) Tryz.underlying28 rfl (by exact (qJF F none 0))) ?_
          refine zW 1 rfl (.bool false) ?_
          refine zW 2 rfl (.bool false) ?_
          refine zW 3 rfl undef (hy := .inr ⟨by kernel_rfl, rfl⟩) ?_
          refine zW 4 rfl undef (hy := .inr ⟨by kernel_rfl, rfl⟩) ?_
          refine zW 5 rfl undef (hy := .inr ⟨by kernel_rfl, rfl⟩) ?_
          refine zW 6 rfl undef (hy := .inr ⟨by kernel_rfl, rfl⟩) ?_
          refine zW 7 rfl (.bool false) ?_
          have HR : Hid (hdrF s = (F, false)) := Lib.hid (by rw [HD.out, HN.out, Bool.false_and])
          refine zR 8 rfl (fun K hK => ?_)
          rw [if_pos (by kernel_rfl)]
          refine qstore 28 _ _ rfl z (zeroF.cells none 0) (F.cells none 0) 28 rfl rfl XZ.out (by exact qJF F none 0) rfl (qone F none 0) ?_
          intro X h8 hg8 hs8
          replace BF := Lib.hid (qstep BF.out hg8 NG.out.2.2.2)
          replace F3 := Lib.hid (qgrown hg8 F3.out (fun e => NG.out.1 (Option.some.inj e).symm))
          replace XZ := Lib.hid h8
          clear h8 hg8 hs8
          refine zK hK ⟨BF.out, F3.out⟩ (fun hHeld => ?_)
          clear hK K
          refine zW 9 rfl (.bool false) ?_
          refine zE ?_
          clear hHeld
          go_wp2_with fail
          (try simp only [Exit.inBlock, Exit.then])
          refine bodyPost_ret (results_ct rfl _ X z 28 (F.cells none 0) (0, 0) _ rfl XZ.out Tryz.underlying28 rfl (by exact qJF F none 0)) rfl ?_
          rw [HR.out]
          exact ⟨rfl, BF.out⟩
        · have H1 := Lib.hid h1
          clear h1
          try dsimp only
          refine yK hK ?_
          clear hK K
          refine yM (.bool true) ?_
          refine yW (.pointer (some ⟨p, 1, none⟩)) ?_
          refine yW (.int .i64 v2) ?_
          refine yR (fun K hK => ?_)
          go_simp
          refine (within_any v2 1 24 _).mono ?_
          rintro e wr ⟨rfl, rfl⟩
          cases h2 : inB v2 1 24
          · have HN := Lib.hid (N2.out h2)
            clear h2
            try dsimp only
            refine yK hK ?_
            clear hK K
            refine yM (.bool false) ?_
            refine yM (.bool false) ?_
            go_skip
            refine yM (.bool false) ?_
            refine yM (.bool false) ?_
            refine yE ?_
            go_upto_region 11 with fail
            clear p0 p1 p2
            clear N1 N2 N3 NY
            have hzd : Below wr.heap.size wr wr.drew := (Below.refl _ _).drew
            replace XZ := Lib.hid (qblk hzd XZ.out)
            clear hzd
            have hd : Below wr.heap.size wr wr.drew := (Below.refl _ _).drew
            replace BF := Lib.hid (BF.out.drew)
            replace F3 := Lib.hid (qblk hd F3.out)
            refine zD (fun W => Below w.heap.size w W ∧ W.heap[p]? = some (.cells (F.cells none 0) 28 (0, 0))) ⟨BF.out, F3.out⟩ (fun hHeld => ?_)
            clear hd
            generalize wr.drew = V3 at *
            refine zT 0 rfl (.agg (F.cells none 0)) (qyrow (by kernel_rfl) 28 _ rfl p rfl _ 28 (0, 0) _ (fun W hW => hW.2) Tryz.underlying28 rfl (by exact (qJF F none 0))) ?_
            refine zW 1 rfl (.bool false) ?_
            refine zW 2 rfl (.bool false) ?_
            refine zW 3 rfl undef (hy := .inr ⟨by kernel_rfl, rfl⟩) ?_
            refine zW 4 rfl undef (hy := .inr ⟨by kernel_rfl, rfl⟩) ?_
            refine zW 5 rfl undef (hy := .inr ⟨by kernel_rfl, rfl⟩) ?_
            refine zW 6 rfl undef (hy := .inr ⟨by kernel_rfl, rfl⟩) ?_
            refine zW 7 rfl (.bool false) ?_
            have HR : Hid (hdrF s = (F, false)) := Lib.hid (by rw [HD.out, HN.out, Bool.false_and])
            refine zR 8 rfl (fun K hK => ?_)
            rw [if_pos (by kernel_rfl)]
            refine qstore 28 _ _ rfl z (zeroF.cells none 0) (F.cells none 0) 28 rfl rfl XZ.out (by exact qJF F none 0) rfl (qone F none 0) ?_
            intro X h8 hg8 hs8
            replace BF := Lib.hid (qstep BF.out hg8 NG.out.2.2.2)
            replace F3 := Lib.hid (qgrown hg8 F3.out (fun e => NG.out.1 (Option.some.inj e).symm))
            replace XZ := Lib.hid h8
            clear h8 hg8 hs8
            refine zK hK ⟨BF.out, F3.out⟩ (fun hHeld => ?_)
            clear hK K
            refine zW 9 rfl (.bool false) ?_
            refine zE ?_
            clear hHeld
            go_wp2_with fail
            (try simp only [Exit.inBlock, Exit.then])
            refine bodyPost_ret (results_ct rfl _ X z 28 (F.cells none 0) (0, 0) _ rfl XZ.out Tryz.underlying28 rfl (by exact qJF F none 0)) rfl ?_
            rw [HR.out]
            exact ⟨rfl, BF.out⟩
          · have H2 := Lib.hid h2
            clear h2
            try dsimp only
            refine yK hK ?_
            clear hK K
            refine yM (.bool true) ?_
            refine yM (.bool true) ?_
            refine yW (.pointer (some ⟨p, 2, none⟩)) ?_
            refine yW (.int .i64 v3) ?_
            refine yR (fun K hK => ?_)
            go_simp
            refine (within_any v3 2 96 _).mono ?_
            rintro e wr ⟨rfl, rfl⟩
            cases h3 : inB v3 2 96
            · have HN := Lib.hid (N3.out h3)
              clear h3
              try dsimp only
              refine yK hK ?_
              clear hK K
              refine yM (.bool false) ?_
              refine yM (.bool false) ?_
              refine yE ?_
              go_upto_region 11 with fail
              clear p0 p1 p2
              clear N1 N2 N3 NY
              have hzd : Below wr.heap.size wr wr.drew := (Below.refl _ _).drew
              replace XZ := Lib.hid (qblk hzd XZ.out)
              clear hzd
              have hd : Below wr.heap.size wr wr.drew := (Below.refl _ _).drew
              replace BF := Lib.hid (BF.out.drew)
              replace F3 := Lib.hid (qblk hd F3.out)
              refine zD (fun W => Below w.heap.size w W ∧ W.heap[p]? = some (.cells (F.cells none 0) 28 (0, 0))) ⟨BF.out, F3.out⟩ (fun hHeld => ?_)
              clear hd
              generalize wr.drew = V3 at *
              refine zT 0 rfl (.agg (F.cells none 0)) (qyrow (by kernel_rfl) 28 _ rfl p rfl _ 28 (0, 0) _ (fun W hW => hW.2) Tryz.underlying28 rfl (by exact (qJF F none 0))) ?_
              refine zW 1 rfl (.bool false) ?_
              refine zW 2 rfl (.bool false) ?_
              refine zW 3 rfl undef (hy := .inr ⟨by kernel_rfl, rfl⟩) ?_
              refine zW 4 rfl undef (hy := .inr ⟨by kernel_rfl, rfl⟩) ?_
              refine zW 5 rfl undef (hy := .inr ⟨by kernel_rfl, rfl⟩) ?_
              refine zW 6 rfl undef (hy := .inr ⟨by kernel_rfl, rfl⟩) ?_
              refine zW 7 rfl (.bool false) ?_
              have HR : Hid (hdrF s = (F, false)) := Lib.hid (by rw [HD.out, HN.out, Bool.false_and])
              refine zR 8 rfl (fun K hK => ?_)
              rw [if_pos (by kernel_rfl)]
              refine qstore 28 _ _ rfl z (zeroF.cells none 0) (F.cells none 0) 28 rfl rfl XZ.out (by exact qJF F none 0) rfl (qone F none 0) ?_
              intro X h8 hg8 hs8
              replace BF := Lib.hid (qstep BF.out hg8 NG.out.2.2.2)
              replace F3 := Lib.hid (qgrown hg8 F3.out (fun e => NG.out.1 (Option.some.inj e).symm))
              replace XZ := Lib.hid h8
              clear h8 hg8 hs8
              refine zK hK ⟨BF.out, F3.out⟩ (fun hHeld => ?_)
              clear hK K
              refine zW 9 rfl (.bool false) ?_
              refine zE ?_
              clear hHeld
              go_wp2_with fail
              (try simp only [Exit.inBlock, Exit.then])
              refine bodyPost_ret (results_ct rfl _ X z 28 (F.cells none 0) (0, 0) _ rfl XZ.out Tryz.underlying28 rfl (by exact qJF F none 0)) rfl ?_
              rw [HR.out]
              exact ⟨rfl, BF.out⟩
            · have H3 := Lib.hid h3
              clear h3
              have HN := Lib.hid (NY.out H1.out H2.out H3.out)
              try dsimp only
              refine yK hK ?_
              clear hK K
              refine yM (.bool true) ?_
              refine yM (.bool true) ?_
              refine yE ?_
              go_upto_region 11 with fail
              clear p0 p1 p2
              clear N1 N2 N3 NY
              have hzd : Below wr.heap.size wr wr.drew := (Below.refl _ _).drew
              replace XZ := Lib.hid (qblk hzd XZ.out)
              clear hzd
              have hd : Below wr.heap.size wr wr.drew := (Below.refl _ _).drew
              replace BF := Lib.hid (BF.out.drew)
              replace F3 := Lib.hid (qblk hd F3.out)
              refine zD (fun W => Below w.heap.size w W ∧ W.heap[p]? = some (.cells (F.cells none 0) 28 (0, 0))) ⟨BF.out, F3.out⟩ (fun hHeld => ?_)
              clear hd
              generalize wr.drew = V3 at *
              refine zT 0 rfl (.agg (F.cells none 0)) (qyrow (by kernel_rfl) 28 _ rfl p rfl _ 28 (0, 0) _ (fun W hW => hW.2) Tryz.underlying28 rfl (by exact (qJF F none 0))) ?_
              refine zW 1 rfl (.bool true) ?_
              refine zW 2 rfl (.bool true) ?_
              refine zT 3 rfl (.agg (F.cells none 0)) (qyrow (by kernel_rfl) 28 _ rfl p rfl _ 28 (0, 0) _ (fun W hW => hW.2) Tryz.underlying28 rfl (by exact (qJF F none 0))) ?_
              refine zW 5 rfl (.string s) ?_
              refine zR 4 rfl (fun K hK => ?_)
              go_simp
              refine (header_any F none 0 V3 HN.out).mono ?_
              rintro e V4 ⟨rfl, b⟩
              replace XZ := Lib.hid (qblk b XZ.out)
              replace BF := Lib.hid (BF.out.trans (b.mono BF.out.size))
              replace F3 := Lib.hid (qblk b F3.out)
              clear b
              dsimp only
              refine zK hK ⟨BF.out, F3.out⟩ (fun hHeld => ?_)
              clear hK K
              refine zW 6 rfl (.bool (headS F == s)) (hy := .inl ⟨by kernel_rfl, by intro W _; go_simp; exact (beq_toListBytes _ _).symm⟩) ?_
              refine zW 7 rfl (.bool (headS F == s)) ?_
              have HR : Hid (hdrF s = (F, headS F == s)) := Lib.hid (by rw [HD.out, HN.out, Bool.true_and])
              refine zR 8 rfl (fun K hK => ?_)
              rw [if_pos (by kernel_rfl)]
              refine qstore 28 _ _ rfl z (zeroF.cells none 0) (F.cells none 0) 28 rfl rfl XZ.out (by exact qJF F none 0) rfl (qone F none 0) ?_
              intro X h8 hg8 hs8
              replace BF := Lib.hid (qstep BF.out hg8 NG.out.2.2.2)
              replace F3 := Lib.hid (qgrown hg8 F3.out (fun e => NG.out.1 (Option.some.inj e).symm))
              replace XZ := Lib.hid h8
              clear h8 hg8 hs8
              refine zK hK ⟨BF.out, F3.out⟩ (fun hHeld => ?_)
              clear hK K
              refine zW 9 rfl (.bool (headS F == s)) ?_
              refine zE ?_
              clear hHeld
              go_wp2_with fail
              (try simp only [Exit.inBlock, Exit.then])
              refine bodyPost_ret (results_ct rfl _ X z 28 (F.cells none 0) (0, 0) _ rfl XZ.out Tryz.underlying28 rfl (by exact qJF F none 0)) rfl ?_
              rw [HR.out]
              exact ⟨rfl, BF.out⟩
  · have hb : (((L : Nat) : Int) != 4) = true := by rw [bne_iff_ne]; omega
    have HN := Lib.hid (hdrF_not (s := s) (by rw [WL.out]; exact h4))
    go_wp2_with (first
      | (refine wpList_load_row rfl 28 _ rfl z rfl 28 (zeroF.cells none 0) (0, 0) _ XZ.out Tryz.underlying28 rfl (by exact (qJF zeroF none 0)) ?_)
      | (refine wpList_load_row rfl 28 _ rfl p rfl 28 (zeroF.cells none 0) (0, 0) _ XP.out Tryz.underlying28 rfl (by exact (qJF zeroF none 0)) ?_)
      | (refine wpList_qstore rfl 28 _ _ rfl z (zeroF.cells none 0) (zeroF.cells none 0) 28 rfl rfl XZ.out (by exact (qJF zeroF none 0)) rfl (qone zeroF none 0) ?_; intro VZ hzz hgz; replace BF := Lib.hid (qstep BF.out hgz (by have h1 := hz.out; omega)); replace XP := Lib.hid (qgrown hgz XP.out (fun e => by have h1 := hp.out; have h2 := hz.out; have := Option.some.inj e; omega)); replace XZ := Lib.hid hzz; clear hzz hgz)
      | fail)
    (try simp only [Exit.inBlock, Exit.then])
    refine bodyPost_ret (results_ct rfl _ VZ z 28 (zeroF.cells none 0) (0, 0) _ rfl XZ.out Tryz.underlying28 rfl (by exact (qJF zeroF none 0))) rfl ?_
    rw [HN.out]
    exact ⟨rfl, BF.out⟩
end Go.Proofs.YtimmadkbkimonaaGreatDoor
namespace Go.Proofs.YtimmadkbkimonaaGreatDoor
set_option linter.unusedSimpArgs false
set_option linter.unusedVariables false
open Go.RowKit

theorem results_ctt {P : Program} {fn : Func} {r s t : Nat} {ty : TypeId} (h : fn.results = #[.cell r ty, .tmp s, .tmp t]) (tmps : Array Value) (w : World) (p : Nat) (pt : TypeId) (cs : Array Value) (fr : Nat × Nat) (d : TypeDesc) (hp : tmps.getD r undef = .pointer (some ⟨p, 0, none⟩)) (hw : w.heap[p]? = some (.cells cs pt fr)) (hu : P.underlying ty = some d) (hd : (match d with | .struct _ | .array _ _ => true | _ => false) = true) (hi : (P.info? ty).map (·.size) = some cs.size) :
    (results fn tmps).run P w = .ok (.tuple #[.agg cs, tmps.getD s undef, tmps.getD t undef]) w := by
  have hp' : tmps[r]?.getD undef = .pointer (some ⟨p, 0, none⟩) := by simpa using hp
  simp [results, h, hp', asAddr, run_loadVar_row w p pt ty cs fr d hw hu hd hi]
set_option maxHeartbeats 4000000 in
set_option maxRecDepth 100000 in
theorem parseX_any (s line rest : ByteArray) (ended : Bool) (w : World) (hs : s.size ≤ 65536) (he : EnvW w) (hl : s.data.toList ≠ []) (hc : Lib.cut s.data.toList [10] = (line.data.toList, rest.data.toList, ended)) (hh : line.size ≠ 0 ∧ line.size ≤ 100000 ∧ (hdrF line).2 = false) : Calls Tryz.prog 20 #[.string s] w fun e w' => e = .returned (.tuple #[.agg (zeroF.cells none 0), .int .i64 11, .int .i64 1]) ∧ Below w.heap.size w w' := by
  have EV := Lib.hid (fun W (hb : Below w.heap.size w W) => he.below hb)
  have HS := Lib.hid hs
  have HC := Lib.hid hc
  have HL := Lib.hid hl
  have HH := Lib.hid hh
  clear he hs hc hl hh
  have t0 : decide ((65536 : Int) < (s.size : Int)) = false := by have := HS.out; simp; omega
  have AL := Lib.hid (al1 w (.cells #[.int .i64 0, .int .i64 0, .int .i64 0, .slice none 0 0] 28))
  go_enter Tryz.func20, Tryz.ntmps20
  go_upto_region 3 with fail
  obtain ⟨z, hz⟩ : ∃ z, Hid (w.heap.size = z) := ⟨_, Lib.hid rfl⟩
  rw [hz.out] at AL ⊢
  generalize (w.alloc (.cells #[.int .i64 0, .int .i64 0, .int .i64 0, .slice none 0 0] 28)) = W0 at *
  have BF : Hid (Below w.heap.size w W0) := Lib.hid (by rw [hz.out]; exact AL.out.1)
  have XZ : Hid (W0.heap[z]? = some (.cells (zeroF.cells none 0) 28 (0, 0))) := Lib.hid AL.out.2
  clear AL
  clear t0
  go_upto_region 5 with fail
  have AL := al1 W0 (.cells #[.int .i64 0, .int .i64 0, .int .i64 0, .slice none 0 0] 28)
  obtain ⟨p, hp⟩ : ∃ x, Hid (W0.heap.size = x) := ⟨_, Lib.hid rfl⟩
  have NG : Hid (z ≠ p ∧ w.heap.size ≤ p ∧ w.heap.size ≤ z) := Lib.hid (by have h1 := hz.out; have h2 := hp.out; have h3 := qlt XZ.out; have h4 := BF.out.size; omega)
  replace BF := Lib.hid (BF.out.trans (AL.1.mono BF.out.size))
  replace XZ := Lib.hid (qblk AL.1 XZ.out)
  have XP := Lib.hid AL.2
  rw [hp.out] at XP ⊢
  clear AL
  generalize W0.alloc (.cells #[.int .i64 0, .int .i64 0, .int .i64 0, .slice none 0 0] 28) = W1 at *
  replace XP := Lib.hid (show W1.heap[p]? = some (.cells (zeroF.cells none 0) 28 (0, 0)) from XP.out)
  go_wp2_with fail
  refine wp_loop_once ?_
  have sn : (s.toList == ([] : List UInt8)) = false := by
    rw [ByteArray.toList_eq]
    have h := HL.out
    cases e : s.data.toList with
    | nil => exact absurd e (by have := HL.out; simpa using this)
    | cons a b => rfl
  go_upto_region 8 with fail
  clear sn
  obtain ⟨m, hm⟩ := (EV.out W1 BF.out).1
  go_wp2_with fail
  refine (sh_strings_Cut s ⟨#[10]⟩ m W1 (by have := HS.out; omega) hm).mono ?_
  rintro e V1 ⟨rfl, q9, rfl⟩
  clear hm
  have b : Below W1.heap.size W1 (W1.drewN q9) := ⟨rfl, rfl, rfl, Nat.le_refl _, fun _ _ => rfl⟩
  replace BF := Lib.hid (BF.out.trans (b.mono BF.out.size))
  replace XZ := Lib.hid (qblk b XZ.out)
  replace XP := Lib.hid (qblk b XP.out)
  clear b
  generalize W1.drewN q9 = V1 at *
  rw [HC.out]
  have c1 := qcell XP.out 1 (.int .i64 0) rfl
  have c2 := qcell XP.out 2 (.int .i64 0) rfl
  have tl : ((line.size : Int) == 0) = false := by have := HH.out.1; rw [beq_eq_false_iff_ne]; omega
  go_upto_region 12 with fail
  clear c1 c2 tl
  go_wp2_with fail
  refine (parseHeader_any line V1 HH.out.2.1 (EV.out V1 BF.out)).mono ?_
  rintro e V2 ⟨rfl, b⟩
  replace BF := Lib.hid (BF.out.trans (b.mono BF.out.size))
  replace XZ := Lib.hid (qblk b XZ.out)
  replace XP := Lib.hid (qblk b XP.out)
  clear b
  rw [HH.out.2.2]
  go_wp2_with (first
    | (refine wpList_qstore rfl 28 _ _ rfl p (zeroF.cells none 0) ((hdrF line).1.cells none 0) 28 rfl rfl XP.out (by exact qJF (hdrF line).1 none 0) rfl (qone (hdrF line).1 none 0) ?_; intro V3 hzz hgz; replace BF := Lib.hid (qstep BF.out hgz NG.out.2.1); replace XZ := Lib.hid (qgrown hgz XZ.out (fun e => NG.out.1 (Option.some.inj e))); replace XP := Lib.hid hzz; clear hzz hgz)
    | (refine wpList_qstore rfl 28 _ _ rfl z (zeroF.cells none 0) (zeroF.cells none 0) 28 rfl rfl XZ.out (by exact qJF zeroF none 0) rfl (qone zeroF none 0) ?_; intro V4 hzz hgz; replace BF := Lib.hid (qstep BF.out hgz NG.out.2.2); replace XZ := Lib.hid hzz; clear hzz hgz)
    | fail)
  (try simp only [Exit.inBlock, Exit.then])
  refine bodyPost_ret (results_ctt rfl _ V4 z 28 (zeroF.cells none 0) (0, 0) _ rfl XZ.out Tryz.underlying28 rfl (by exact qJF zeroF none 0)) rfl ?_
  exact ⟨rfl, BF.out⟩
end Go.Proofs.YtimmadkbkimonaaGreatDoor
namespace Go.Proofs.YtimmadkbkimonaaGreatDoor
set_option linter.unusedSimpArgs false
open Go.RowKit

def sampleF : FaceV := ⟨1, 2, 4, [0, 1, 0, 0, 0, 1, 2, 0]⟩
def sampleP : PatV := ⟨1, 3, 2, 3, [⟨0, 1, 1, 1, 1, 0⟩]⟩
theorem smp_area : areaP sampleF 0 = (19, 0) := by decide +kernel
theorem smp_regions : regionsP sampleF = ([[0, 2, 3, 4, 7], [1, 5, 6]], 0) := by decide +kernel
theorem smp_turn : turnP sampleF 1 = (⟨1, 2, 4, [0, 0, 1, 0, 0, 0, 1, 2]⟩, 0) := by decide +kernel
theorem smp_normal : normalP sampleF = (⟨1, 2, 4, [0, 0, 0, 1, 2, 0, 0, 1]⟩, 0) := by decide +kernel
theorem smp_dress : dressP sampleP = (⟨1, 3, 6, [0, 0, 0, 0, 0, 0, 0, 1, 0, 0, 1, 0, 1, 0, 0, 1, 0, 0]⟩, 0) := by decide +kernel
end Go.Proofs.YtimmadkbkimonaaGreatDoor
namespace Go.Proofs.YtimmadkbkimonaaGreatDoor
set_option linter.unusedSimpArgs false
open Go.RowKit

theorem sameInts_any (a : Option Addr) (n c : Nat) (l : List Int) (a' : Option Addr) (n' c' : Nat) (l' : List Int) (w : World) (hr : RdI w a n c l) (hr' : RdI w a' n' c' l') :
    Calls Tryz.prog 34 #[.slice a n c, .slice a' n' c'] w fun e w' => e = .returned (.bool (decide (l = l'))) ∧ ∃ q, w' = w.drewN q := by
  have hm := RdI.maxn hr
  have hl := Lib.hid hr.len
  have hl' := Lib.hid hr'.len
  by_cases hnn : n = n'
  · subst hnn
    have QF : Hid ((∀ j, j < n → l[j]?.getD 0 = l'[j]?.getD 0) → decide (l = l') = true) := Lib.hid (fun h => by rw [decide_eq_true_eq]; exact ilist_ext (by rw [hl.out, hl'.out]) (fun j hj => h j (by rw [hl.out] at hj; omega)))
    have QG : Hid (∀ j : Nat, l[j]?.getD 0 ≠ l'[j]?.getD 0 → decide (l = l') = false) := Lib.hid (fun j h => by rw [decide_eq_false_iff_not]; intro e; rw [e] at h; exact h rfl)
    generalize decide (l = l') = q at *
    go_enter Tryz.func34, Tryz.ntmps34
    go_wp2
    go_loopw [5] (fun i wr => ∃ k : Nat, k ≤ n ∧ i = .int .i64 k ∧ (∀ j, j < k → l[j]?.getD 0 = l'[j]?.getD 0) ∧ ∃ q, wr = w.drewN q) (fun i _ => n - (intOf i).toNat)
    case atStart => exact ⟨0, Nat.zero_le _, rfl, fun j hj => by omega, 0, rfl⟩
    case round =>
      obtain ⟨k, hk, rfl, hrl, q, rfl⟩ := hrel
      have HR := Lib.hid hrl; clear hrl
      by_cases hlt : k < n
      · obtain ⟨b, off, rfl, hc⟩ := hr.at (by omega)
        obtain ⟨b', off', rfl, hc'⟩ := hr'.at (by omega)
        have hx := hc k hlt
        have hx' := hc' k hlt
        clear hc hc' hr hr'
        have hk64 : (k : Int) ≤ 9223372036854775807 := by omega
        by_cases he : l[k]?.getD 0 = l'[k]?.getD 0
        · have hb := int_eq he
          have HE := Lib.hid he; clear he
          go_wp2
          go_quiet (fail)
          go_wp2
          go_roundw
          case rel => exact ⟨k + 1, by omega, by go_num, fun j hj => by
            rcases Nat.lt_succ_iff_lt_or_eq.1 hj with h | h
            · exact HR.out j h
            · rw [h]; exact HE.out, _, rfl⟩
          case measure => simp [intOf]; omega
        · have hb := int_ne he
          have HE := Lib.hid (QG.out k he); clear he
          go_wp2
          go_quiet (fail)
          go_wp2
          go_ret
          exact ⟨by rw [HE.out]; rfl, _, World.drewN_drewN _ _ _⟩
      · have HE := Lib.hid (QF.out (fun j hj => HR.out j (by omega)))
        go_wp2
        go_ret
        exact ⟨by rw [HE.out]; rfl, _, rfl⟩
  · have hb : (((n : Nat) : Int) != ((n' : Nat) : Int)) = true := by rw [bne_iff_ne]; omega
    have hm' := RdI.maxn hr'
    have HE : Hid (decide (l = l') = false) := Lib.hid (by rw [decide_eq_false_iff_not]; intro e; rw [e] at hl; exact hnn (hl.out.symm.trans hl'.out))
    clear hnn
    go_enter Tryz.func34, Tryz.ntmps34
    go_wp2
    go_ret
    exact ⟨by rw [HE.out]; rfl, 0, rfl⟩
end Go.Proofs.YtimmadkbkimonaaGreatDoor
namespace Go.Proofs.YtimmadkbkimonaaGreatDoor
set_option linter.unusedSimpArgs false
set_option linter.unusedVariables false
open Go.RowKit

set_option maxHeartbeats 4000000 in
set_option maxRecDepth 100000 in
theorem sample_any (w : World) : Calls Tryz.prog 64 #[] w fun e w' => (∃ a n, e = .returned (.agg (sampleF.cells a n)) ∧ FOwn w w' sampleF a n) ∧ Below w.heap.size w w' := by
  go_enter Tryz.func64, Tryz.ntmps64
  go_upto_region 1 with fail
  have AL := Lib.hid (al1 w (.cells #[.int .i64 0, .int .i64 0, .int .i64 0, .slice none 0 0] 28))
  obtain ⟨z, hz⟩ : ∃ x, Hid (w.heap.size = x) := ⟨_, Lib.hid rfl⟩
  rw [hz.out] at AL ⊢
  generalize w.alloc (.cells #[.int .i64 0, .int .i64 0, .int .i64 0, .slice none 0 0] 28) = W0 at *
  have BF : Hid (Below w.heap.size w W0) := Lib.hid (by rw [hz.out]; exact AL.out.1)
  have XZ := Lib.hid AL.out.2
  clear AL
  refine yB ?_
  refine yR (fun K hK => ?_)
  refine qbuild (w' := W0.alloc (.cells #[.int .i64 0, .int .i64 1, .int .i64 0, .int .i64 0, .int .i64 0, .int .i64 1, .int .i64 2, .int .i64 0] 3)) (.slice (some ⟨W0.heap.size, 0, none⟩) 8 8) (by kernel_rfl) ?_
  have AL := Lib.hid (al1 W0 (.cells #[.int .i64 0, .int .i64 1, .int .i64 0, .int .i64 0, .int .i64 0, .int .i64 1, .int .i64 2, .int .i64 0] 3))
  have OW : Hid ((W0.alloc (.cells #[.int .i64 0, .int .i64 1, .int .i64 0, .int .i64 0, .int .i64 0, .int .i64 1, .int .i64 2, .int .i64 0] 3)).ownsRow w.heap.size 3 1 (.slice (some ⟨W0.heap.size, 0, none⟩) 8 8) 8 (sampleF.kinds.map intV)) := Lib.hid ⟨rfl, .inr ⟨W0.heap.size, 8, _, rfl, BF.out.size, AL.out.2, Nat.le_refl _, by unfold maxLen; omega, rfl, rfl⟩⟩
  obtain ⟨g, hg⟩ : ∃ x, Hid (W0.heap.size = x) := ⟨_, Lib.hid rfl⟩
  replace BF := Lib.hid (BF.out.trans (AL.out.1.mono BF.out.size))
  replace XZ := Lib.hid (qblk AL.out.1 XZ.out)
  rw [hg.out] at OW ⊢
  clear AL
  generalize W0.alloc (.cells #[.int .i64 0, .int .i64 1, .int .i64 0, .int .i64 0, .int .i64 0, .int .i64 1, .int .i64 2, .int .i64 0] 3) = W1 at *
  refine yK hK ?_
  clear hK K
  refine yW (.agg (sampleF.cells (some ⟨g, 0, none⟩) 8)) ?_ (.inl ⟨by kernel_rfl, by intro W hW; rw [hW]; kernel_rfl⟩)
  refine yR (fun K hK => ?_)
  refine qstore 28 _ _ rfl z #[.int .i64 0, .int .i64 0, .int .i64 0, .slice none 0 0] (sampleF.cells (some ⟨g, 0, none⟩) 8) 28 rfl rfl XZ.out (by exact qJF sampleF (some ⟨g, 0, none⟩) 8) rfl (qone sampleF (some ⟨g, 0, none⟩) 8) ?_
  intro X h8 hg8 hs8
  replace BF := Lib.hid (qstep BF.out hg8 (by have h1 := hz.out; omega))
  replace OW := Lib.hid (OW.out.kept hg8 (.inr (qown_no OW.out XZ.out (by simp)).symm))
  replace XZ := Lib.hid h8
  clear h8 hg8 hs8
  refine yK hK ?_
  clear hK K
  refine yE ?_
  go_wp2_with fail
  (try simp only [Exit.inBlock, Exit.then])
  refine bodyPost_ret (results_cell_row rfl _ X z 28 (sampleF.cells (some ⟨g, 0, none⟩) 8) (0, 0) _ rfl XZ.out Tryz.underlying28 rfl (by exact qJF sampleF (some ⟨g, 0, none⟩) 8)) rfl ?_
  exact ⟨⟨some ⟨g, 0, none⟩, 8, rfl, OW.out⟩, BF.out⟩
set_option maxHeartbeats 4000000 in
set_option maxRecDepth 100000 in
theorem few_any (f : FaceV) (a : Option Addr) (n : Nat) (w : World) : Calls Tryz.prog 35 #[.agg (f.cells a n)] w fun e w' => e = .returned (.bool (decide (f.kinds.length ≤ 200))) ∧ Below w.heap.size w w' := by
  have AL := Lib.hid (al1 w (.cells (f.cells a n) 28))
  go_enter Tryz.func35, Tryz.ntmps35
  go_upto_region 1 with fail
  obtain ⟨p, hp⟩ : ∃ p, Hid (w.heap.size = p) := ⟨_, Lib.hid rfl⟩
  rw [hp.out] at AL ⊢
  generalize (w.alloc (.cells (f.cells a n) 28)) = W0 at *
  have BF : Hid (Below w.heap.size w W0) := Lib.hid (by rw [hp.out]; exact AL.out.1)
  have XF : Hid (W0.heap[p]? = some (.cells (f.cells a n) 28 (0, 0))) := Lib.hid AL.out.2
  clear AL
  have c0 := qcell XF.out 0 (.int .i64 f.eye) rfl
  have c1 := qcell XF.out 1 (.int .i64 f.rings) rfl
  have c2 := qcell XF.out 2 (.int .i64 f.sectors) rfl
  have c3 := qcell XF.out 3 (.slice a f.kinds.length n) rfl
  have t0 : decide ((f.kinds.length : Int) ≤ 200) = decide (f.kinds.length ≤ 200) := by rw [decide_eq_decide]; omega
  go_wp2_with (first
    | (refine wpList_load_row rfl 28 _ rfl p rfl 28 (f.cells a n) (0, 0) _ XF.out Tryz.underlying28 rfl (by exact (qJF f a n)) ?_)
    | fail)
  go_ret
  exact ⟨by first | rfl | (rw [← t0]; rfl), BF.out⟩
set_option maxHeartbeats 4000000 in
set_option maxRecDepth 100000 in
theorem sameLists_any (a : Option Addr) (n c : Nat) (ls : List (List Int)) (a' : Option Addr) (n' c' : Nat) (ls' : List (List Int)) (w : World) (hr : RdLL w a n c ls) (hr' : RdLL w a' n' c' ls') :
    Calls Tryz.prog 29 #[.slice a n c, .slice a' n' c'] w fun e w' => e = .returned (.bool (decide (ls = ls'))) ∧ Below w.heap.size w w' := by
  have hl := Lib.hid hr.len
  have hl' := Lib.hid hr'.len
  have hm : n ≤ 9223372036854775807 := by have h1 := hr.le; have h2 := hr.max; unfold maxLen at h2; omega
  have hm' : n' ≤ 9223372036854775807 := by have h1 := hr'.le; have h2 := hr'.max; unfold maxLen at h2; omega
  have HR := Lib.hid (fun W (hb : Below w.heap.size w W) => hr.below hb)
  have HR' := Lib.hid (fun W (hb : Below w.heap.size w W) => hr'.below hb)
  by_cases hnn : n = n'
  · subst hnn
    have QF : Hid ((∀ j, j < n → ls[j]? = ls'[j]?) → decide (ls = ls') = true) := Lib.hid (fun h => by
      rw [decide_eq_true_eq]
      apply List.ext_getElem?
      intro j
      rcases Nat.lt_or_ge j n with h1 | h1
      · exact h j h1
      · rw [List.getElem?_eq_none (by rw [hl.out]; exact h1), List.getElem?_eq_none (by rw [hl'.out]; exact h1)])
    have QG : Hid (∀ j : Nat, ls[j]? ≠ ls'[j]? → decide (ls = ls') = false) := Lib.hid (fun j h => by rw [decide_eq_false_iff_not]; intro e; rw [e] at h; exact h rfl)
    generalize decide (ls = ls') = q at *
    clear hr hr'
    go_enter Tryz.func29, Tryz.ntmps29
    go_wp2_with fail
    go_loopw [5] (fun i wr => ∃ k : Nat, k ≤ n ∧ i = .int .i64 k ∧ Hid (∀ j, j < k → ls[j]? = ls'[j]?) ∧ Hid (Below w.heap.size w wr)) (fun i _ => n - (intOf i).toNat)
    case atStart => exact ⟨0, Nat.zero_le _, rfl, Lib.hid (fun j hj => by omega), Lib.hid (Below.refl _ _)⟩
    case round =>
      obtain ⟨k, hk, rfl, HE, BF⟩ := hrel
      by_cases hlt : k < n
      · have t0 : decide ((k : Int) < (n : Int)) = true := by simp; omega
        have HK64 : Hid ((k : Int) + 1 ≤ 9223372036854775807) := Lib.hid (by omega)
        obtain ⟨l, hx⟩ : ∃ l, ls[k]? = some l := ⟨_, List.getElem?_eq_getElem (by rw [hl.out]; exact hlt)⟩
        obtain ⟨l', hx'⟩ : ∃ l, ls'[k]? = some l := ⟨_, List.getElem?_eq_getElem (by rw [hl'.out]; exact hlt)⟩
        obtain ⟨R, off, aj, cj, ha, hc, hrd⟩ := (HR.out wr BF.out).at_ k l hx
        obtain ⟨R', off', aj', cj', ha', hc', hrd'⟩ := (HR'.out wr BF.out).at_ k l' hx'
        subst ha
        subst ha'
        have GC := Lib.hid (show ∀ W, Below wr.heap.size wr W → W.cell? ⟨R, off + k, none⟩ = some (.slice aj l.length cj) ∧ RdI W aj l.length cj l from fun W hb => ⟨(hb.cell (p := ⟨R, off + k, none⟩) (World.block_lt_of_cell? wr _ hc)).trans hc, hrd.below hb⟩)
        have GC' := Lib.hid (show ∀ W, Below wr.heap.size wr W → W.cell? ⟨R', off' + k, none⟩ = some (.slice aj' l'.length cj') ∧ RdI W aj' l'.length cj' l' from fun W hb => ⟨(hb.cell (p := ⟨R', off' + k, none⟩) (World.block_lt_of_cell? wr _ hc')).trans hc', hrd'.below hb⟩)
        have LE : Hid (decide (l = l') = true → ls[k]? = ls'[k]?) := Lib.hid (fun h => by rw [hx, hx', of_decide_eq_true h])
        have LN : Hid (decide (l = l') = false → ls[k]? ≠ ls'[k]?) := Lib.hid (fun h e => by rw [hx, hx'] at e; exact of_decide_eq_false h (Option.some.inj e))
        clear hc hc' hrd hrd' hx hx'
        go_upto_region 6 with fail
        clear t0
        refine zD (fun W => Below wr.heap.size wr W) (Below.refl _ _).drew (fun hHeld => ?_)
        have BV := Lib.hid hHeld
        generalize wr.drew = V0 at *
        refine zW 0 rfl (.slice (some ⟨R, off, none⟩) n c) ?_
        refine zW 1 rfl (.int .i64 (k : Int)) ?_
        refine zW 2 rfl (.pointer (some ⟨R, off + k, none⟩)) ?_
        refine zS 3 rfl (.slice aj l.length cj) (fun W hW => by have c := (GC.out W hW).1; go_simp) ?_
        refine zW 4 rfl (.slice (some ⟨R', off', none⟩) n c') ?_
        refine zW 5 rfl (.int .i64 (k : Int)) ?_
        refine zW 6 rfl (.pointer (some ⟨R', off' + k, none⟩)) ?_
        refine zS 7 rfl (.slice aj' l'.length cj') (fun W hW => by have c := (GC'.out W hW).1; go_simp) ?_
        refine zR 8 rfl (fun K hK => ?_)
        go_simp
        refine (sameInts_any aj l.length cj l aj' l'.length cj' l' V0 (GC.out V0 BV.out).2 (GC'.out V0 BV.out).2).mono ?_
        rintro e V1 ⟨rfl, q9, rfl⟩
        replace BV := Lib.hid (BV.out.trans (Below.mono (show Below V0.heap.size V0 (V0.drewN q9) from ⟨rfl, rfl, rfl, Nat.le_refl _, fun _ _ => rfl⟩) BV.out.size))
        replace BF := Lib.hid (BF.out.trans (BV.out.mono BF.out.size))
        dsimp only
        refine zK hK BV.out (fun hHeld => ?_)
        clear hK K
        cases he : decide (l = l')
        · have HN := Lib.hid (QG.out k (LN.out he))
          refine zW 9 rfl (.bool true) ?_
          refine zE ?_
          go_wp2_with fail
          go_ret
          exact ⟨by rw [HN.out]; rfl, BF.out⟩
        · have HY := Lib.hid (LE.out he)
          refine zW 9 rfl (.bool false) ?_
          refine zE ?_
          go_upto_region 5 with fail
          have hk64 := HK64.out
          go_wp2_with fail
          go_roundw
          case rel => exact ⟨k + 1, by omega, by simp, Lib.hid (fun j hj => by
            rcases Nat.lt_succ_iff_lt_or_eq.1 hj with h | h
            · exact HE.out j h
            · rw [h]; exact HY.out), BF⟩
          case measure => simp [intOf]; omega
      · have t0 : decide ((k : Int) < (n : Int)) = false := by simp; omega
        have HY := Lib.hid (QF.out (fun j hj => HE.out j (by omega)))
        go_wp2_with fail
        go_ret
        exact ⟨by rw [HY.out]; rfl, BF.out⟩
  · have hb : (((n : Nat) : Int) != ((n' : Nat) : Int)) = true := by rw [bne_iff_ne]; omega
    have HE : Hid (decide (ls = ls') = false) := Lib.hid (by rw [decide_eq_false_iff_not]; intro e; rw [e] at hl; exact hnn (hl.out.symm.trans hl'.out))
    clear hnn hr hr'
    go_enter Tryz.func29, Tryz.ntmps29
    go_wp2_with fail
    go_ret
    exact ⟨by rw [HE.out]; rfl, Below.refl _ _⟩
end Go.Proofs.YtimmadkbkimonaaGreatDoor
