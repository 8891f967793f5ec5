/- Parts of the proof, in this order: mapped of stones; The program's test of strokes, equality of int slices, equality of notes; Turning and mirroring: the plain law; The numbers of regions and of dead ones stay when a face is turned, plain; Draining: when the cells of dead regions become land, plain; Faces that are dressed as a pattern says, plain; Periods, turns and normal forms: the plain law; Harps: the plain law; What the reference computes, and that it is what the mirrors compute, plain; turned, Turn, Mirror, Same of stones; slices.Compare of ints; Sort and Compact of the library, laid at this program. -/
import Derived.ChangeKeysEq
import Derived.Shelf.Sort.Plain
import Derived.Shelf.Slices.CompactI
import Derived.Ground.Names2Prog
import Derived.Test.YtmpkglokhchpiaaGreatDoorKPsn2
set_option linter.unusedSimpArgs false
set_option linter.unusedVariables false
open List renaming getElem_toArray → lq0, getElem_cons_succ → lq1, getElem_cons_zero → lq2, setIfInBounds_toArray → lq3, set_cons_zero → lq4, set_cons_succ → lq5
namespace Go.Proofs.YtmpkglokhchpiaaGreatDoor
set_option linter.unusedSimpArgs false
set_option linter.unusedVariables false
open Go.RowKit

def mapR (f : FaceV) (s : Nat) (of : Int → Int) (i j : Nat) : List Int := mapK f s of i ++ (List.range j).map fun (j : Nat) => f.kat (indexF f i (of j)).toNat
theorem mapR_len (f : FaceV) (s : Nat) (of : Int → Int) (i j : Nat) : (mapR f s of i j).length = i * s + j := by
  unfold mapR
  rw [List.length_append, mapK_len, List.length_map, List.length_range]
theorem mapR_zero (f : FaceV) (s : Nat) (of : Int → Int) (i : Nat) : mapR f s of i 0 = mapK f s of i := by unfold mapR; simp
theorem mapR_next (f : FaceV) (s : Nat) (of : Int → Int) (i j : Nat) : mapR f s of i (j + 1) = mapR f s of i j ++ [f.kat (indexF f i (of j)).toNat] := by
  unfold mapR
  rw [List.range_succ, List.map_append, List.append_assoc]
  rfl
theorem mapR_row (f : FaceV) (s : Nat) (of : Int → Int) (i : Nat) : mapR f s of i s = mapK f s of (i + 1) := by
  unfold mapR mapK
  rw [List.range_succ, List.flatMap_append]
  simp
def outF (f : FaceV) (s : Nat) (l : List Int) : FaceV := ⟨f.eye, f.rings, s, l⟩
structure MapAt (w : World) (p z o : Nat) (f : FaceV) (a : Option Addr) (n s : Nat) (l : List Int) (oa : Option Addr) (oc : Nat) (W : World) : Prop where
  bel : Below w.heap.size w W
  p : W.heap[p]? = some (.cells (f.cells a n) 28 (0, 0))
  z : W.heap[z]? = some (.cells (zeroF.cells none 0) 28 (0, 0))
  o : W.heap[o]? = some (.cells ((outF f s l).cells oa oc) 28 (0, 0))
  own : W.ownsRow w.heap.size 3 1 (.slice oa l.length oc) l.length (l.map intV)
theorem MapAt.below {w : World} {p z o : Nat} {f : FaceV} {a : Option Addr} {n s : Nat} {l : List Int} {oa : Option Addr} {oc : Nat} {W W' : World} (h : MapAt w p z o f a n s l oa oc W) (hb : Below W.heap.size W W') : MapAt w p z o f a n s l oa oc W' :=
  ⟨h.bel.trans (hb.mono h.bel.size), qblk hb h.p, qblk hb h.z, qblk hb h.o, own_below h.own hb⟩
section
variable {P : Program} {ops : Array Oper}
theorem bDq {id : Nat} {a : Act} {w W : World} {Q : Exit → Act → World → Prop} (m : Nat) (S : World → Prop) (hS : S W) (h : S W → AnyBut P .any ops (NoPanic Q) m S ops.size (Array.replicate ops.size false) a W) (hW : w.drew = W := by assumption) (hm : P.follows .mixedOrders = true := by kernel_rfl) :
    (Code.region id ops true).wp P Q a w := by
  subst hW
  exact bD m S hS h hm
end
set_option maxHeartbeats 4000000 in
set_option maxRecDepth 100000 in
theorem mapped_any (f : FaceV) (a : Option Addr) (n s : Nat) (of : Int → Int) (fn : Nat) (cap : Array Value) (w : World) (hv : f.valid = true) (hr : RdI w a f.kinds.length n f.kinds) (hs : 1 ≤ s ∧ s ≤ 96)
    (hfn : ∀ (args : Array Value) (w : World), (callFunc fn args).run Tryz.prog w = .ok (.enter fn args) w)
    (hcl : ∀ (j : Nat) W, Below w.heap.size w W → j < s → Calls Tryz.prog fn (#[.int .i64 j] ++ cap) W fun e W' => e = .returned (.int .i64 (of j)) ∧ Below W.heap.size W W') :
    Calls Tryz.prog 72 #[.agg (f.cells a n), .int .i64 s, .func (.func fn) #[] cap] w fun e w' => ∃ a' n', e = .returned (.agg ((mapF f s of).cells a' n')) ∧ w'.ownsRow w.heap.size 3 1 (.slice a' (mapK f s of f.R).length n') (mapK f s of f.R).length ((mapK f s of f.R).map intV) ∧ Below w.heap.size w w' := by
  have HR := Lib.hid (fun W (hb : Below w.heap.size w W) => hr.below hb)
  have HCL := Lib.hid hcl
  have HFN := Lib.hid hfn
  have IV := Lib.hid (FaceV.int hv)
  have NV := Lib.hid (FaceV.nat hv)
  have LL := Lib.hid (FaceV.len_le hv)
  have HV := Lib.hid hv
  have HS := Lib.hid hs
  clear hr hcl hfn hv hs
  have AL := Lib.hid (al2 w (.cells (f.cells a n) 28) (.cells #[.int .i64 0, .int .i64 0, .int .i64 0, .slice none 0 0] 28))
  go_enter Tryz.func72, Tryz.ntmps72
  go_upto_region 1 with fail
  obtain ⟨p, hp⟩ : ∃ p, Hid (w.heap.size = p) := ⟨_, Lib.hid rfl⟩
  obtain ⟨z, hz⟩ : ∃ z, Hid (w.heap.size + 1 = z) := ⟨_, Lib.hid rfl⟩
  rw [hz.out] at AL ⊢
  rw [hp.out] at AL ⊢
  generalize ((w.alloc (.cells (f.cells a n) 28)).alloc (.cells #[.int .i64 0, .int .i64 0, .int .i64 0, .slice none 0 0] 28)) = W0 at *
  have BF : Hid (Below w.heap.size w W0) := Lib.hid (by rw [hp.out]; exact AL.out.1)
  have XF : Hid (W0.heap[p]? = some (.cells (f.cells a n) 28 (0, 0))) := Lib.hid AL.out.2.1
  have XZ : Hid (W0.heap[z]? = some (.cells (zeroF.cells none 0) 28 (0, 0))) := Lib.hid AL.out.2.2
  clear AL
  have c0 := qcell XF.out 0 (.int .i64 f.eye) rfl
  have c1 := qcell XF.out 1 (.int .i64 f.rings) rfl
  have c2 := qcell XF.out 2 (.int .i64 f.sectors) rfl
  have c3 := qcell XF.out 3 (.slice a f.kinds.length n) rfl
  go_upto_region 2 with (first
    | (refine wpList_load_row rfl 28 _ rfl p rfl 28 (f.cells a n) (0, 0) _ XF.out Tryz.underlying28 rfl (by exact (qJF f a n)) ?_)
    | (refine wpList_load_row rfl 28 _ rfl z rfl 28 (zeroF.cells none 0) (0, 0) _ XZ.out Tryz.underlying28 rfl (by exact (qJF zeroF none 0)) ?_)
    | (refine wpList_store_new W0 rfl 28 _ _ rfl (zeroF.cells none 0) ((outF f s []).cells none 0) rfl rfl (by exact qJF (outF f s []) none 0) rfl (qone (outF f s []) none 0) ?_)
    | fail)
  clear c0 c1 c2 c3
  have AL := al1 W0 (.cells ((outF f s []).cells none 0) 28)
  have M0 : Hid (MapAt w p z W0.heap.size f a n s (mapR f s of 0 0) none 0 (W0.alloc (.cells ((outF f s []).cells none 0) 28))) := Lib.hid ⟨BF.out.trans (AL.1.mono BF.out.size), qblk AL.1 XF.out, qblk AL.1 XZ.out, AL.2, World.ownsRow_nil _ _ _ _⟩
  obtain ⟨o, ho⟩ : ∃ o, Hid (W0.heap.size = o) := ⟨_, Lib.hid rfl⟩
  have OGE : Hid (w.heap.size ≤ o ∧ o ≠ p ∧ o ≠ z ∧ w.heap.size = p ∧ w.heap.size + 1 = z) := Lib.hid (by have h1 := qlt XF.out; have h2 := qlt XZ.out; have := BF.out.size; have := ho.out; have := hp.out; have := hz.out; omega)
  rw [ho.out] at M0 ⊢
  clear AL BF XF XZ
  generalize W0.alloc (.cells ((outF f s []).cells none 0) 28) = W1 at *
  have c1 := qcell M0.out.p 1 (.int .i64 f.rings) rfl
  go_wp2_with fail
  clear c1
  have eR := NV.out.1
  have eRR : f.rings = (f.R : Int) := eR
  rw [eRR]
  clear eR eRR
  go_loopw [18] (fun i wr => ∃ (k : Nat) (oa : Option Addr) (oc : Nat), i = .int .i64 k ∧ k ≤ f.R ∧ Hid (MapAt w p z o f a n s (mapR f s of k 0) oa oc wr)) (fun i _ => f.R - (intOf i).toNat)
  case atStart => exact ⟨0, none, 0, rfl, Nat.zero_le _, M0⟩
  case round =>
    clear M0
    obtain ⟨i, oa, oc, rfl, hi, M1⟩ := hrel
    have hi64 : (i : Int) + 1 ≤ 9223372036854775807 := by have := NV.out; omega
    by_cases hiR : i < f.R
    · have t0 : decide ((i : Int) < (f.R : Int)) = true := by simp; omega
      go_wp2_with fail
      generalize wr = X1 at *
      have HI64 := Lib.hid hi64
      clear hi64 t0
      go_loopw [22] (fun v wr => ∃ (j : Nat) (oa : Option Addr) (oc : Nat), v = .int .i64 j ∧ j ≤ s ∧ Hid (MapAt w p z o f a n s (mapR f s of i j) oa oc wr)) (fun v _ => s - (intOf v).toNat)
      case atStart => exact ⟨0, oa, oc, rfl, Nat.zero_le _, M1⟩
      case round =>
        clear M1
        obtain ⟨j, oa, oc, rfl, hj, M1⟩ := hrel
        by_cases hjs : j < s
        · have t0 : decide ((j : Int) < (s : Int)) = true := by simp; omega
          go_upto_region 8 with fail
          clear t0
          have hd : Below wr.heap.size wr wr.drew := (Below.refl _ _).drew
          replace M1 := Lib.hid (M1.out.below hd)
          clear hd
          obtain ⟨V0, hV0⟩ : ∃ V0, wr.drew = V0 := ⟨_, rfl⟩
          rw [hV0] at M1
          have HIR : Hid (0 ≤ (i : Int) ∧ (i : Int) ≤ f.rings - 1) := Lib.hid (by have := NV.out.1; omega)
          have IL := Lib.hid (index_lt HV.out HIR.out (of j))
          obtain ⟨q, hq⟩ : ∃ q, Hid ((indexF f i (of j)).toNat = q) := ⟨_, Lib.hid rfl⟩
          have HQ : Hid (indexF f i (of j) = (q : Int)) := Lib.hid (by have := IL.out; have := hq.out; omega)
          have HQL : Hid (q < f.kinds.length) := Lib.hid (by have := IL.out; have := hq.out; omega)
          obtain ⟨b0, off, ha, _⟩ := (HR.out V0 M1.out.bel).get (FaceV.kat_at HQL.out)
          subst ha
          have RC : Hid (∀ W, Below w.heap.size w W → W.cell? ⟨b0, off + q, none⟩ = some (.int .i64 (f.kat q))) := Lib.hid (fun W hb => by
            obtain ⟨b1, o1, e1, h1⟩ := (HR.out W hb).get (FaceV.kat_at HQL.out)
            cases e1
            exact h1)
          have JF := Lib.hid (qJF f (some ⟨b0, off, none⟩) n)
          have ML := Lib.hid (mapR_len f s of i j)
          have MLB : Hid ((mapR f s of i j).length ≤ 10000) := Lib.hid (by
            rw [ML.out]
            have h1 := NV.out
            have h2 : i * s ≤ 24 * 96 := Nat.mul_le_mul (by omega) (by have := HS.out; omega)
            have := HS.out
            omega)
          refine bDq 15 (fun W => Below w.heap.size w W ∧ W.heap[p]? = some (.cells (f.cells (some ⟨b0, off, none⟩) n) 28 (0, 0)) ∧ W.heap[o]? = some (.cells ((outF f s (mapR f s of i j)).cells oa oc) 28 (0, 0))) ⟨by exact M1.out.bel, M1.out.p, M1.out.o⟩ (fun hHeld => ?_)
          clear hV0
          refine bW 0 rfl (.pointer (some ⟨o, 3, none⟩)) ?_
          refine bS 1 rfl (.slice oa (mapR f s of i j).length oc) (fun W hW => by have c := qcell hW.2.2 3 (.slice oa (mapR f s of i j).length oc) rfl; go_simp) ?_
          refine bW 2 rfl (.pointer (some ⟨p, 3, none⟩)) ?_
          refine bS 3 rfl (.slice (some ⟨b0, off, none⟩) f.kinds.length n) (fun W hW => by have c := qcell hW.2.1 3 (.slice (some ⟨b0, off, none⟩) f.kinds.length n) rfl; go_simp) ?_
          refine bW 4 rfl (.agg (f.cells (some ⟨b0, off, none⟩) n)) (hy := qyrow (by kernel_rfl) 28 _ rfl p rfl _ 28 (0, 0) _ (fun W hW => hW.2.1) Tryz.underlying28 rfl (by exact JF.out)) ?_
          refine bW 5 rfl (.int .i64 i) ?_
          refine bW 6 rfl (.func (.func fn) #[] cap) ?_
          refine bW 7 rfl (.int .i64 j) ?_
          refine bR 8 rfl (fun K hK => ?_)
          have hfn := HFN.out
          go_simp
          refine (HCL.out j V0 M1.out.bel (by omega)).mono ?_
          clear hfn
          rintro e V1 ⟨rfl, b⟩
          replace M1 := Lib.hid (M1.out.below b)
          clear b
          dsimp only
          refine bK hK ⟨M1.out.bel, M1.out.p, M1.out.o⟩ (fun hHeld => ?_)
          clear hK K
          refine bR 9 rfl (fun K hK => ?_)
          go_simp
          refine (index_any f (some ⟨b0, off, none⟩) n i (of j) V1 (by have := IV.out; omega) (by have := HIR.out; have := IV.out; omega)).mono ?_
          rintro e V2 ⟨rfl, b⟩
          replace M1 := Lib.hid (M1.out.below b)
          clear b
          dsimp only
          rw [HQ.out]
          refine bK hK ⟨M1.out.bel, M1.out.p, M1.out.o⟩ (fun hHeld => ?_)
          clear hK K
          have hql : q < f.kinds.length := HQL.out
          refine bW 10 rfl (.pointer (some ⟨b0, off + q, none⟩)) ?_
          clear hql
          refine bS 11 rfl (.int .i64 (f.kat q)) (fun W hW => by have c := RC.out W hW.1; go_simp) ?_
          refine bR 12 rfl (fun K hK => ?_)
          rw [if_pos (by kernel_rfl)]
          refine qbuild (w' := V2.alloc (.cells #[.int .i64 (f.kat q)] 3)) (.slice (some ⟨V2.heap.size, 0, none⟩) 1 1) (by kernel_rfl) ?_
          have L5 := Lib.hid (lit_int V2 (f.kat q))
          replace M1 := Lib.hid (M1.out.below (zB V2 (.cells #[.int .i64 (f.kat q)] 3)))
          obtain ⟨p5, hp5⟩ : ∃ z, Hid (V2.heap.size = z) := ⟨_, Lib.hid rfl⟩
          rw [hp5.out] at L5 ⊢
          generalize V2.alloc (.cells #[.int .i64 (f.kat q)] 3) = V3 at *
          refine bK hK ⟨M1.out.bel, M1.out.p, M1.out.o⟩ (fun hHeld => ?_)
          clear hK K
          refine bR 13 rfl (fun K hK => ?_)
          rw [if_pos (by kernel_rfl)]
          obtain ⟨a7, c7, V7, hrun, ho7, hk7, hb7⟩ := run_app_q V3 w.heap.size oa _ oc _ M1.out.own (some ⟨p5, 0, none⟩) 1 1 [f.kat q] L5.out (by have := MLB.out; omega) M1.out.bel.size
          refine qappend _ _ _ rfl _ _ _ rfl rfl hrun ?_
          clear hrun
          have F7 := Lib.hid (show Below w.heap.size w V7 ∧ V7.heap[p]? = some (.cells (f.cells (some ⟨b0, off, none⟩) n) 28 (0, 0)) ∧ V7.heap[o]? = some (.cells ((outF f s (mapR f s of i j)).cells oa oc) 28 (0, 0)) ∧ V7.heap[z]? = some (.cells (zeroF.cells none 0) 28 (0, 0)) from ⟨hb7 _ M1.out.bel, hk7 _ _ M1.out.p (by simp), hk7 _ _ M1.out.o (by simp), hk7 _ _ M1.out.z (by simp)⟩)
          have O7 := Lib.hid ho7
          clear hk7 hb7 ho7 M1 L5
          refine bK hK ⟨F7.out.1, F7.out.2.1, F7.out.2.2.1⟩ (fun hHeld => ?_)
          clear hK K
          refine bW 14 rfl (.pointer (some ⟨o, 3, none⟩)) ?_
          refine bL rfl (fun K hK => ?_)
          have hce := qcell F7.out.2.2.1 3 (.slice oa (mapR f s of i j).length oc) rfl
          have hfz := qfroz F7.out.2.2.1 3
          go_simp
          refine hK.out _ _ ?_
          clear hK K hce hfz hHeld
          refine bE ?_
          have HG := qput_grown V7 o 3 (.slice a7 ((mapR f s of i j).length + 1) c7)
          have M2 : Hid (MapAt w p z o f (some ⟨b0, off, none⟩) n s (mapR f s of i (j + 1)) a7 c7 (V7.setCell ⟨o, 3, none⟩ (.slice a7 ((mapR f s of i j).length + 1) c7))) := Lib.hid ⟨qstep F7.out.1 HG OGE.out.1, qgrown HG F7.out.2.1 (fun e => OGE.out.2.1 (Option.some.inj e).symm), qgrown HG F7.out.2.2.2 (fun e => OGE.out.2.2.1 (Option.some.inj e).symm), by
            rw [qput_at F7.out.2.2.1 3 _, mapR_next, hq.out]
            unfold outF FaceV.cells
            dsimp only
            rw [List.length_append]
            rfl, by
            rw [mapR_next, hq.out, List.length_append]
            exact O7.out.kept HG (.inr (qown_no O7.out F7.out.2.2.1 (by simp)).symm)⟩
          clear HG F7 O7
          generalize V7.setCell ⟨o, 3, none⟩ (.slice a7 ((mapR f s of i j).length + 1) c7) = V8 at *
          have hj64 : (j : Int) + 1 ≤ 9223372036854775807 := by have := HS.out; omega
          go_wp2_with fail
          go_roundw
          case rel => exact ⟨j + 1, a7, c7, by simp, by omega, M2⟩
          case measure => simp [intOf]; omega
        · have t0 : decide ((j : Int) < (s : Int)) = false := by simp; omega
          have e : j = s := by omega
          subst e
          have hi64 := HI64.out
          go_wp2_with fail
          go_roundw
          case rel =>
            refine ⟨i + 1, oa, oc, by simp, by omega, ?_⟩
            rw [mapR_zero, ← mapR_row]
            exact M1
          case measure => simp [intOf]; omega
    · have t0 : decide ((i : Int) < (f.R : Int)) = false := by simp; omega
      have e : i = f.R := by omega
      subst e
      clear hi64
      have e9 : outF f s (mapR f s of f.R 0) = mapF f s of := by rw [mapR_zero]; rfl
      have XO := Lib.hid M1.out.o
      have XZ := Lib.hid M1.out.z
      have OW := Lib.hid M1.out.own
      have BF := Lib.hid M1.out.bel
      rw [e9] at XO
      rw [mapR_zero] at OW
      clear M1 e9
      go_wp2_with (first
        | (refine wpList_load_row rfl 28 _ rfl o rfl 28 ((mapF f s of).cells oa oc) (0, 0) _ XO.out Tryz.underlying28 rfl (by exact (qJF (mapF f s of) oa oc)) ?_)
        | (refine wpList_qstore rfl 28 _ _ rfl z (zeroF.cells none 0) ((mapF f s of).cells oa oc) 28 rfl rfl XZ.out (by exact (qJF (mapF f s of) oa oc)) rfl (qone (mapF f s of) oa oc) ?_; intro VZ hzz hgz; replace BF := Lib.hid (qstep BF.out hgz (by have h1 := OGE.out; omega)); replace OW := Lib.hid (OW.out.kept hgz (.inr (qown_no OW.out XZ.out (by simp)).symm)); replace XZ := Lib.hid hzz; clear hzz hgz)
        | fail)
      (try simp only [Exit.inBlock, Exit.then])
      refine bodyPost_ret (results_cell_row rfl _ VZ z 28 ((mapF f s of).cells oa oc) (0, 0) _ rfl XZ.out Tryz.underlying28 rfl (by exact (qJF (mapF f s of) oa oc))) rfl ?_
      exact ⟨oa, oc, rfl, OW.out, BF.out⟩
end Go.Proofs.YtmpkglokhchpiaaGreatDoor
namespace Go.Proofs.YtmpkglokhchpiaaGreatDoor
open Go.RowKit

def strokesP (m : Int) (l : List Int) : Prop := ∀ i, i < l.length → inB (l[i]?.getD 0) 0 m = true ∧ (0 < i → l[i-1]?.getD 0 ≤ l[i]?.getD 0)
instance (m : Int) (l : List Int) : Decidable (strokesP m l) := by unfold strokesP; infer_instance
theorem int_ne {x y : Int} (h : ¬ x = y) : (x != y) = true := by simp [h]
theorem int_eq {x y : Int} (h : x = y) : (x != y) = false := by simp [h]
theorem ilist_ext {l m : List Int} (hl : l.length = m.length) (h : ∀ j, j < l.length → l[j]?.getD 0 = m[j]?.getD 0) : l = m := by
  apply List.ext_getElem hl
  intro i h1 h2
  have := h i h1
  simpa [List.getElem?_eq_getElem h1, List.getElem?_eq_getElem h2] using this

theorem eqInts_any (a : Option Addr) (n c : Nat) (l : List Int) (a' : Option Addr) (n' c' : Nat) (l' : List Int) (w : World) (hr : RdI w a n c l) (hr' : RdI w a' n' c' l') :
    Calls Tryz.prog 81 #[.slice a n c, .slice a' n' c'] w fun e w' => ∃ b : Bool, e = .returned (.bool b) ∧ (b = true ↔ l = l') ∧ ∃ q, w' = w.drewN q := by
  have hm := RdI.maxn hr
  have hl := Lib.hid hr.len
  have hl' := Lib.hid hr'.len
  by_cases hnn : n = n'
  · subst hnn
    go_enter Tryz.func81, Tryz.ntmps81
    go_wp2
    go_loopw [5, 13] (fun _ i wr => ∃ k : Nat, k ≤ n ∧ i = .int .i64 k ∧ (∀ j, j < k → l[j]?.getD 0 = l'[j]?.getD 0) ∧ ∃ q, wr = w.drewN q) (fun _ i _ => n - (intOf i).toNat)
    case atStart => exact ⟨0, Nat.zero_le _, rfl, fun j hj => by omega, 0, rfl⟩
    case round =>
      obtain ⟨k, hk, rfl, hrl, q, rfl⟩ := hrel
      have HR := Lib.hid hrl; clear hrl
      by_cases hlt : k < n
      · obtain ⟨b, off, rfl, hc⟩ := hr.at (by omega)
        obtain ⟨b', off', rfl, hc'⟩ := hr'.at (by omega)
        have hx := hc k hlt
        have hx' := hc' k hlt
        clear hc hc' hr hr'
        have hk64 : (k : Int) ≤ 9223372036854775807 := by omega
        by_cases he : l[k]?.getD 0 = l'[k]?.getD 0
        · have hb := int_eq he
          have HE := Lib.hid he; clear he
          go_wp2
          go_quiet (fail)
          go_wp2
          go_roundw
          case rel => exact ⟨k + 1, by omega, by go_num, fun j hj => by
            rcases Nat.lt_succ_iff_lt_or_eq.1 hj with h | h
            · exact HR.out j h
            · rw [h]; exact HE.out, _, rfl⟩
          case measure => simp [intOf]; omega
        · have hb := int_ne he
          have HE := Lib.hid he; clear he
          go_wp2
          go_quiet (fail)
          go_wp2
          go_ret
          exact ⟨false, rfl, ⟨fun h => by simp at h, fun h => absurd (by rw [h]) HE.out⟩, _, World.drewN_drewN _ _ _⟩
      · go_wp2
        go_ret
        have hkn : k = n := by omega
        exact ⟨true, rfl, ⟨fun _ => ilist_ext (by rw [hl.out, hl'.out]) (fun j hj => HR.out j (by rw [hl.out] at hj; omega)), fun _ => rfl⟩, _, rfl⟩
  · have hb : (((n : Nat) : Int) != ((n' : Nat) : Int)) = true := by rw [bne_iff_ne]; omega
    have hm' := RdI.maxn hr'
    have HN := Lib.hid hnn; clear hnn
    go_enter Tryz.func81, Tryz.ntmps81
    go_wp2
    go_ret
    exact ⟨false, rfl, ⟨fun h => by simp at h, fun h => absurd (by rw [← hl.out, ← hl'.out, h]) HN.out⟩, 0, rfl⟩

end Go.Proofs.YtmpkglokhchpiaaGreatDoor
namespace Go.Proofs.YtmpkglokhchpiaaGreatDoor
set_option linter.unusedSimpArgs false
set_option linter.unusedVariables false
open Go.RowKit

theorem sub_mod_r (x y n : Int) : (x - y % n) % n = (x - y) % n := by
  rw [Int.sub_emod, Int.emod_emod_of_dvd _ (Int.dvd_refl _), ← Int.sub_emod]
theorem sub_mod_l (x y n : Int) : (x % n - y) % n = (x - y) % n := by
  rw [Int.sub_emod, Int.emod_emod_of_dvd _ (Int.dvd_refl _), ← Int.sub_emod]
section
variable {f g : FaceV}
theorem face_ext (hf : f.valid = true) (hg : g.valid = true) (h1 : f.eye = g.eye) (h2 : f.rings = g.rings) (h3 : f.sectors = g.sectors) (h : ∀ i j : Nat, i < f.R → j < f.S → f.kat (i * f.S + j) = g.kat (i * f.S + j)) : f = g := by
  obtain ⟨_, _, _, _, e5, _, e7⟩ := FaceV.nat hf
  obtain ⟨_, _, _, _, _, _, g7⟩ := FaceV.nat hg
  have eR : g.R = f.R := by unfold FaceV.R; rw [h2]
  have eS : g.S = f.S := by unfold FaceV.S; rw [h3]
  rw [eR, eS] at g7
  have hk : f.kinds = g.kinds := by
    refine List.ext_getElem (by rw [e7, g7]) fun n hn1 hn2 => ?_
    have hn : n < f.R * f.S := by rw [← e7]; exact hn1
    have hdiv : n / f.S < f.R := Nat.div_lt_of_lt_mul (by rw [Nat.mul_comm]; exact hn)
    have hmod : n % f.S < f.S := Nat.mod_lt _ (by omega)
    have he : n / f.S * f.S + n % f.S = n := by rw [Nat.mul_comm]; exact Nat.div_add_mod n f.S
    have := h _ _ hdiv hmod
    rw [he] at this
    unfold FaceV.kat at this
    rw [List.getElem?_eq_getElem hn1, List.getElem?_eq_getElem hn2] at this
    exact this
  cases f
  cases g
  simp only [FaceV.mk.injEq] at *
  exact ⟨h1, h2, h3, hk⟩
theorem turn_valid (h : f.valid = true) (a : Int) : (turnF f a).valid = true := mapF_valid h f.S ⟨(FaceV.nat h).2.2.2.2.1, (FaceV.nat h).2.2.2.2.2.1⟩ _
theorem mirror_valid (h : f.valid = true) : (mirrorF f).valid = true := mapF_valid h f.S ⟨(FaceV.nat h).2.2.2.2.1, (FaceV.nat h).2.2.2.2.2.1⟩ _
theorem turn_size (h : f.valid = true) (a : Int) : (turnF f a).eye = f.eye ∧ (turnF f a).rings = f.rings ∧ (turnF f a).sectors = f.sectors ∧ (turnF f a).R = f.R ∧ (turnF f a).S = f.S :=
  ⟨rfl, rfl, (FaceV.nat h).2.1.symm, rfl, rfl⟩
theorem mirror_size (h : f.valid = true) : (mirrorF f).eye = f.eye ∧ (mirrorF f).rings = f.rings ∧ (mirrorF f).sectors = f.sectors ∧ (mirrorF f).R = f.R ∧ (mirrorF f).S = f.S :=
  ⟨rfl, rfl, (FaceV.nat h).2.1.symm, rfl, rfl⟩
theorem turn_kat (h : f.valid = true) (a : Int) {i j : Nat} (hi : i < f.R) (hj : j < f.S) : (turnF f a).kat (i * f.S + j) = f.kat (i * f.S + (((j : Int) - a) % (f.S : Int)).toNat) := by
  unfold turnF
  rw [mapF_kat f.S _ hi hj, indexF_eq h, Int.toNat_natCast]
  unfold around
  rw [(FaceV.nat h).2.1, sub_mod_r]
theorem mirror_kat (h : f.valid = true) {i j : Nat} (hi : i < f.R) (hj : j < f.S) : (mirrorF f).kat (i * f.S + j) = f.kat (i * f.S + (f.S - 1 - j)) := by
  unfold mirrorF
  rw [mapF_kat f.S _ hi hj, indexF_eq h, Int.toNat_natCast, (FaceV.nat h).2.1, Int.emod_eq_of_lt (by omega) (by omega)]
  congr 2
  omega
theorem turn_turn (h : f.valid = true) (a b : Int) : turnF (turnF f a) b = turnF f (a + b) := by
  have ha := turn_valid h a
  obtain ⟨s1, s2, s3, s4, s5⟩ := turn_size h a
  obtain ⟨t1, t2, t3, t4, t5⟩ := turn_size ha b
  obtain ⟨u1, u2, u3, u4, u5⟩ := turn_size h (a + b)
  refine face_ext (turn_valid ha b) (turn_valid h (a + b)) rfl rfl (by rw [t3, s3, u3]) fun i j hi hj => ?_
  rw [t4, s4] at hi
  rw [t5, s5] at hj ⊢
  have e1 := turn_kat ha b (i := i) (j := j) (by rw [s4]; exact hi) (by rw [s5]; exact hj)
  rw [s5] at e1
  rw [e1, turn_kat h (a + b) hi hj, turn_kat h a hi (rot_lt h _)]
  congr 2
  have := Int.emod_nonneg ((j : Int) - b) (show (f.S : Int) ≠ 0 by have := (FaceV.nat h).2.2.2.2.1; omega)
  rw [Int.toNat_of_nonneg this, sub_mod_l, show (j : Int) - b - a = j - (a + b) by omega]
theorem turn_dvd (h : f.valid = true) {a : Int} (ha : a % f.sectors = 0) : turnF f a = f := by
  obtain ⟨s1, s2, s3, s4, s5⟩ := turn_size h a
  refine face_ext (turn_valid h a) h rfl rfl s3 fun i j hi hj => ?_
  rw [s4] at hi
  rw [s5] at hj ⊢
  rw [turn_kat h a hi hj, ← sub_mod_r]
  rw [(FaceV.nat h).2.1] at ha
  rw [ha, Int.sub_zero, Int.emod_eq_of_lt (by omega) (by omega), Int.toNat_natCast]
theorem turn_mod (h : f.valid = true) (a : Int) : turnF f (a % f.sectors) = turnF f a := by
  unfold turnF around
  rw [Int.emod_emod_of_dvd _ (Int.dvd_refl _)]
theorem mirror_mirror (h : f.valid = true) : mirrorF (mirrorF f) = f := by
  have hm := mirror_valid h
  obtain ⟨s1, s2, s3, s4, s5⟩ := mirror_size h
  obtain ⟨t1, t2, t3, t4, t5⟩ := mirror_size hm
  refine face_ext (mirror_valid hm) h rfl rfl (by rw [t3, s3]) fun i j hi hj => ?_
  rw [t4, s4] at hi
  rw [t5, s5] at hj ⊢
  have e1 := mirror_kat hm (i := i) (j := j) (by rw [s4]; exact hi) (by rw [s5]; exact hj)
  rw [s5] at e1
  rw [e1, mirror_kat h hi (by omega)]
  congr 2
  omega
theorem turn_mirror (h : f.valid = true) (a : Int) : turnF (mirrorF f) a = mirrorF (turnF f (-a)) := by
  have hm := mirror_valid h
  have ht := turn_valid h (-a)
  obtain ⟨s1, s2, s3, s4, s5⟩ := mirror_size h
  obtain ⟨t1, t2, t3, t4, t5⟩ := turn_size hm a
  obtain ⟨u1, u2, u3, u4, u5⟩ := turn_size h (-a)
  obtain ⟨v1, v2, v3, v4, v5⟩ := mirror_size ht
  have hS := (FaceV.nat h).2.2.2.2.1
  refine face_ext (turn_valid hm a) (mirror_valid ht) rfl rfl (by rw [t3, s3, v3, u3]) fun i j hi hj => ?_
  rw [t4, s4] at hi
  rw [t5, s5] at hj ⊢
  have e1 := turn_kat hm a (i := i) (j := j) (by rw [s4]; exact hi) (by rw [s5]; exact hj)
  have e2 := mirror_kat ht (i := i) (j := j) (by rw [u4]; exact hi) (by rw [u5]; exact hj)
  rw [s5] at e1
  rw [u5] at e2
  rw [e1, e2, mirror_kat h hi (rot_lt h _), turn_kat h (-a) hi (by omega)]
  congr 2
  have h1 := Int.emod_nonneg ((j : Int) - a) (show (f.S : Int) ≠ 0 by omega)
  have h2 := Int.emod_lt_of_pos ((j : Int) - a) (show (0 : Int) < f.S by omega)
  have h3 : ((f.S - 1 - j : Nat) : Int) - -a = ((f.S : Int) - 1) - ((j : Int) - a) := by omega
  rw [h3, ← sub_mod_r ((f.S : Int) - 1) ((j : Int) - a) (f.S : Int), Int.emod_eq_of_lt (a := (f.S : Int) - 1 - ((j : Int) - a) % (f.S : Int)) (by omega) (by omega)]
  omega
end
end Go.Proofs.YtmpkglokhchpiaaGreatDoor
namespace Go.Proofs.YtmpkglokhchpiaaGreatDoor
set_option linter.unusedSimpArgs false
set_option linter.unusedVariables false
open Go.RowKit

theorem nodup_len {α} [DecidableEq α] : ∀ {l l2 : List α}, l.Nodup → (∀ x ∈ l, x ∈ l2) → l.length ≤ l2.length
  | [], _, _, _ => Nat.zero_le _
  | x :: l, l2, hn, hs => by
    rw [List.nodup_cons] at hn
    have hx := hs x (List.mem_cons_self ..)
    have := nodup_len (l2 := l2.erase x) hn.2 fun y hy => (List.mem_erase_of_ne (fun e => hn.1 (by rw [← e]; exact hy))).2 (hs y (List.mem_cons_of_mem _ hy))
    rw [List.length_erase_of_mem hx] at this
    have := List.length_pos_of_mem hx
    rw [List.length_cons]
    omega
theorem inj_count {m n : Nat} {P Q : Nat → Bool} (H : Nat → Nat → Prop) (hh : ∀ r, r < m → P r = true → ∃ s, s < n ∧ Q s = true ∧ H r s) (hi : ∀ r r' s, r < m → r' < m → H r s → H r' s → r = r') : ((List.range m).filter P).length ≤ ((List.range n).filter Q).length := by
  have hc : ∀ r : Nat, ∃ s : Nat, r < m → P r = true → s < n ∧ Q s = true ∧ H r s := fun r => by
    by_cases h : r < m ∧ P r = true
    · obtain ⟨s, hs⟩ := hh r h.1 h.2
      exact ⟨s, fun _ _ => hs⟩
    · exact ⟨0, fun h1 h2 => absurd ⟨h1, h2⟩ h⟩
  obtain ⟨h, hf⟩ := Classical.axiomOfChoice hc
  have e : ((List.range m).filter P).length = (((List.range m).filter P).map h).length := by rw [List.length_map]
  rw [e]
  refine nodup_len ?_ fun s hs => ?_
  · unfold List.Nodup
    rw [List.pairwise_map, List.pairwise_filter]
    have := List.nodup_range (n := m)
    refine List.Pairwise.imp_of_mem ?_ this
    intro a b ha hb hab pa pb e
    rw [List.mem_range] at ha hb
    exact hab (hi a b (h a) ha hb (hf a ha pa).2.2 (by rw [e]; exact (hf b hb pb).2.2))
  · obtain ⟨r, hr, rfl⟩ := List.mem_map.1 hs
    rw [List.mem_filter, List.mem_range] at hr
    obtain ⟨h1, h2, _⟩ := hf r hr.1 hr.2
    exact List.mem_filter.2 ⟨List.mem_range.2 h1, h2⟩
def deadB (f : FaceV) (cs : List Int) : Bool := !decide (f.kat (cs.head?.getD 0).toNat = 0) && decide (cs.getLast?.getD 0 < (f.rings - 1) * f.sectors)
def deadF (f : FaceV) : List Int := (List.range (regListF f).length).filterMap fun (n : Nat) => if deadB f ((regListF f)[n]?.getD []) = true then some (n : Int) else none
def regionsP (f : FaceV) : List (List Int) × Int := if f.valid = true then (regListF f, 0) else ([], 10)
def deadP (f : FaceV) : List Int × Int := if f.valid = true then (deadF f, 0) else ([], 10)
section
variable {f g : FaceV}
theorem regAt_mem {o : OfM} {r : Int} {k : Nat} {x : Int} : x ∈ regAt f o r k ↔ o x = some r ∧ 0 ≤ x ∧ x < k := by
  unfold regAt
  rw [List.mem_filterMap]
  constructor
  · rintro ⟨j, hj, e⟩
    rw [List.mem_range] at hj
    split at e
    · rename_i h
      cases e
      exact ⟨h, by omega, by omega⟩
    · cases e
  · rintro ⟨h1, h2, h3⟩
    refine ⟨x.toNat, List.mem_range.2 (by omega), ?_⟩
    rw [Int.toNat_of_nonneg h2, if_pos h1]
theorem regAt_sorted {o : OfM} {r : Int} {k : Nat} : (regAt f o r k).Pairwise (· < ·) := by
  unfold regAt
  rw [List.pairwise_filterMap]
  refine List.Pairwise.imp ?_ (List.pairwise_lt_range (n := k))
  intro a b hab x hx y hy
  split at hx
  · split at hy
    · cases hx; cases hy; omega
    · cases hy
  · cases hx
theorem regF (hv : f.valid = true) : RgK f f.kinds.length (regionsF f).1 (regionsF f).2 := regionsN_spec hv _ (Nat.le_refl _)
theorem regList_len : (regListF f).length = (regionsF f).2.toNat := by unfold regListF; rw [List.length_map, List.length_range]
theorem regList_at {n : Nat} (h : n < (regionsF f).2.toNat) : (regListF f)[n]? = some (regAt f (regionsF f).1 n f.kinds.length) := by
  unfold regListF
  rw [List.getElem?_map, List.getElem?_range h]
  rfl
theorem reg_head (hv : f.valid = true) {n : Nat} (h : n < (regionsF f).2.toNat) : ∃ x, (regAt f (regionsF f).1 n f.kinds.length).head? = some x ∧ (regionsF f).1 x = some (n : Int) ∧ ∀ z, (regionsF f).1 z = some (n : Int) → x ≤ z := by
  have R := regF hv
  obtain ⟨j, j1, j2, j3⟩ := R.fst n (by omega) (by omega)
  have hm : (j : Int) ∈ regAt f (regionsF f).1 n f.kinds.length := regAt_mem.2 ⟨j2, by omega, by omega⟩
  have hs := regAt_sorted (f := f) (o := (regionsF f).1) (r := n) (k := f.kinds.length)
  have hin : ∀ z ∈ regAt f (regionsF f).1 n f.kinds.length, (regionsF f).1 z = some (n : Int) := fun z hz => (regAt_mem.1 hz).1
  generalize regAt f (regionsF f).1 n f.kinds.length = cs at *
  cases cs with
  | nil => cases hm
  | cons x l =>
    have hx := hin x (List.mem_cons_self ..)
    refine ⟨x, rfl, hx, fun z hz => ?_⟩
    have h1 := j3 z hz
    rcases List.mem_cons.1 hm with e | e
    · omega
    · have := (List.pairwise_cons.1 hs).1 _ e
      omega
theorem dead_iff (hv : f.valid = true) {n : Nat} (h : n < (regionsF f).2.toNat) : deadB f ((regListF f)[n]?.getD []) = true ↔ ∀ x, (regionsF f).1 x = some (n : Int) → landB f x = false ∧ x < (f.rings - 1) * f.sectors := by
  have R := regF hv
  rw [regList_at h, Option.getD_some]
  unfold deadB
  obtain ⟨x, h1, h2, h3⟩ := reg_head hv h
  have hs := regAt_sorted (f := f) (o := (regionsF f).1) (r := n) (k := f.kinds.length)
  have hmem : ∀ z, z ∈ regAt f (regionsF f).1 n f.kinds.length ↔ (regionsF f).1 z = some (n : Int) := fun z => ⟨fun hz => (regAt_mem.1 hz).1, fun hz => regAt_mem.2 ⟨hz, (R.rg.inr z n hz).1.1, (R.rg.inr z n hz).1.2⟩⟩
  generalize regAt f (regionsF f).1 n f.kinds.length = cs at *
  rw [h1, Option.getD_some]
  rcases List.eq_nil_or_concat cs with e | ⟨ws, y, e⟩
  · subst e; cases h1
  · rw [List.concat_eq_append] at e
    subst e
    rw [List.getLast?_append, List.getLast?_singleton, Option.some_or, Option.getD_some, Bool.and_eq_true]
    have hlast : ∀ z, (regionsF f).1 z = some (n : Int) → z ≤ y := fun z hz => by
      have := (hmem z).2 hz
      rcases List.mem_append.1 this with hz2 | hz2
      · have := (List.pairwise_append.1 hs).2.2 z hz2 y (List.mem_singleton.2 rfl)
        omega
      · rw [List.mem_singleton.1 hz2]; exact Int.le_refl _
    have hy : (regionsF f).1 y = some (n : Int) := (hmem y).1 (List.mem_append_right _ (List.mem_singleton.2 rfl))
    have hland : ∀ z, (regionsF f).1 z = some (n : Int) → landB f z = landB f x := fun z hz => (R.rg.co x z n h2 hz).land
    constructor
    · rintro ⟨a, b⟩
      intro z hz
      refine ⟨?_, ?_⟩
      · rw [hland z hz]
        unfold landB
        simpa using a
      · have := hlast z hz
        have b := of_decide_eq_true b
        omega
    · intro hall
      have a := (hall x h2).1
      have b := (hall y hy).2
      refine ⟨?_, decide_eq_true b⟩
      unfold landB at a
      rw [a]
      rfl
def Hom (f g : FaceV) (φ : Int → Int) : Prop := ∀ x, InF f x → InF g (φ x) ∧ landB g (φ x) = landB f x ∧ (φ x / g.sectors = x / f.sectors) ∧ ∀ y ∈ neighF f x, φ y ∈ neighF g (φ x)
theorem Hom.reach {φ : Int → Int} (hf : f.valid = true) (h : Hom f g φ) {x y : Int} (hr : Reach f x y) (hx : InF f x) : Reach g (φ x) (φ y) := by
  induction hr with
  | refl => exact .refl _
  | step h2 h3 h4 ih =>
    have hy := h2.inF hf hx
    have hz := (neigh_in hf hy h3).1
    exact ih.step ((h _ hy).2.2.2 _ h3) (by rw [(h _ hz).2.1, (h _ hy).2.1, h4])
theorem low_iff (hf : f.valid = true) (x : Int) : x < (f.rings - 1) * f.sectors ↔ x / f.sectors < f.rings - 1 := by
  have := FaceV.int hf
  exact (Int.ediv_lt_iff_lt_mul (by omega)).symm
theorem hom_count {φ ψ : Int → Int} (hf : f.valid = true) (hg : g.valid = true) (er : f.rings = g.rings) (h1 : Hom f g φ) (h2 : Hom g f ψ) (e1 : ∀ x, InF f x → ψ (φ x) = x) (e2 : ∀ y, InF g y → φ (ψ y) = y) :
    (regionsF f).2.toNat ≤ (regionsF g).2.toNat ∧ (deadF f).length ≤ (deadF g).length := by
  have F := regF hf
  have G := regF hg
  have key : ∀ (P Q : Nat → Bool), (∀ r s : Nat, r < (regionsF f).2.toNat → s < (regionsF g).2.toNat → (∃ x, (regionsF f).1 x = some (r : Int) ∧ (regionsF g).1 (φ x) = some (s : Int)) → P r = true → Q s = true) → ((List.range (regionsF f).2.toNat).filter P).length ≤ ((List.range (regionsF g).2.toNat).filter Q).length := fun P Q hPQ => by
    refine inj_count (fun r s => ∃ x, (regionsF f).1 x = some (r : Int) ∧ (regionsF g).1 (φ x) = some (s : Int)) (fun r hr hp => ?_) (fun r r' s hr hr' => ?_)
    · obtain ⟨j, j1, j2, j3⟩ := F.fst r (by omega) (by omega)
      have hx := (F.rg.inr _ _ j2).1
      have hy := (h1 _ hx).1
      have := G.dn (φ j).toNat (by have := hy.1; have := hy.2; omega)
      rw [Int.toNat_of_nonneg hy.1] at this
      obtain ⟨s, hs⟩ := Option.isSome_iff_exists.1 this
      have hs2 := (G.rg.inr _ _ hs).2
      have hs3 : (regionsF g).1 (φ j) = some ((s.toNat : Nat) : Int) := by rw [Int.toNat_of_nonneg hs2.1]; exact hs
      exact ⟨s.toNat, by omega, hPQ r s.toNat hr (by omega) ⟨j, j2, hs3⟩ hp, ⟨j, j2, hs3⟩⟩
    · rintro ⟨x, a1, a2⟩ ⟨y, b1, b2⟩
      have hx := (F.rg.inr _ _ a1).1
      have hy := (F.rg.inr _ _ b1).1
      have hr := h2.reach hg (G.rg.co _ _ _ a2 b2) (h1 x hx).1
      rw [e1 x hx, e1 y hy] at hr
      have := F.rg.reach a1 hr
      rw [b1] at this
      cases this
      rfl
  have all : ∀ (m : Nat), ((List.range m).filter fun _ => true).length = m := fun m => by rw [List.filter_eq_self.2 (fun _ _ => rfl), List.length_range]
  have dl : ∀ (f : FaceV), (deadF f).length = ((List.range (regionsF f).2.toNat).filter fun n => deadB f ((regListF f)[n]?.getD [])).length := fun f => by
    unfold deadF
    rw [regList_len]
    generalize List.range (regionsF f).2.toNat = l
    induction l with
    | nil => rfl
    | cons a l ih =>
      rw [List.filterMap_cons, List.filter_cons]
      by_cases hd : deadB f ((regListF f)[a]?.getD []) = true
      · rw [if_pos hd, if_pos hd, List.length_cons, List.length_cons, ih]
      · rw [if_neg hd, if_neg hd, ih]
  refine ⟨?_, ?_⟩
  · have := key (fun _ => true) (fun _ => true) (fun _ _ _ _ _ _ => rfl)
    rwa [all, all] at this
  · rw [dl f, dl g]
    refine key _ _ fun r s hr hs => ?_
    rintro ⟨x, a1, a2⟩ hp
    rw [dead_iff hf hr] at hp
    rw [dead_iff hg hs]
    intro y hy
    have hx := (F.rg.inr _ _ a1).1
    have hr2 := h2.reach hg (G.rg.co _ _ _ a2 hy) (h1 x hx).1
    rw [e1 x hx] at hr2
    have hp2 := hp _ (F.rg.reach a1 hr2)
    have hyi := (G.rg.inr _ _ hy).1
    have hψ := h2 y hyi
    refine ⟨by rw [← hψ.2.1]; exact hp2.1, ?_⟩
    rw [low_iff hg, ← hψ.2.2.1, ← er, ← low_iff hf]
    exact hp2.2
def rotI (f : FaceV) (a x : Int) : Int := indexF f (cellF f x).1 ((cellF f x).2 + a)
theorem rot_cell (hf : f.valid = true) (a : Int) {x : Int} : cellF f (rotI f a x) = ((cellF f x).1, around ((cellF f x).2 + a) f.sectors) := indexF_cell hf _ _
theorem around_add (x y n : Int) : around (around x n + y) n = around (x + y) n := Int.emod_add_emod x n y
theorem rot_rot (hf : f.valid = true) (a b : Int) (x : Int) : rotI f b (rotI f a x) = rotI f (a + b) x := by
  unfold rotI
  rw [indexF_cell hf]
  dsimp only
  unfold indexF
  rw [around_add, Int.add_assoc]
theorem rot_zero (hf : f.valid = true) {x : Int} (hx : InF f x) : rotI f 0 x = x := by
  unfold rotI
  rw [Int.add_zero]
  exact (cellF_has hf hx).2
theorem rot_hom (hf : f.valid = true) (a : Int) : Hom f (turnF f a) (rotI f a) := by
  have ht := turn_valid hf a
  obtain ⟨s1, s2, s3, s4, s5⟩ := turn_size hf a
  have hl : (turnF f a).kinds.length = f.kinds.length := by
    have h1 := (FaceV.int hf).2.2.2.2
    have h2 := (FaceV.int ht).2.2.2.2
    rw [s2, s3] at h2
    omega
  have ec : ∀ x, cellF (turnF f a) x = cellF f x := fun x => by unfold cellF; rw [s3]
  have ei : ∀ r s, indexF (turnF f a) r s = indexF f r s := fun r s => by unfold indexF; rw [s3]
  have eh : ∀ c, hasF (turnF f a) c = hasF f c := fun c => by unfold hasF; rw [s3, s2]
  have eb : ∀ c x, BesideF (turnF f a) c x ↔ BesideF f c x := fun c x => by unfold BesideF; rw [s3, s2]
  intro x hx
  obtain ⟨k1, k2⟩ := cellF_has hf hx
  have hc := hasF_iff.1 k1
  have hal := around_lt hf ((cellF f x).2 + a)
  have hin := index_lt hf hc.1 ((cellF f x).2 + a)
  refine ⟨⟨hin.1, by rw [hl]; exact hin.2⟩, ?_, ?_, fun y hy => ?_⟩
  · unfold landB
    have hn := FaceV.nat hf
    have hxi := hx
    obtain ⟨i, hi⟩ : ∃ i : Nat, (cellF f x).1 = i := ⟨(cellF f x).1.toNat, (Int.toNat_of_nonneg hc.1.1).symm⟩
    obtain ⟨j, hj⟩ : ∃ j : Nat, (cellF f x).2 = j := ⟨(cellF f x).2.toNat, (Int.toNat_of_nonneg hc.2.1).symm⟩
    have hiR : i < f.R := by omega
    have hjS : j < f.S := by omega
    have e1 : (rotI f a x).toNat = i * f.S + (((j : Int) + a) % (f.S : Int)).toNat := by
      unfold rotI
      rw [hi, hj, indexF_eq hf, Int.toNat_natCast]
    have e2 : x.toNat = i * f.S + j := by
      rw [← k2, hi, hj, indexF_eq hf, Int.toNat_natCast, Int.emod_eq_of_lt (by omega) (by omega), Int.toNat_natCast]
    rw [e1, e2, turn_kat hf a hiR (rot_lt hf _)]
    have h0 := Int.emod_nonneg ((j : Int) + a) (show (f.S : Int) ≠ 0 by omega)
    rw [Int.toNat_of_nonneg h0, sub_mod_l, show (j : Int) + a - a = j by omega, Int.emod_eq_of_lt (by omega) (by omega), Int.toNat_natCast]
  · have := congrArg Prod.fst (rot_cell hf a (x := x))
    rw [s3]
    exact this
  · rw [← k2] at hy
    obtain ⟨z, hz, rfl⟩ := (neigh_mem hf k1).1 hy
    have hzh := beside_has hf k1 hz
    have hz2 := hasF_iff.1 hzh
    have e3 : rotI f a (indexF f z.1 z.2) = indexF f z.1 (around (z.2 + a) f.sectors) := by
      unfold rotI
      rw [indexF_cell hf, around_eq hf (by omega), indexF_around hf]
    have e4 : rotI f a x = indexF f (cellF f x).1 (around ((cellF f x).2 + a) f.sectors) := by
      unfold rotI
      rw [indexF_around hf]
    rw [e3, e4]
    have hh : hasF (turnF f a) ((cellF f x).1, around ((cellF f x).2 + a) f.sectors) = true := by
      rw [eh, hasF_iff]
      exact ⟨hc.1, by dsimp only; omega⟩
    have := (neigh_mem ht hh (n := indexF f z.1 (around (z.2 + a) f.sectors))).2 ⟨(z.1, around (z.2 + a) f.sectors), (eb _ _).2 ?_, (ei _ _).symm⟩
    · rw [ei] at this
      exact this
    · rcases hz with ⟨p1, p2 | p2⟩ | ⟨p1, p2⟩
      · refine .inl ⟨p1, .inl ?_⟩
        show around (z.2 + a) f.sectors = around (around ((cellF f x).2 + a) f.sectors - 1) f.sectors
        rw [p2, around_add, show ∀ u v : Int, around (around u f.sectors - v) f.sectors = around (u - v) f.sectors from fun u v => sub_mod_l u v _]
        congr 1
        omega
      · refine .inl ⟨p1, .inr ?_⟩
        show around (z.2 + a) f.sectors = around (around ((cellF f x).2 + a) f.sectors + 1) f.sectors
        rw [p2, around_add, around_add]
        congr 1
        omega
      · refine .inr ⟨?_, p2⟩
        show around (z.2 + a) f.sectors = around ((cellF f x).2 + a) f.sectors
        rw [p1]
theorem turn_counts (hf : f.valid = true) (a : Int) : (regListF (turnF f a)).length = (regListF f).length ∧ (deadF (turnF f a)).length = (deadF f).length := by
  have ht := turn_valid hf a
  obtain ⟨s1, s2, s3, s4, s5⟩ := turn_size hf a
  have hback : turnF (turnF f a) (-a) = f := by
    rw [turn_turn hf, show a + -a = 0 by omega]
    exact turn_dvd hf (Int.zero_emod _)
  have H1 := rot_hom hf a
  have H2 := rot_hom ht (-a)
  rw [hback] at H2
  have er : ∀ b x, rotI (turnF f a) b x = rotI f b x := fun b x => by unfold rotI indexF cellF; rw [s3]
  have E1 : ∀ x, InF f x → rotI (turnF f a) (-a) (rotI f a x) = x := fun x hx => by rw [er, rot_rot hf, show a + -a = 0 by omega, rot_zero hf hx]
  have E2 : ∀ x, InF (turnF f a) x → rotI f a (rotI (turnF f a) (-a) x) = x := fun x hx => by rw [← er a, rot_rot ht, show -a + a = 0 by omega, rot_zero ht hx]
  obtain ⟨c1, c2⟩ := hom_count hf ht s2.symm H1 H2 E1 E2
  obtain ⟨d1, d2⟩ := hom_count ht hf s2 H2 H1 E2 E1
  rw [regList_len, regList_len]
  omega
end
end Go.Proofs.YtmpkglokhchpiaaGreatDoor
namespace Go.Proofs.YtmpkglokhchpiaaGreatDoor
set_option linter.unusedSimpArgs false
set_option linter.unusedVariables false
open Go.RowKit

def furrowB (f : FaceV) (cs : List Int) : Bool := !decide (f.kat (cs.head?.getD 0).toNat = 0)
theorem sorted_mem_eq {u v : List Int} (hu : u.Pairwise (· < ·)) (hv : v.Pairwise (· < ·)) (h : ∀ x, x ∈ u ↔ x ∈ v) : u = v := sortedZ_eq hu hv h
section
variable {f : FaceV}
theorem regList_mem {cs : List Int} : cs ∈ regListF f ↔ ∃ n : Nat, n < (regionsF f).2.toNat ∧ cs = regAt f (regionsF f).1 n f.kinds.length := by
  unfold regListF
  rw [List.mem_map]
  constructor
  · rintro ⟨n, hn, rfl⟩; exact ⟨n, List.mem_range.1 hn, rfl⟩
  · rintro ⟨n, hn, rfl⟩; exact ⟨n, List.mem_range.2 hn, rfl⟩
theorem regList_iff (hv : f.valid = true) {cs : List Int} : cs ∈ regListF f ↔ ∃ x, InF f x ∧ cs.Pairwise (· < ·) ∧ ∀ y, y ∈ cs ↔ Reach f x y := by
  have R := regF hv
  rw [regList_mem]
  constructor
  · rintro ⟨n, hn, rfl⟩
    obtain ⟨j, j1, j2, j3⟩ := R.fst n (by omega) (by omega)
    refine ⟨j, (R.rg.inr _ _ j2).1, regAt_sorted, fun y => ?_⟩
    rw [regAt_mem]
    constructor
    · intro h; exact R.rg.co _ _ _ j2 h.1
    · intro h
      have := R.rg.reach j2 h
      exact ⟨this, (R.rg.inr _ _ this).1⟩
  · rintro ⟨x, hx, hs, hm⟩
    have := R.dn x.toNat (by have := hx.1; have := hx.2; omega)
    rw [Int.toNat_of_nonneg hx.1] at this
    obtain ⟨r, hr⟩ := Option.isSome_iff_exists.1 this
    have hr2 := (R.rg.inr _ _ hr).2
    have er : ((r.toNat : Nat) : Int) = r := Int.toNat_of_nonneg hr2.1
    refine ⟨r.toNat, by omega, sorted_mem_eq hs regAt_sorted fun y => ?_⟩
    rw [hm, regAt_mem, er]
    constructor
    · intro h
      have := R.rg.reach hr h
      exact ⟨this, (R.rg.inr _ _ this).1⟩
    · intro h; exact R.rg.co _ _ _ hr h.1
theorem head_of (hs : List Int) {x : Int} (h : hs.head? = some x) : x ∈ hs := by
  cases hs with
  | nil => cases h
  | cons a l => cases h; exact List.mem_cons_self ..
theorem reg_kind (hv : f.valid = true) {cs : List Int} {x : Int} (hx : InF f x) (hs : cs.Pairwise (· < ·)) (hm : ∀ y, y ∈ cs ↔ Reach f x y) :
    (furrowB f cs = true ↔ landB f x = false) ∧ (deadB f cs = true ↔ landB f x = false ∧ ∀ y, Reach f x y → y < (f.rings - 1) * f.sectors) := by
  have hc : x ∈ cs := (hm x).2 (.refl x)
  obtain ⟨a, ha⟩ : ∃ a, cs.head? = some a := by
    cases cs with
    | nil => cases hc
    | cons a l => exact ⟨a, rfl⟩
  have har := (hm a).1 (head_of _ ha)
  have hf : furrowB f cs = true ↔ landB f x = false := by
    unfold furrowB
    rw [ha, Option.getD_some, ← har.land]
    unfold landB
    simp
  refine ⟨hf, ?_⟩
  unfold deadB
  rw [Bool.and_eq_true]
  have e : (!decide (f.kat (cs.head?.getD 0).toNat = 0)) = furrowB f cs := rfl
  rw [e, hf, decide_eq_true_eq]
  refine and_congr_right fun _ => ?_
  rcases List.eq_nil_or_concat cs with e | ⟨ws, y, e⟩
  · subst e; cases hc
  · rw [List.concat_eq_append] at e
    subst e
    rw [List.getLast?_append, List.getLast?_singleton, Option.some_or, Option.getD_some]
    constructor
    · intro h z hz
      rcases List.mem_append.1 ((hm z).2 hz) with hz2 | hz2
      · have := (List.pairwise_append.1 hs).2.2 z hz2 y (List.mem_singleton.2 rfl)
        omega
      · rw [List.mem_singleton.1 hz2]; exact h
    · intro h
      exact h y ((hm y).1 (List.mem_append_right _ (List.mem_singleton.2 rfl)))
theorem deadF_mem {n : Int} : n ∈ deadF f ↔ ∃ k : Nat, k < (regListF f).length ∧ n = k ∧ deadB f ((regListF f)[k]?.getD []) = true := by
  unfold deadF
  rw [List.mem_filterMap]
  constructor
  · rintro ⟨k, hk, e⟩
    split at e
    · rename_i h; cases e; exact ⟨k, List.mem_range.1 hk, rfl, h⟩
    · cases e
  · rintro ⟨k, hk, rfl, h⟩
    exact ⟨k, List.mem_range.2 hk, by rw [if_pos h]⟩
end
end Go.Proofs.YtmpkglokhchpiaaGreatDoor
namespace Go.Proofs.YtmpkglokhchpiaaGreatDoor
set_option linter.unusedSimpArgs false
set_option linter.unusedVariables false
open Go.RowKit

structure FurV where
  at_ : Int
  from_ : Int
  lean : Int
  leans : Int
  steep : Int
  feather : Int
  deriving DecidableEq
structure PatV where
  eye : Int
  rings : Int
  harps : Int
  wide : Int
  furs : List FurV
def furB (p : PatV) (x : FurV) : Bool := inB x.at_ 0 (p.wide - 1) && (inB x.from_ 0 (p.rings - 1) && (inB x.lean (-96) 96 && (inB x.leans 1 96 && (inB x.steep 1 p.wide && (inB x.feather 0 p.wide && decide (x.steep + x.feather < p.wide))))))
def PatV.valid (p : PatV) : Bool := (inB p.eye 1 16 && (inB p.rings 1 24 && (inB p.harps 1 96 && (inB p.wide 1 96 && (inB (p.harps * p.wide) 2 96 && decide (p.furs.length ≤ 16)))))) && p.furs.all (furB p)
abbrev Cuts := List (Int × Int)
def putE (l : List Int) (e : Int × Int) : List Int := if l[e.1.toNat]?.getD 0 = 0 then l.set e.1.toNat e.2 else l
def leanF (rings : Int) (x : FurV) (ring : Int) : Int := ((rings - 1 - ring) * x.lean) / x.leans
def wideF (x : FurV) : Nat := (x.steep + x.feather).toNat
def cutE (f : FaceV) (x : FurV) (ring first : Int) : Cuts := (List.range (wideF x)).map fun (n : Nat) => (indexF f ring (first + x.at_ + leanF f.rings x ring + n), if (n : Int) < x.steep then 1 else 2)
def ringE (f : FaceV) (p : PatV) (x : FurV) (ring : Int) : Cuts := (List.range p.harps.toNat).flatMap fun (h : Nat) => cutE f x ring (h * p.wide)
def furE (f : FaceV) (p : PatV) (x : FurV) : Cuts := (List.range (p.rings - x.from_).toNat).flatMap fun (k : Nat) => ringE f p x (x.from_ + k)
def patF (p : PatV) : FaceV := ⟨p.eye, p.rings, p.harps * p.wide, List.replicate (p.rings * p.harps * p.wide).toNat 0⟩
def dressF (p : PatV) : FaceV := { patF p with kinds := p.furs.foldl (fun l x => (furE (patF p) p x).foldl putE l) (patF p).kinds }
def dressP (p : PatV) : FaceV × Int := if p.valid = true then (dressF p, 0) else (zeroF, 12)
theorem putE_len (l : List Int) (e : Int × Int) : (putE l e).length = l.length := by unfold putE; split <;> simp
theorem putE_lens : ∀ (E : Cuts) (l : List Int), (E.foldl putE l).length = l.length
  | [], l => rfl
  | e :: E, l => by rw [List.foldl_cons, putE_lens E, putE_len]
theorem putE_at : ∀ (E : Cuts) (l : List Int) (i : Nat) (k : Int), i < l.length → (∀ e ∈ E, 0 ≤ e.1 ∧ e.2 ≠ 0) → (∀ e ∈ E, e.1 = i → e.2 = k) → ((∃ e ∈ E, e.1 = (i : Int)) ∨ k = 0) → (E.foldl putE l)[i]?.getD 0 = if l[i]?.getD 0 = 0 then k else l[i]?.getD 0
  | [], l, i, k, _, _, _, h => by
    rcases h with ⟨e, he, _⟩ | h
    · cases he
    · subst h
      show l[i]?.getD 0 = _
      split
      · rename_i h; exact h
      · rfl
  | e :: E, l, i, k, hi, hp, hk, h => by
    rw [List.foldl_cons]
    have he := hp e (List.mem_cons_self ..)
    have hp2 := fun x hx => hp x (List.mem_cons_of_mem e hx)
    have hk2 := fun x hx => hk x (List.mem_cons_of_mem e hx)
    have hi2 : i < (putE l e).length := by rw [putE_len]; exact hi
    by_cases hei : e.1 = (i : Int)
    · have ek := hk e (List.mem_cons_self ..) hei
      have et : e.1.toNat = i := by omega
      have hnz : ((putE l e)[i]?.getD 0) ≠ 0 ∧ (putE l e)[i]?.getD 0 = if l[i]?.getD 0 = 0 then k else l[i]?.getD 0 := by
        unfold putE
        rw [et]
        by_cases hz : l[i]?.getD 0 = 0
        · rw [if_pos hz, if_pos hz, List.getElem?_set, if_pos rfl, if_pos hi, ek, Option.getD_some]
          exact ⟨by rw [← ek]; exact he.2, rfl⟩
        · rw [if_neg hz, if_neg hz]
          exact ⟨hz, rfl⟩
      by_cases hex : ∃ e ∈ E, e.1 = (i : Int)
      · rw [putE_at E (putE l e) i k hi2 hp2 hk2 (.inl hex), if_neg hnz.1, hnz.2]
      · rw [putE_at E (putE l e) i 0 hi2 hp2 (fun x hx hxi => absurd ⟨x, hx, hxi⟩ hex) (.inr rfl), if_neg hnz.1, hnz.2]
    · have same : (putE l e)[i]?.getD 0 = l[i]?.getD 0 := by
        unfold putE
        split
        · rw [List.getElem?_set, if_neg (by omega)]
        · rfl
      rw [putE_at E (putE l e) i k hi2 hp2 hk2 ?_, same]
      rcases h with ⟨x, hx, hxi⟩ | h
      · rcases List.mem_cons.1 hx with h1 | h1
        · subst h1; exact absurd hxi hei
        · exact .inl ⟨x, h1, hxi⟩
      · exact .inr h
def hitK (p : PatV) (x : FurV) (r s : Int) : Int := if x.from_ ≤ r ∧ (s - x.at_ - leanF p.rings x r) % p.wide < x.steep + x.feather then (if (s - x.at_ - leanF p.rings x r) % p.wide < x.steep then 1 else 2) else 0
def dressK (p : PatV) (r s : Int) : Int := p.furs.foldl (fun k x => if k = 0 then hitK p x r s else k) 0
theorem PatV.valid_iff {p : PatV} : p.valid = true ↔ ((1 ≤ p.eye ∧ p.eye ≤ 16) ∧ (1 ≤ p.rings ∧ p.rings ≤ 24) ∧ (1 ≤ p.harps ∧ p.harps ≤ 96) ∧ (1 ≤ p.wide ∧ p.wide ≤ 96) ∧ (2 ≤ p.harps * p.wide ∧ p.harps * p.wide ≤ 96) ∧ p.furs.length ≤ 16) ∧ ∀ x ∈ p.furs, (0 ≤ x.at_ ∧ x.at_ ≤ p.wide - 1) ∧ (0 ≤ x.from_ ∧ x.from_ ≤ p.rings - 1) ∧ (-96 ≤ x.lean ∧ x.lean ≤ 96) ∧ (1 ≤ x.leans ∧ x.leans ≤ 96) ∧ (1 ≤ x.steep ∧ x.steep ≤ p.wide) ∧ (0 ≤ x.feather ∧ x.feather ≤ p.wide) ∧ x.steep + x.feather < p.wide := by
  unfold PatV.valid furB
  simp only [Bool.and_eq_true, inB_true, decide_eq_true_eq, List.all_eq_true]
theorem patF_valid {p : PatV} (h : p.valid = true) : (patF p).valid = true := by
  obtain ⟨⟨h1, h2, h3, h4, h5, _⟩, _⟩ := PatV.valid_iff.1 h
  refine FaceV.valid_iff.2 ⟨h1, h2, h5, ?_, fun k hk => ?_⟩
  · show ((List.replicate (p.rings * p.harps * p.wide).toNat (0 : Int)).length : Int) = p.rings * (p.harps * p.wide)
    rw [List.length_replicate, Int.toNat_of_nonneg, Int.mul_assoc]
    exact Int.mul_nonneg (Int.mul_nonneg (by omega) (by omega)) (by omega)
  · have := (List.mem_replicate.1 hk).2
    omega
theorem furE_mem {f : FaceV} {p : PatV} {x : FurV} {e : Int × Int} : e ∈ furE f p x ↔ ∃ r h n : Nat, r < (p.rings - x.from_).toNat ∧ h < p.harps.toNat ∧ n < wideF x ∧ e = (indexF f (x.from_ + r) (h * p.wide + x.at_ + leanF f.rings x (x.from_ + r) + n), if (n : Int) < x.steep then 1 else 2) := by
  unfold furE ringE cutE
  simp only [List.mem_flatMap, List.mem_map, List.mem_range]
  constructor
  · rintro ⟨r, hr, h, hh, n, hn, rfl⟩; exact ⟨r, h, n, hr, hh, hn, rfl⟩
  · rintro ⟨r, h, n, hr, hh, hn, rfl⟩; exact ⟨r, hr, h, hh, n, hn, rfl⟩
section
variable {p : PatV}
theorem mul_emod_l (a b c : Int) : (a * c + b) % c = b % c := by rw [Int.add_comm, Int.add_mul_emod_self_right]
theorem mod_mod_pat (s : Int) : (s % (p.harps * p.wide)) % p.wide = s % p.wide := Int.emod_emod_of_dvd _ ⟨p.harps, Int.mul_comm _ _⟩
theorem fur_at (hp : p.valid = true) {x : FurV} (hx : x ∈ p.furs) {E : Cuts} (hE : ∀ e, e ∈ E ↔ e ∈ furE (patF p) p x) (l : List Int) (hl : l.length = (patF p).kinds.length) {r s : Int} (hr : 0 ≤ r ∧ r ≤ p.rings - 1) (hs : 0 ≤ s ∧ s < p.harps * p.wide) :
    (E.foldl putE l)[(r * (p.harps * p.wide) + s).toNat]?.getD 0 = if l[(r * (p.harps * p.wide) + s).toNat]?.getD 0 = 0 then hitK p x r s else l[(r * (p.harps * p.wide) + s).toNat]?.getD 0 := by
  have hv := patF_valid hp
  obtain ⟨⟨h1, h2, h3, h4, h5, _⟩, hfs⟩ := PatV.valid_iff.1 hp
  obtain ⟨x1, x2, x3, x4, x5, x6, x7⟩ := hfs x hx
  have hidx : r * (p.harps * p.wide) + s = indexF (patF p) r s := (indexF_of hv r hs).symm
  have hlt := index_lt hv (r := r) hr s
  rw [← hidx] at hlt
  have hnn : (((r * (p.harps * p.wide) + s).toNat : Nat) : Int) = r * (p.harps * p.wide) + s := Int.toNat_of_nonneg hlt.1
  have h0 := Int.emod_nonneg (s - x.at_ - leanF p.rings x r) (show p.wide ≠ 0 by omega)
  refine putE_at E l _ (hitK p x r s) (by rw [hl]; omega) (fun e he => ?_) (fun e he hei => ?_) ?_
  · obtain ⟨r', h, n, hr', hh, hn, rfl⟩ := furE_mem.1 ((hE e).1 he)
    refine ⟨(index_lt hv (r := x.from_ + r') ⟨by omega, by show _ ≤ p.rings - 1; omega⟩ _).1, ?_⟩
    dsimp only
    split <;> decide
  · obtain ⟨r', h, n, hr', hh, hn, rfl⟩ := furE_mem.1 ((hE e).1 he)
    rw [hnn] at hei
    dsimp only at hei ⊢
    have hc := congrArg (cellF (patF p)) hei
    rw [indexF_cell hv, show cellF (patF p) (r * (p.harps * p.wide) + s) = (r, s) from cell_index hv r hs] at hc
    have e1 : x.from_ + r' = r := congrArg Prod.fst hc
    have e2 : around (h * p.wide + x.at_ + leanF p.rings x (x.from_ + r') + n) (p.harps * p.wide) = s := congrArg Prod.snd hc
    rw [e1] at e2
    have hw : (n : Int) < x.steep + x.feather := by unfold wideF at hn; omega
    have en : (s - x.at_ - leanF p.rings x r) % p.wide = n := by
      have := mod_mod_pat (p := p) (h * p.wide + x.at_ + leanF p.rings x r + n)
      unfold around at e2
      rw [e2] at this
      rw [Int.sub_sub, Int.sub_emod, this, ← Int.sub_emod, show h * p.wide + x.at_ + leanF p.rings x r + n - (x.at_ + leanF p.rings x r) = h * p.wide + n by omega, mul_emod_l, Int.emod_eq_of_lt (by omega) (by omega)]
    unfold hitK
    rw [en, if_pos (show x.from_ ≤ r ∧ (n : Int) < x.steep + x.feather from ⟨by omega, hw⟩)]
  · by_cases hh : x.from_ ≤ r ∧ (s - x.at_ - leanF p.rings x r) % p.wide < x.steep + x.feather
    · refine .inl ?_
      obtain ⟨hr2, hn⟩ := hh
      generalize hnv : (s - x.at_ - leanF p.rings x r) % p.wide = n at *
      have hq := Int.emod_add_mul_ediv (s - x.at_ - leanF p.rings x r) p.wide
      rw [hnv] at hq
      generalize (s - x.at_ - leanF p.rings x r) / p.wide = q at *
      have q0 := Int.emod_nonneg q (show p.harps ≠ 0 by omega)
      have q1 := Int.emod_lt_of_pos q (show 0 < p.harps by omega)
      have q2 := Int.emod_add_mul_ediv q p.harps
      refine ⟨_, (hE _).2 (furE_mem.2 ⟨(r - x.from_).toNat, (q % p.harps).toNat, n.toNat, by omega, by omega, by unfold wideF; omega, rfl⟩), ?_⟩
      rw [hnn]
      dsimp only
      rw [show x.from_ + ((r - x.from_).toNat : Int) = r by omega, Int.toNat_of_nonneg q0, Int.toNat_of_nonneg h0, hidx]
      have e3 : (q % p.harps * p.wide + x.at_ + leanF (patF p).rings x r + n) % (p.harps * p.wide) = s % (p.harps * p.wide) := by
        have e4 : s = (q % p.harps * p.wide + x.at_ + leanF p.rings x r + n) + (p.harps * p.wide) * (q / p.harps) := by
          have : p.wide * q = q % p.harps * p.wide + p.harps * p.wide * (q / p.harps) := by
            rw [Int.mul_comm p.wide q, ← Int.mul_right_comm p.harps, ← Int.add_mul, q2]
          omega
        conv => rhs; rw [e4]
        rw [Int.add_mul_emod_self_left]
        rfl
      unfold indexF around
      show r * (p.harps * p.wide) + _ % (p.harps * p.wide) = r * (p.harps * p.wide) + s % (p.harps * p.wide)
      rw [e3]
    · refine .inr ?_
      unfold hitK
      rw [if_neg hh]
theorem furs_at (hp : p.valid = true) (g : FurV → Cuts) (hg : ∀ x ∈ p.furs, ∀ e, e ∈ g x ↔ e ∈ furE (patF p) p x) {r s : Int} (hr : 0 ≤ r ∧ r ≤ p.rings - 1) (hs : 0 ≤ s ∧ s < p.harps * p.wide) :
    ∀ (xs : List FurV) (l : List Int), (∀ x ∈ xs, x ∈ p.furs) → l.length = (patF p).kinds.length →
    (xs.foldl (fun l x => (g x).foldl putE l) l)[(r * (p.harps * p.wide) + s).toNat]?.getD 0 = xs.foldl (fun k x => if k = 0 then hitK p x r s else k) (l[(r * (p.harps * p.wide) + s).toNat]?.getD 0)
  | [], l, _, _ => rfl
  | x :: xs, l, hm, hl => by
    rw [List.foldl_cons, List.foldl_cons, furs_at hp g hg hr hs xs _ (fun y hy => hm y (List.mem_cons_of_mem _ hy)) (by rw [putE_lens]; exact hl)]
    rw [fur_at hp (hm x (List.mem_cons_self ..)) (hg x (hm x (List.mem_cons_self ..))) l hl hr hs]
theorem furs_len (g : FurV → Cuts) : ∀ (xs : List FurV) (l : List Int), (xs.foldl (fun l x => (g x).foldl putE l) l).length = l.length
  | [], l => rfl
  | x :: xs, l => by rw [List.foldl_cons, furs_len g xs, putE_lens]
theorem dress_size : (dressF p).eye = p.eye ∧ (dressF p).rings = p.rings ∧ (dressF p).sectors = p.harps * p.wide ∧ (dressF p).kinds.length = (patF p).kinds.length := ⟨rfl, rfl, rfl, furs_len _ _ _⟩
theorem dress_kat (hp : p.valid = true) {r s : Int} (hr : 0 ≤ r ∧ r ≤ p.rings - 1) (hs : 0 ≤ s ∧ s < p.harps * p.wide) : (dressF p).kat (r * (p.harps * p.wide) + s).toNat = dressK p r s := by
  unfold FaceV.kat dressF dressK
  dsimp only
  rw [furs_at hp (furE (patF p) p) (fun _ _ _ => Iff.rfl) hr hs p.furs _ (fun x hx => hx) rfl]
  congr 1
  unfold patF
  dsimp only
  cases h : (List.replicate (p.rings * p.harps * p.wide).toNat (0 : Int))[(r * (p.harps * p.wide) + s).toNat]? with
  | none => rfl
  | some v => exact (List.mem_replicate.1 (List.mem_of_getElem? h)).2
theorem hitK_in (x : FurV) (r s : Int) : 0 ≤ hitK p x r s ∧ hitK p x r s ≤ 2 := by
  unfold hitK
  split
  · split <;> omega
  · omega
theorem dressK_in (r s : Int) : 0 ≤ dressK p r s ∧ dressK p r s ≤ 2 := by
  unfold dressK
  have : ∀ (xs : List FurV) (k : Int), 0 ≤ k ∧ k ≤ 2 → 0 ≤ xs.foldl (fun k x => if k = 0 then hitK p x r s else k) k ∧ xs.foldl (fun k x => if k = 0 then hitK p x r s else k) k ≤ 2 := fun xs => by
    induction xs with
    | nil => intro k h; exact h
    | cons x xs ih =>
      intro k h
      rw [List.foldl_cons]
      refine ih _ ?_
      split
      · exact hitK_in x r s
      · exact h
  exact this _ _ (by omega)
theorem dress_valid (hp : p.valid = true) : (dressF p).valid = true := by
  have hv := patF_valid hp
  obtain ⟨h1, h2, h3, h4, _⟩ := FaceV.valid_iff.1 hv
  obtain ⟨_, d2, d3, d4⟩ := dress_size (p := p)
  refine FaceV.valid_iff.2 ⟨h1, h2, h3, by rw [d4]; exact h4, fun k hk => ?_⟩
  obtain ⟨i, hi, rfl⟩ := List.getElem_of_mem hk
  have hin : InF (patF p) (i : Int) := ⟨by omega, by rw [← d4]; omega⟩
  obtain ⟨k1, k2⟩ := cellF_has hv hin
  have hc := hasF_iff.1 k1
  have hlt : (cellF (patF p) i).2 < p.harps * p.wide := by have := hc.2.2; show _ < (patF p).sectors; omega
  have := dress_kat hp (r := (cellF (patF p) i).1) (s := (cellF (patF p) i).2) hc.1 ⟨hc.2.1, hlt⟩
  have e : (cellF (patF p) i).1 * (p.harps * p.wide) + (cellF (patF p) i).2 = (i : Int) := by
    exact (indexF_of hv _ ⟨hc.2.1, hlt⟩).symm.trans k2
  rw [e, Int.toNat_natCast] at this
  unfold FaceV.kat at this
  rw [List.getElem?_eq_getElem hi, Option.getD_some] at this
  rw [this]
  exact dressK_in _ _
theorem hitK_mod (x : FurV) (r : Int) {s t : Int} (h : s % p.wide = t % p.wide) : hitK p x r s = hitK p x r t := by
  unfold hitK
  have : (s - x.at_ - leanF p.rings x r) % p.wide = (t - x.at_ - leanF p.rings x r) % p.wide := by
    rw [Int.sub_sub, Int.sub_sub, Int.sub_emod, h, ← Int.sub_emod]
  rw [this]
theorem dressK_mod (r : Int) {s t : Int} (h : s % p.wide = t % p.wide) : dressK p r s = dressK p r t := by
  unfold dressK
  congr 1
  funext k x
  rw [hitK_mod x r h]
theorem dress_any (hp : p.valid = true) {r : Int} (hr : 0 ≤ r ∧ r ≤ p.rings - 1) (s : Int) : (dressF p).kat (indexF (dressF p) r s).toNat = dressK p r s := by
  have hd := dress_valid hp
  have ha : 0 ≤ around s (p.harps * p.wide) ∧ around s (p.harps * p.wide) < p.harps * p.wide := around_lt hd s
  have : indexF (dressF p) r s = r * (p.harps * p.wide) + around s (p.harps * p.wide) := rfl
  rw [this, dress_kat hp hr ha]
  exact dressK_mod r (mod_mod_pat s)
theorem dress_turn (hp : p.valid = true) : turnF (dressF p) p.wide = dressF p := by
  have hd := dress_valid hp
  obtain ⟨s1, s2, s3, s4, s5⟩ := turn_size hd p.wide
  obtain ⟨e1, e2, _⟩ := FaceV.nat hd
  refine face_ext (turn_valid hd _) hd rfl rfl s3 fun i j hi hj => ?_
  rw [s4] at hi
  rw [s5] at hj ⊢
  rw [turn_kat hd _ hi hj]
  have hr : 0 ≤ (i : Int) ∧ (i : Int) ≤ p.rings - 1 := ⟨by omega, by have : (dressF p).rings = p.rings := rfl; omega⟩
  have a1 := dress_any hp hr (j : Int)
  have a2 := dress_any hp hr ((j : Int) - p.wide)
  rw [indexF_eq hd, Int.toNat_natCast] at a1 a2
  rw [Int.emod_eq_of_lt (by omega) (by omega), Int.toNat_natCast] at a1
  rw [a1, a2]
  refine dressK_mod _ ?_
  rw [Int.sub_emod, Int.emod_self, Int.sub_zero, Int.emod_emod_of_dvd _ (Int.dvd_refl _)]
def gentleB (p : PatV) : Bool := p.furs.all fun x => decide (x.lean ≤ x.leans * (x.steep + x.feather - 1)) && decide (-(x.leans * (x.steep + x.feather - 1)) ≤ x.lean)
theorem lean_near {x : FurV} (h1 : 1 ≤ x.leans) (ha : x.lean ≤ x.leans * (x.steep + x.feather - 1)) (hb : -(x.leans * (x.steep + x.feather - 1)) ≤ x.lean) (rings r : Int) :
    leanF rings x r - leanF rings x (r + 1) ≤ x.steep + x.feather - 1 ∧ -(x.steep + x.feather - 1) ≤ leanF rings x r - leanF rings x (r + 1) := by
  unfold leanF
  have e : (rings - 1 - r) * x.lean = (rings - 1 - (r + 1)) * x.lean + x.lean := by
    have e0 : rings - 1 - r = (rings - 1 - (r + 1)) + 1 := by omega
    have e1 := Int.add_mul (rings - 1 - (r + 1)) 1 x.lean
    rw [Int.one_mul] at e1
    rw [← e1, ← e0]
  rw [e]
  generalize (rings - 1 - (r + 1)) * x.lean = A at *
  generalize x.steep + x.feather - 1 = w at *
  have u1 : (A + x.lean) / x.leans ≤ (A + x.leans * w) / x.leans := Int.ediv_le_ediv (by omega) (by omega)
  have u2 : (A + x.leans * (-w)) / x.leans ≤ (A + x.lean) / x.leans := Int.ediv_le_ediv (by omega) (by rw [Int.mul_neg]; omega)
  rw [Int.add_mul_ediv_left _ _ (by omega)] at u1 u2
  omega
def CutAt (p : PatV) (x : FurV) (r t : Int) : Prop := x.from_ ≤ r ∧ (t - x.at_ - leanF p.rings x r) % p.wide < x.steep + x.feather
theorem cut_hit (x : FurV) {r t : Int} : CutAt p x r t ↔ hitK p x r t ≠ 0 := by
  unfold CutAt hitK
  constructor
  · intro h
    rw [if_pos h]
    split <;> decide
  · intro h
    refine Classical.byContradiction fun hn => h ?_
    rw [if_neg hn]
theorem dressK_ne (r s : Int) : dressK p r s ≠ 0 ↔ ∃ x ∈ p.furs, hitK p x r s ≠ 0 := by
  unfold dressK
  have : ∀ (xs : List FurV) (k : Int), xs.foldl (fun k x => if k = 0 then hitK p x r s else k) k ≠ 0 ↔ k ≠ 0 ∨ ∃ x ∈ xs, hitK p x r s ≠ 0 := fun xs => by
    induction xs with
    | nil => intro k; simp
    | cons x xs ih =>
      intro k
      rw [List.foldl_cons, ih]
      by_cases h : k = 0
      · rw [if_pos h]
        simp [h]
      · rw [if_neg h]
        simp [h]
  rw [this]
  simp
theorem cut_land (hp : p.valid = true) {x : FurV} (hx : x ∈ p.furs) {r t : Int} (hr : 0 ≤ r ∧ r ≤ p.rings - 1) (h : CutAt p x r t) : landB (dressF p) (indexF (dressF p) r t) = false := by
  unfold landB
  rw [dress_any hp hr]
  exact decide_eq_false ((dressK_ne r t).2 ⟨x, hx, (cut_hit x).1 h⟩)
theorem step_side (hv : (dressF p).valid = true) {r t : Int} (hr : 0 ≤ r ∧ r ≤ p.rings - 1) : indexF (dressF p) r (t + 1) ∈ neighF (dressF p) (indexF (dressF p) r t) := by
  have ha := around_lt hv t
  have hh : hasF (dressF p) (r, around t (dressF p).sectors) = true := hasF_iff.2 ⟨hr, by dsimp only; omega⟩
  have := (neigh_mem hv hh (n := indexF (dressF p) r (t + 1))).2 ⟨(r, around (t + 1) (dressF p).sectors), .inl ⟨rfl, .inr ?_⟩, (indexF_around hv _ _).symm⟩
  · rwa [indexF_around hv] at this
  · dsimp only
    rw [around_add]
theorem step_out (hv : (dressF p).valid = true) {r t : Int} (hr : 0 ≤ r ∧ r + 1 ≤ p.rings - 1) : indexF (dressF p) (r + 1) t ∈ neighF (dressF p) (indexF (dressF p) r t) := by
  have ha := around_lt hv t
  have hh : hasF (dressF p) (r, around t (dressF p).sectors) = true := hasF_iff.2 ⟨⟨hr.1, by show r ≤ p.rings - 1; omega⟩, by dsimp only; omega⟩
  have := (neigh_mem hv hh (n := indexF (dressF p) (r + 1) t)).2 ⟨(r + 1, around t (dressF p).sectors), .inr ⟨rfl, .inr ⟨rfl, hr.2⟩⟩, (indexF_around hv _ _).symm⟩
  rwa [indexF_around hv] at this
theorem side_reach (hp : p.valid = true) {x : FurV} (hx : x ∈ p.furs) {r t : Int} (hr : 0 ≤ r ∧ r ≤ p.rings - 1) : ∀ (m : Nat), (∀ j : Nat, j ≤ m → CutAt p x r (t + j)) → Reach (dressF p) (indexF (dressF p) r t) (indexF (dressF p) r (t + m))
  | 0, _ => by rw [show t + ((0 : Nat) : Int) = t by omega]; exact .refl _
  | m + 1, h => by
    have ih := side_reach hp hx hr m fun j hj => h j (by omega)
    have hv := dress_valid hp
    have := step_side hv (t := t + m) hr
    rw [show t + (m : Int) + 1 = t + ((m + 1 : Nat) : Int) by omega] at this
    exact ih.step this (by rw [cut_land hp hx hr (h (m + 1) (Nat.le_refl _)), cut_land hp hx hr (h m (by omega))])
theorem cut_skirt (hp : p.valid = true) {x : FurV} (hx : x ∈ p.furs) (ha : x.lean ≤ x.leans * (x.steep + x.feather - 1)) (hb : -(x.leans * (x.steep + x.feather - 1)) ≤ x.lean) : ∀ (d : Nat) (r t : Int), r + d = p.rings - 1 → 0 ≤ r → CutAt p x r t → ∃ t', Reach (dressF p) (indexF (dressF p) r t) (indexF (dressF p) (p.rings - 1) t')
  | 0, r, t, hd, _, _ => ⟨t, by rw [show p.rings - 1 = r by omega]; exact .refl _⟩
  | d + 1, r, t, hd, hr0, hc => by
    have hv := dress_valid hp
    obtain ⟨⟨_, h2, h3, h4, h5, _⟩, hfs⟩ := PatV.valid_iff.1 hp
    obtain ⟨x1, x2, x3, x4, x5, x6, x7⟩ := hfs x hx
    have hr : 0 ≤ r ∧ r ≤ p.rings - 1 := by omega
    obtain ⟨n1, n2⟩ := lean_near (by omega) ha hb p.rings r
    have hn := Int.emod_nonneg (t - x.at_ - leanF p.rings x r) (show p.wide ≠ 0 by omega)
    have hn2 := hc.2
    generalize hnv : (t - x.at_ - leanF p.rings x r) % p.wide = n at *
    have hq := Int.emod_add_mul_ediv (t - x.at_ - leanF p.rings x r) p.wide
    rw [hnv] at hq
    generalize (t - x.at_ - leanF p.rings x r) / p.wide = q at *
    have off : ∀ (k : Int), 0 ≤ k → k < x.steep + x.feather → CutAt p x r (t - n + k) := fun k k0 k1 => by
      refine ⟨hc.1, ?_⟩
      rw [show t - n + k - x.at_ - leanF p.rings x r = k + p.wide * q by omega, Int.add_mul_emod_self_left, Int.emod_eq_of_lt (by omega) (by omega)]
      exact k1
    obtain ⟨k, k0, k1, k2, k3⟩ : ∃ k, 0 ≤ k ∧ k < x.steep + x.feather ∧ 0 ≤ k + (leanF p.rings x r - leanF p.rings x (r + 1)) ∧ k + (leanF p.rings x r - leanF p.rings x (r + 1)) < x.steep + x.feather := by
      by_cases h0 : 0 ≤ leanF p.rings x r - leanF p.rings x (r + 1)
      · exact ⟨0, by omega, by omega, by omega, by omega⟩
      · exact ⟨-(leanF p.rings x r - leanF p.rings x (r + 1)), by omega, by omega, by omega, by omega⟩
    have hin0 := index_lt hv (r := r) hr (t - n)
    have A := side_reach hp hx hr (t := t - n) n.toNat fun j hj => off j (by omega) (by omega)
    have B := side_reach hp hx hr (t := t - n) k.toNat fun j hj => off j (by omega) (by omega)
    rw [Int.toNat_of_nonneg hn, show t - n + n = t by omega] at A
    rw [Int.toNat_of_nonneg k0] at B
    have C := (A.symm hv hin0).trans B
    have hcut2 : CutAt p x (r + 1) (t - n + k) := by
      refine ⟨by have := hc.1; omega, ?_⟩
      rw [show t - n + k - x.at_ - leanF p.rings x (r + 1) = (k + (leanF p.rings x r - leanF p.rings x (r + 1))) + p.wide * q by omega, Int.add_mul_emod_self_left, Int.emod_eq_of_lt k2 (by omega)]
      exact k3
    obtain ⟨t', D⟩ := cut_skirt hp hx ha hb d (r + 1) (t - n + k) (by omega) (by omega) hcut2
    refine ⟨t', (C.step (step_out hv (t := t - n + k) (by omega)) ?_).trans D⟩
    rw [cut_land hp hx (by omega) hcut2, cut_land hp hx hr (off k k0 k1)]
theorem dress_drains (hp : p.valid = true) (hg : gentleB p = true) : deadF (dressF p) = [] := by
  have hv := dress_valid hp
  refine List.eq_nil_iff_forall_not_mem.2 fun n hn => ?_
  obtain ⟨k, hk, rfl, hdd⟩ := deadF_mem.1 hn
  rw [List.getElem?_eq_getElem hk, Option.getD_some] at hdd
  obtain ⟨y, hy, hs, hm⟩ := (regList_iff hv).1 (List.getElem_mem hk)
  obtain ⟨d1, d2⟩ := (reg_kind hv hy hs hm).2.1 hdd
  obtain ⟨k1, k2⟩ := cellF_has hv hy
  have hc := hasF_iff.1 k1
  have hne : dressK p (cellF (dressF p) y).1 (cellF (dressF p) y).2 ≠ 0 := by
    unfold landB at d1
    rw [← k2, dress_any hp hc.1] at d1
    exact of_decide_eq_false d1
  obtain ⟨x, hx, hh⟩ := (dressK_ne _ _).1 hne
  have hgx := List.all_eq_true.1 hg x hx
  rw [Bool.and_eq_true, decide_eq_true_eq, decide_eq_true_eq] at hgx
  obtain ⟨t', ht⟩ := cut_skirt hp hx hgx.1 hgx.2 (p.rings - 1 - (cellF (dressF p) y).1).toNat _ _ (by have := hc.1.2; have : (dressF p).rings = p.rings := rfl; omega) hc.1.1 ((cut_hit x).2 hh)
  rw [k2] at ht
  have h1 := d2 _ ht
  have h2 := around_lt hv t'
  have : indexF (dressF p) (p.rings - 1) t' = (p.rings - 1) * (dressF p).sectors + around t' (dressF p).sectors := rfl
  rw [this] at h1
  have h3 : (dressF p).rings = p.rings := rfl
  rw [h3] at h1
  omega
end
end Go.Proofs.YtmpkglokhchpiaaGreatDoor
namespace Go.Proofs.YtmpkglokhchpiaaGreatDoor
set_option linter.unusedSimpArgs false
set_option linter.unusedVariables false
open Go.RowKit

def cmpZ : List Int → List Int → Int
  | [], [] => 0
  | [], _ :: _ => -1
  | _ :: _, [] => 1
  | x :: xs, y :: ys => if x < y then -1 else if y < x then 1 else cmpZ xs ys
theorem cmpZ_self : ∀ l, cmpZ l l = 0
  | [] => rfl
  | x :: xs => by unfold cmpZ; rw [if_neg (by omega), if_neg (by omega)]; exact cmpZ_self xs
theorem cmpZ_anti : ∀ l m, cmpZ m l = - cmpZ l m
  | [], [] => rfl
  | [], _ :: _ => rfl
  | _ :: _, [] => rfl
  | x :: xs, y :: ys => by
    have := cmpZ_anti xs ys
    unfold cmpZ
    split
    · rw [if_neg (by omega)]
    · split
      · rfl
      · exact this
theorem cmpZ_zero : ∀ l m, cmpZ l m = 0 → l = m
  | [], [], _ => rfl
  | [], _ :: _, h => by cases h
  | _ :: _, [], h => by cases h
  | x :: xs, y :: ys, h => by
    unfold cmpZ at h
    split at h
    · cases h
    · split at h
      · cases h
      · rw [cmpZ_zero xs ys h, show x = y by omega]
theorem cmpZ_trans : ∀ l m n, cmpZ l m < 0 → cmpZ m n < 0 → cmpZ l n < 0
  | [], [], _, h, _ => by simp [cmpZ] at h
  | [], _ :: _, [], _, h => by simp [cmpZ] at h
  | [], _ :: _, _ :: _, _, _ => by simp [cmpZ]
  | _ :: _, [], _, h, _ => by simp [cmpZ] at h
  | _ :: _, _ :: _, [], _, h => by simp [cmpZ] at h
  | x :: xs, y :: ys, z :: zs, h1, h2 => by
    unfold cmpZ at h1 h2 ⊢
    split at h1
    · split at h2
      · rw [if_pos (by omega)]; decide
      · split at h2
        · cases h2
        · rw [if_pos (by omega)]; decide
    · split at h1
      · cases h1
      · split at h2
        · rw [if_pos (by omega)]; decide
        · split at h2
          · cases h2
          · rw [if_neg (by omega), if_neg (by omega)]
            exact cmpZ_trans xs ys zs h1 h2
def turnsF (f g : FaceV) : List Nat := (List.range f.S).filter fun b => decide (turnF f (b : Nat) = g)
def turnsP (f g : FaceV) : List Nat × Int := if f.valid = true ∧ g.valid = true then (turnsF f g, 0) else ([], 10)
def periodF (f : FaceV) : Nat := (((List.range f.S).map (· + 1)).find? fun n => decide (turnF f (n : Nat) = f)).getD 0
def periodP (f : FaceV) : Int × Int := if f.valid = true then ((periodF f : Int), 0) else (0, 10)
def normalF (f : FaceV) : FaceV := (List.range f.S).foldl (fun least (b : Nat) => if cmpZ (turnF f b).kinds least.kinds < 0 then turnF f b else least) f
def normalP (f : FaceV) : FaceV × Int := if f.valid = true then (normalF f, 0) else (zeroF, 10)
def harpF (f : FaceV) : FaceV := mapF f (max 2 (periodF f)) fun s => s
def harpP (f : FaceV) : FaceV × Int := if f.valid = true then (harpF f, 0) else (zeroF, 10)
section
variable {f g : FaceV}
theorem turn_zero (h : f.valid = true) : turnF f 0 = f := turn_dvd h (by simp)
theorem fix_add (h : f.valid = true) {a b : Int} (ha : turnF f a = f) (hb : turnF f b = f) : turnF f (a + b) = f := by rw [← turn_turn h, ha, hb]
theorem fix_neg (h : f.valid = true) {a : Int} (ha : turnF f a = f) : turnF f (-a) = f := by
  have := turn_turn h a (-a)
  rw [ha, show a + -a = 0 by omega, turn_zero h] at this
  exact this
theorem fix_mul (h : f.valid = true) {a : Int} (ha : turnF f a = f) : ∀ k : Nat, turnF f ((k : Int) * a) = f
  | 0 => by rw [show ((0 : Nat) : Int) * a = 0 by simp]; exact turn_zero h
  | k + 1 => by
    rw [show ((k + 1 : Nat) : Int) * a = (k : Int) * a + a by push_cast; rw [Int.add_mul, Int.one_mul]]
    exact fix_add h (fix_mul h ha k) ha
theorem period_spec (h : f.valid = true) : 1 ≤ periodF f ∧ periodF f ≤ f.S ∧ turnF f (periodF f : Nat) = f ∧ ∀ m : Nat, 1 ≤ m → m < periodF f → turnF f (m : Nat) ≠ f := by
  have hS := (FaceV.nat h).2.2.2.2.1
  have hfix : turnF f (f.S : Nat) = f := turn_dvd h (by rw [(FaceV.nat h).2.1]; simp)
  unfold periodF
  cases hf : ((List.range f.S).map (· + 1)).find? fun n => decide (turnF f (n : Nat) = f) with
  | none =>
    rw [List.find?_eq_none] at hf
    have := hf f.S (List.mem_map.2 ⟨f.S - 1, List.mem_range.2 (by omega), by omega⟩)
    simp [hfix] at this
  | some n =>
    have h1 := List.find?_some hf
    have h2 := List.mem_of_find?_eq_some hf
    obtain ⟨k, hk, rfl⟩ := List.mem_map.1 h2
    rw [List.mem_range] at hk
    simp only [Option.getD_some]
    refine ⟨by omega, by omega, by simpa using h1, fun m hm1 hm2 he => ?_⟩
    rw [List.find?_eq_some_iff_getElem] at hf
    obtain ⟨_, i, hi, e, hb⟩ := hf
    simp only [List.getElem_map, List.getElem_range] at e
    have := hb (m - 1) (by omega)
    simp only [List.getElem_map, List.getElem_range] at this
    rw [show m - 1 + 1 = m by omega] at this
    simp [he] at this
theorem fix_iff (h : f.valid = true) (a : Int) : turnF f a = f ↔ a % (periodF f : Int) = 0 := by
  obtain ⟨p1, p2, p3, p4⟩ := period_spec h
  have hr0 := Int.emod_nonneg a (show (periodF f : Int) ≠ 0 by omega)
  have hr1 := Int.emod_lt_of_pos a (show (0 : Int) < (periodF f : Int) by omega)
  have he := Int.emod_add_mul_ediv a (periodF f : Int)
  have hmul : ∀ q : Int, turnF f ((periodF f : Int) * q) = f := fun q => by
    rcases Int.le_total 0 q with hq | hq
    · obtain ⟨k, rfl⟩ := Int.eq_ofNat_of_zero_le hq
      rw [Int.mul_comm]
      exact fix_mul h p3 k
    · obtain ⟨k, hk⟩ := Int.eq_ofNat_of_zero_le (show 0 ≤ -q by omega)
      have := fix_neg h (fix_mul h p3 k)
      rw [← hk] at this
      rw [show (periodF f : Int) * q = -(-q * (periodF f : Int)) by rw [Int.neg_mul, Int.neg_neg, Int.mul_comm]]
      exact this
  constructor
  · intro ha
    have hr : turnF f (a % (periodF f : Int)) = f := by
      have h1 := fix_add h ha (fix_neg h (hmul (a / (periodF f : Int))))
      rw [show a + -((periodF f : Int) * (a / (periodF f : Int))) = a % (periodF f : Int) by omega] at h1
      exact h1
    by_cases h0 : a % (periodF f : Int) = 0
    · exact h0
    · have := p4 (a % (periodF f : Int)).toNat (by omega) (by omega)
      rw [Int.toNat_of_nonneg hr0] at this
      exact absurd hr this
  · intro ha
    rw [show a = (periodF f : Int) * (a / (periodF f : Int)) by omega]
    exact hmul _
theorem period_dvd (h : f.valid = true) : f.S % periodF f = 0 := by
  have := (fix_iff h (f.S : Int)).1 (turn_dvd h (by rw [(FaceV.nat h).2.1]; simp))
  exact_mod_cast this
theorem normal_go (h : f.valid = true) : ∀ k, k ≤ f.S → ∃ a : Int, (List.range k).foldl (fun least (b : Nat) => if cmpZ (turnF f b).kinds least.kinds < 0 then turnF f b else least) f = turnF f a ∧ (∀ b : Nat, b < k → ¬ cmpZ (turnF f b).kinds (turnF f a).kinds < 0) ∧ ¬ cmpZ f.kinds (turnF f a).kinds < 0
  | 0, _ => ⟨0, by rw [turn_zero h]; rfl, fun b hb => by omega, by rw [turn_zero h, cmpZ_self]; decide⟩
  | k + 1, hk => by
    obtain ⟨a, e, h1, h2⟩ := normal_go h k (by omega)
    rw [List.range_succ, List.foldl_append, e]
    simp only [List.foldl_cons, List.foldl_nil]
    by_cases hc : cmpZ (turnF f (k : Nat)).kinds (turnF f a).kinds < 0
    · rw [if_pos hc]
      refine ⟨k, rfl, fun b hb hlt => ?_, fun hlt => h2 (cmpZ_trans _ _ _ hlt hc)⟩
      by_cases hbk : b < k
      · exact h1 b hbk (cmpZ_trans _ _ _ hlt hc)
      · have : b = k := by omega
        subst this
        rw [cmpZ_self] at hlt
        cases hlt
    · rw [if_neg hc]
      refine ⟨a, rfl, fun b hb hlt => ?_, h2⟩
      by_cases hbk : b < k
      · exact h1 b hbk hlt
      · have : b = k := by omega
        subst this
        exact hc hlt
theorem normal_spec (h : f.valid = true) : ∃ a : Int, normalF f = turnF f a ∧ ∀ b : Int, ¬ cmpZ (turnF f b).kinds (normalF f).kinds < 0 := by
  obtain ⟨a, e, h1, _⟩ := normal_go h f.S (Nat.le_refl _)
  refine ⟨a, e, fun b hlt => ?_⟩
  have e2 : normalF f = turnF f a := e
  rw [e2] at hlt
  have hb0 := Int.emod_nonneg b (show f.sectors ≠ 0 by have := (FaceV.nat h).2.1; have := (FaceV.nat h).2.2.2.2.1; omega)
  have hb1 := Int.emod_lt_of_pos b (show 0 < f.sectors by have := (FaceV.nat h).2.1; have := (FaceV.nat h).2.2.2.2.1; omega)
  refine h1 (b % f.sectors).toNat (by have := (FaceV.nat h).2.1; omega) ?_
  rw [Int.toNat_of_nonneg hb0, turn_mod h]
  exact hlt
theorem turn_same_size (h : f.valid = true) (a b : Int) (he : (turnF f a).kinds = (turnF f b).kinds) : turnF f a = turnF f b := by
  unfold turnF mapF at *
  simp only [FaceV.mk.injEq] at *
  exact ⟨trivial, trivial, trivial, he⟩
theorem normal_turn (h : f.valid = true) (b : Int) : normalF (turnF f b) = normalF f := by
  have hb := turn_valid h b
  obtain ⟨a, e, h1⟩ := normal_spec h
  obtain ⟨c, e2, h2⟩ := normal_spec hb
  rw [turn_turn h] at e2
  have g1 := h1 (b + c)
  have g2 := h2 (a - b)
  rw [turn_turn h, show b + (a - b) = a by omega, ← e] at g2
  rw [← e2] at g1
  have g3 := cmpZ_anti (normalF f).kinds (normalF (turnF f b)).kinds
  have hk := cmpZ_zero (normalF (turnF f b)).kinds (normalF f).kinds (by omega)
  rw [e, e2] at hk ⊢
  exact turn_same_size h _ _ hk
theorem normal_valid (h : f.valid = true) : (normalF f).valid = true := by
  obtain ⟨a, e, _⟩ := normal_spec h
  rw [e]
  exact turn_valid h a
theorem turns_mem (h : f.valid = true) {b : Nat} : b ∈ turnsF f g ↔ b < f.S ∧ turnF f b = g := by
  unfold turnsF
  rw [List.mem_filter, List.mem_range]
  simp
theorem turns_some (h : f.valid = true) {a : Int} (e : turnF f a = g) : turnsF f g ≠ [] := by
  intro h0
  have hS := (FaceV.nat h).2.1
  have h2 := (FaceV.nat h).2.2.2.2.1
  have hb0 := Int.emod_nonneg a (show f.sectors ≠ 0 by omega)
  have hb1 := Int.emod_lt_of_pos a (show 0 < f.sectors by omega)
  have : (a % f.sectors).toNat ∈ turnsF f g := (turns_mem h).2 ⟨by omega, by rw [Int.toNat_of_nonneg hb0, turn_mod h, e]⟩
  rw [h0] at this
  cases this
theorem normal_iff (h : f.valid = true) (hg : g.valid = true) : turnsF f g ≠ [] ↔ normalF f = normalF g := by
  constructor
  · intro hne
    obtain ⟨b, hb⟩ := List.exists_mem_of_ne_nil _ hne
    have := ((turns_mem h).1 hb).2
    rw [← this, normal_turn h]
  · intro e
    obtain ⟨a, e1, _⟩ := normal_spec h
    obtain ⟨c, e2, _⟩ := normal_spec hg
    have : turnF f (a - c) = g := by
      rw [show a - c = a + -c by omega, ← turn_turn h, ← e1, e, e2, turn_turn hg, show c + -c = 0 by omega, turn_zero hg]
    exact turns_some h this
theorem sortedNat_eq : ∀ {u v : List Nat}, u.Pairwise (· < ·) → v.Pairwise (· < ·) → (∀ x, x ∈ u ↔ x ∈ v) → u = v
  | [], [], _, _, _ => rfl
  | [], y :: v, _, _, h => by have := (h y).2 (List.mem_cons_self ..); cases this
  | x :: u, [], _, _, h => by have := (h x).1 (List.mem_cons_self ..); cases this
  | x :: u, y :: v, hu, hv, h => by
    rw [List.pairwise_cons] at hu hv
    have e : x = y := by
      rcases List.mem_cons.1 ((h x).1 (List.mem_cons_self ..)) with h1 | h1
      · exact h1
      · rcases List.mem_cons.1 ((h y).2 (List.mem_cons_self ..)) with h2 | h2
        · exact h2.symm
        · have := hu.1 y h2
          have := hv.1 x h1
          omega
    subst e
    rw [sortedNat_eq hu.2 hv.2 fun z => ?_]
    constructor
    · intro hz
      rcases List.mem_cons.1 ((h z).1 (List.mem_cons_of_mem _ hz)) with h1 | h1
      · have := hu.1 z hz; omega
      · exact h1
    · intro hz
      rcases List.mem_cons.1 ((h z).2 (List.mem_cons_of_mem _ hz)) with h1 | h1
      · have := hv.1 z hz; omega
      · exact h1
theorem range_lt (n : Nat) : (List.range n).Pairwise (· < ·) := List.pairwise_lt_range
theorem turns_eq (h : f.valid = true) (hne : turnsF f g ≠ []) : ∃ r, r < periodF f ∧ turnsF f g = (List.range (f.S / periodF f)).map fun k => r + k * periodF f := by
  obtain ⟨b0, hb0⟩ := List.exists_mem_of_ne_nil _ hne
  obtain ⟨p1, p2, p3, p4⟩ := period_spec h
  obtain ⟨hb1, hb2⟩ := (turns_mem h).1 hb0
  have hdv := period_dvd h
  have hq : f.S = periodF f * (f.S / periodF f) := by have := Nat.div_add_mod f.S (periodF f); omega
  have hmem : ∀ b, b ∈ turnsF f g ↔ b < f.S ∧ b % periodF f = b0 % periodF f := fun b => by
    rw [turns_mem h]
    refine and_congr_right fun hb => ?_
    have h1 : turnF f (b : Nat) = g ↔ turnF f ((b : Int) - (b0 : Int)) = f := by
      constructor
      · intro e
        have := turn_turn h (b : Int) (-(b0 : Int))
        rw [e, ← hb2, turn_turn h, show (b0 : Int) + -(b0 : Int) = 0 by omega, turn_zero h, show (b : Int) + -(b0 : Int) = (b : Int) - b0 by omega] at this
        exact this.symm
      · intro e
        have := turn_turn h ((b : Int) - (b0 : Int)) (b0 : Int)
        rw [e, show (b : Int) - b0 + b0 = b by omega, hb2] at this
        exact this.symm
    rw [h1, fix_iff h, ← Int.emod_eq_emod_iff_emod_sub_eq_zero]
    exact ⟨fun e => by exact_mod_cast e, fun e => by exact_mod_cast e⟩
  refine ⟨b0 % periodF f, Nat.mod_lt _ (by omega), sortedNat_eq ((range_lt _).sublist List.filter_sublist) ?_ fun b => ?_⟩
  · rw [List.pairwise_map]
    exact (range_lt _).imp fun {x y} hxy => by
      have := Nat.mul_lt_mul_of_pos_right hxy (show 0 < periodF f by omega)
      omega
  · rw [hmem, List.mem_map]
    constructor
    · rintro ⟨hb, e⟩
      have he := Nat.div_add_mod b (periodF f)
      refine ⟨b / periodF f, List.mem_range.2 ?_, by rw [← e, Nat.mul_comm]; omega⟩
      exact Nat.div_lt_of_lt_mul (by rw [← hq]; exact hb)
    · rintro ⟨k, hk, rfl⟩
      rw [List.mem_range] at hk
      have hr := Nat.mod_lt b0 (show periodF f > 0 by omega)
      refine ⟨?_, by rw [Nat.add_mul_mod_self_right, Nat.mod_mod]⟩
      have : (k + 1) * periodF f ≤ f.S / periodF f * periodF f := Nat.mul_le_mul_right _ hk
      rw [Nat.add_mul, Nat.one_mul, Nat.mul_comm (f.S / periodF f), ← hq] at this
      omega
theorem turns_len (h : f.valid = true) (hne : turnsF f g ≠ []) : (turnsF f g).length = f.S / periodF f := by
  obtain ⟨r, _, e⟩ := turns_eq h hne
  rw [e]
  simp
theorem turns_next (h : f.valid = true) {i a b : Nat} (ha : (turnsF f g)[i]? = some a) (hb : (turnsF f g)[i + 1]? = some b) : b = a + periodF f := by
  have hne : turnsF f g ≠ [] := fun e => by rw [e] at ha; cases ha
  obtain ⟨r, _, e⟩ := turns_eq h hne
  rw [e, List.getElem?_map] at ha hb
  have h1 := (List.getElem?_eq_some_iff.1 (show ((List.range (f.S / periodF f)).map fun k => r + k * periodF f)[i + 1]? = some b by rw [List.getElem?_map]; exact hb)).1
  rw [List.length_map, List.length_range] at h1
  rw [List.getElem?_range (by omega)] at ha
  rw [List.getElem?_range h1] at hb
  cases ha
  cases hb
  show r + (i + 1) * periodF f = r + i * periodF f + periodF f
  rw [Nat.add_mul, Nat.one_mul]
  omega
end
end Go.Proofs.YtmpkglokhchpiaaGreatDoor
namespace Go.Proofs.YtmpkglokhchpiaaGreatDoor
set_option linter.unusedSimpArgs false
set_option linter.unusedVariables false
open Go.RowKit

section
variable {f : FaceV}
theorem harp_valid (h : f.valid = true) : (harpF f).valid = true ∧ (harpF f).sectors = max (periodF f : Int) 2 ∧ (harpF f).rings = f.rings ∧ (harpF f).eye = f.eye := by
  obtain ⟨p1, p2, _, _⟩ := period_spec h
  have hS := (FaceV.nat h).2.2.2.2
  refine ⟨mapF_valid h _ ⟨Nat.le_max_left .., by omega⟩ _, ?_, rfl, rfl⟩
  show ((max 2 (periodF f) : Nat) : Int) = _
  omega
theorem harp_plain (h : f.valid = true) {i : Nat} (hi : i < f.kinds.length) : (harpF f).kat (i / f.S * max 2 (periodF f) + i % f.S % max 2 (periodF f)) = f.kat i := by
  obtain ⟨p1, p2, _, _⟩ := period_spec h
  obtain ⟨e1, e2, e3, e4, e5, e6, e7⟩ := FaceV.nat h
  rw [e7] at hi
  have hdiv : i / f.S < f.R := Nat.div_lt_of_lt_mul (by rw [Nat.mul_comm]; exact hi)
  have hmod : i % f.S < f.S := Nat.mod_lt _ (by omega)
  have he : i / f.S * f.S + i % f.S = i := by rw [Nat.mul_comm]; exact Nat.div_add_mod i f.S
  have hm := Nat.mod_lt (i % f.S) (show max 2 (periodF f) > 0 by omega)
  have hle := Nat.mod_le (i % f.S) (max 2 (periodF f))
  unfold harpF
  rw [mapF_kat _ _ hdiv hm, indexF_eq h, Int.toNat_natCast, Int.emod_eq_of_lt (by omega) (by omega), Int.toNat_natCast]
  have hfix : turnF f ((i % f.S : Nat) - (i % f.S % max 2 (periodF f) : Nat) : Int) = f := by
    rw [fix_iff h]
    have hd := Nat.div_add_mod (i % f.S) (max 2 (periodF f))
    by_cases hp : periodF f = 1
    · rw [hp]; simp
    · have hM : max 2 (periodF f) = periodF f := by omega
      rw [hM] at hd ⊢
      have : ((i % f.S : Nat) : Int) - ((i % f.S % periodF f : Nat) : Int) = (periodF f : Int) * ((i % f.S / periodF f : Nat) : Int) := by
        have : i % f.S = periodF f * (i % f.S / periodF f) + i % f.S % periodF f := hd.symm
        have h2 : ((i % f.S : Nat) : Int) = (periodF f : Int) * ((i % f.S / periodF f : Nat) : Int) + ((i % f.S % periodF f : Nat) : Int) := by exact_mod_cast this
        omega
      rw [this, Int.mul_emod_right]
  have hk := turn_kat h ((i % f.S : Nat) - (i % f.S % max 2 (periodF f) : Nat) : Int) hdiv hmod
  rw [hfix, show ((i % f.S : Nat) : Int) - (((i % f.S : Nat) : Int) - ((i % f.S % max 2 (periodF f) : Nat) : Int)) = ((i % f.S % max 2 (periodF f) : Nat) : Int) by omega, Int.emod_eq_of_lt (by omega) (by omega), Int.toNat_natCast, he] at hk
  exact hk.symm
end
end Go.Proofs.YtmpkglokhchpiaaGreatDoor
namespace Go.Proofs.YtmpkglokhchpiaaGreatDoor
set_option linter.unusedSimpArgs false
set_option linter.unusedVariables false
open Go.RowKit

section
variable {f : FaceV}
theorem face_eq {f g : FaceV} (h1 : f.eye = g.eye) (h2 : f.rings = g.rings) (h3 : f.sectors = g.sectors) (h4 : f.kinds = g.kinds) : f = g := by
  cases f; cases g
  simp only at h1 h2 h3 h4
  subst h1; subst h2; subst h3; subst h4
  rfl
end
end Go.Proofs.YtmpkglokhchpiaaGreatDoor
namespace Go.Proofs.YtmpkglokhchpiaaGreatDoor
set_option linter.unusedSimpArgs false
set_option linter.unusedVariables false
open Go.RowKit

def FOwn (w W : World) (g : FaceV) (a : Option Addr) (n : Nat) : Prop := W.ownsRow w.heap.size 3 1 (.slice a g.kinds.length n) g.kinds.length (g.kinds.map intV)
theorem FOwn.rd {w W : World} {g : FaceV} {a : Option Addr} {n : Nat} (h : FOwn w W g a n) : RdI W a g.kinds.length n g.kinds := RdA.of_own h
theorem FOwn.nil (w W : World) : FOwn w W zeroF none 0 := World.ownsRow_nil _ _ _ _
theorem FOwn.below {w W W' : World} {g : FaceV} {a : Option Addr} {n : Nat} (h : FOwn w W g a n) (hb : Below W.heap.size W W') : FOwn w W' g a n := own_below h hb
theorem FOwn.mono {w V W : World} {g : FaceV} {a : Option Addr} {n : Nat} (h : FOwn V W g a n) (hb : w.heap.size ≤ V.heap.size) : FOwn w W g a n := own_mono h hb
theorem FOwn.kept {w W W' : World} {g : FaceV} {a : Option Addr} {n p : Nat} {A : Array Value} (h : FOwn w W g a n) (hg : W.grownBy W' (some p)) (hp : W.heap[p]? = some (.cells A 28 (0, 0))) : FOwn w W' g a n :=
  World.ownsRow.kept h hg (.inr (qown_no h hp (by simp)).symm)
theorem mapped2_any (f : FaceV) (a : Option Addr) (n s : Nat) (si : Int) (of : Int → Int) (fn : Nat) (cap : Array Value) (w : World) (hsi : si = (s : Int)) (hv : f.valid = true) (hr : RdI w a f.kinds.length n f.kinds) (hs : 1 ≤ s ∧ s ≤ 96)
    (hfn : ∀ (args : Array Value) (w : World), (callFunc fn args).run Tryz.prog w = .ok (.enter fn args) w)
    (hcl : ∀ (j : Nat) W, Below w.heap.size w W → j < s → Calls Tryz.prog fn (#[.int .i64 j] ++ cap) W fun e W' => e = .returned (.int .i64 (of j)) ∧ Below W.heap.size W W') :
    Calls Tryz.prog 72 #[.agg (f.cells a n), .int .i64 si, .func (.func fn) #[] cap] w fun e w' => (∃ a' n', e = .returned (.agg ((mapF f s of).cells a' n')) ∧ FOwn w w' (mapF f s of) a' n') ∧ Below w.heap.size w w' := by
  subst hsi
  refine (mapped_any f a n s of fn cap w hv hr hs hfn hcl).mono ?_
  rintro e W ⟨a', n', rfl, h1, h2⟩
  exact ⟨⟨a', n', rfl, h1⟩, h2⟩
set_option maxHeartbeats 4000000 in
set_option maxRecDepth 100000 in
theorem turned_any (f : FaceV) (a : Option Addr) (n : Nat) (by_ : Int) (w : World) (hv : f.valid = true) (hr : RdI w a f.kinds.length n f.kinds) :
    Calls Tryz.prog 71 #[.agg (f.cells a n), .int .i64 by_] w fun e w' => (∃ a' n', e = .returned (.agg ((turnF f by_).cells a' n')) ∧ FOwn w w' (turnF f by_) a' n') ∧ Below w.heap.size w w' := by
  have HR := Lib.hid (fun W (hb : Below w.heap.size w W) => hr.below hb)
  have NV := Lib.hid (FaceV.nat hv)
  have IV := Lib.hid (FaceV.int hv)
  have HV := Lib.hid hv
  clear hr hv
  have AL := Lib.hid (al3 w (.cells (f.cells a n) 28) (.cells #[.int .i64 by_] 3) (.cells #[.int .i64 0, .int .i64 0, .int .i64 0, .slice none 0 0] 28))
  go_enter Tryz.func71, Tryz.ntmps71
  go_upto_region 1 with fail
  obtain ⟨p, hp⟩ : ∃ p, Hid (w.heap.size = p) := ⟨_, Lib.hid rfl⟩
  obtain ⟨q, hq⟩ : ∃ q, Hid (w.heap.size + 1 = q) := ⟨_, Lib.hid rfl⟩
  obtain ⟨z, hz⟩ : ∃ z, Hid (w.heap.size + 2 = z) := ⟨_, Lib.hid rfl⟩
  rw [hz.out] at AL ⊢
  rw [hq.out] at AL ⊢
  rw [hp.out] at AL ⊢
  generalize (((w.alloc (.cells (f.cells a n) 28)).alloc (.cells #[.int .i64 by_] 3)).alloc (.cells #[.int .i64 0, .int .i64 0, .int .i64 0, .slice none 0 0] 28)) = W0 at *
  have BF : Hid (Below w.heap.size w W0) := Lib.hid (by rw [hp.out]; exact AL.out.1)
  have XF : Hid (W0.heap[p]? = some (.cells (f.cells a n) 28 (0, 0))) := Lib.hid AL.out.2.1
  have XB : Hid (W0.heap[q]? = some (.cells #[.int .i64 by_] 3 (0, 0))) := Lib.hid AL.out.2.2.1
  have XZ : Hid (W0.heap[z]? = some (.cells (zeroF.cells none 0) 28 (0, 0))) := Lib.hid AL.out.2.2.2
  clear AL
  have c0 := qcell XF.out 0 (.int .i64 f.eye) rfl
  have c1 := qcell XF.out 1 (.int .i64 f.rings) rfl
  have c2 := qcell XF.out 2 (.int .i64 f.sectors) rfl
  have c3 := qcell XF.out 3 (.slice a f.kinds.length n) rfl
  have d0 := qcell XB.out 0 (.int .i64 by_) rfl
  go_wp2_with (first
    | (refine wpList_load_row rfl 28 _ rfl p rfl 28 (f.cells a n) (0, 0) _ XF.out Tryz.underlying28 rfl (by exact (qJF f a n)) ?_)
    | (refine wpList_load_row rfl 28 _ rfl z rfl 28 (zeroF.cells none 0) (0, 0) _ XZ.out Tryz.underlying28 rfl (by exact (qJF zeroF none 0)) ?_)
    | fail)
  refine (around_any by_ f.sectors W0 (by have := IV.out; omega)).mono ?_
  rintro e V1 ⟨rfl, rfl⟩
  have fz := qfroz XB.out 0
  go_upto_region 2 with (first
    | (refine wpList_load_row rfl 28 _ rfl p rfl 28 (f.cells a n) (0, 0) _ XF.out Tryz.underlying28 rfl (by exact (qJF f a n)) ?_)
    | (refine wpList_load_row rfl 28 _ rfl z rfl 28 (zeroF.cells none 0) (0, 0) _ XZ.out Tryz.underlying28 rfl (by exact (qJF zeroF none 0)) ?_)
    | fail)
  clear c0 c1 c2 c3 d0
  clear fz
  have HG := qput_grown V1 q 0 (.int .i64 (around by_ f.sectors))
  replace BF := Lib.hid (qstep BF.out HG (by have h1 := hq.out; omega))
  have XR : Hid ((V1.setCell ⟨q, 0, none⟩ (.int .i64 (around by_ f.sectors))).heap[q]? = some (.cells #[.int .i64 (around by_ f.sectors)] 3 (0, 0))) := Lib.hid (by rw [qput_at XB.out 0 _]; rfl)
  replace XF := Lib.hid (qgrown HG XF.out (fun e => by have h1 := hp.out; have h2 := hq.out; have := Option.some.inj e; omega))
  replace XZ := Lib.hid (qgrown HG XZ.out (fun e => by have h1 := hz.out; have h2 := hq.out; have := Option.some.inj e; omega))
  clear HG XB
  generalize V1.setCell ⟨q, 0, none⟩ (.int .i64 (around by_ f.sectors)) = V2 at *
  have c0 := qcell XF.out 0 (.int .i64 f.eye) rfl
  have c1 := qcell XF.out 1 (.int .i64 f.rings) rfl
  have c2 := qcell XF.out 2 (.int .i64 f.sectors) rfl
  have c3 := qcell XF.out 3 (.slice a f.kinds.length n) rfl
  have d0 := qcell XR.out 0 (.int .i64 (around by_ f.sectors)) rfl
  go_wp2_with (first
    | (refine wpList_load_row rfl 28 _ rfl p rfl 28 (f.cells a n) (0, 0) _ XF.out Tryz.underlying28 rfl (by exact (qJF f a n)) ?_)
    | (refine wpList_load_row rfl 28 _ rfl z rfl 28 (zeroF.cells none 0) (0, 0) _ XZ.out Tryz.underlying28 rfl (by exact (qJF zeroF none 0)) ?_)
    | fail)
  refine (mapped2_any f a n f.S f.sectors (fun s => s - around by_ f.sectors) 109 #[.pointer (some ⟨q, 0, none⟩)] V2 NV.out.2.1 HV.out (HR.out V2 BF.out) (by have := NV.out; omega) (fun args w => by kernel_rfl) (fun j W hb hj => ?cl)).mono ?_
  case cl =>
    have h0 := qcell (qblk hb XR.out) 0 (.int .i64 (around by_ f.sectors)) rfl
    have hA := around_lt HV.out by_
    have WA := Lib.hid (show wrap64 ((j : Int) - around by_ f.sectors) = (j : Int) - around by_ f.sectors by have := IV.out; have := NV.out; unfold wrap64; omega)
    clear hA hb d0 c0 c1 c2 c3
    go_enter Tryz.func109, Tryz.ntmps109
    go_wp2_with fail
    go_ret
    exact ⟨by first | (rw [WA.out]; rfl) | (rw [← WA.out]; rfl) | rfl, Below.refl _ _⟩
  rintro e V3 ⟨⟨a', n', rfl, own⟩, b⟩
  have OW := Lib.hid (own.mono BF.out.size)
  clear own
  clear c0 c1 c2 c3 d0
  replace BF := Lib.hid (BF.out.trans (b.mono BF.out.size))
  replace XF := Lib.hid (qblk b XF.out)
  replace XR := Lib.hid (qblk b XR.out)
  replace XZ := Lib.hid (qblk b XZ.out)
  clear b
  have c0 := qcell XF.out 0 (.int .i64 f.eye) rfl
  have c1 := qcell XF.out 1 (.int .i64 f.rings) rfl
  have c2 := qcell XF.out 2 (.int .i64 f.sectors) rfl
  have c3 := qcell XF.out 3 (.slice a f.kinds.length n) rfl
  have d0 := qcell XR.out 0 (.int .i64 (around by_ f.sectors)) rfl
  have eT : mapF f f.S (fun s => s - around by_ f.sectors) = turnF f by_ := rfl
  rw [eT] at OW ⊢
  clear eT
  go_wp2_with (first
    | (refine wpList_load_row rfl 28 _ rfl p rfl 28 (f.cells a n) (0, 0) _ XF.out Tryz.underlying28 rfl (by exact (qJF f a n)) ?_)
    | (refine wpList_load_row rfl 28 _ rfl z rfl 28 (zeroF.cells none 0) (0, 0) _ XZ.out Tryz.underlying28 rfl (by exact (qJF zeroF none 0)) ?_)
    | (refine wpList_qstore rfl 28 _ _ rfl z (zeroF.cells none 0) ((turnF f by_).cells a' n') 28 rfl rfl XZ.out (by exact (qJF (turnF f by_) a' n')) rfl (qone (turnF f by_) a' n') ?_; intro VZ hzz hgz; clear c0 c1 c2 c3 d0; replace BF := Lib.hid (qstep BF.out hgz (by have h1 := hz.out; omega)); replace XF := Lib.hid (qgrown hgz XF.out (fun e => by have h1 := hp.out; have h2 := hz.out; have := Option.some.inj e; omega)); replace XR := Lib.hid (qgrown hgz XR.out (fun e => by have h1 := hq.out; have h2 := hz.out; have := Option.some.inj e; omega)); replace OW := Lib.hid (OW.out.kept hgz XZ.out); replace XZ := Lib.hid hzz; clear hzz hgz; have c0 := qcell XF.out 0 (.int .i64 f.eye) rfl; have c1 := qcell XF.out 1 (.int .i64 f.rings) rfl; have c2 := qcell XF.out 2 (.int .i64 f.sectors) rfl; have c3 := qcell XF.out 3 (.slice a f.kinds.length n) rfl; have d0 := qcell XR.out 0 (.int .i64 (around by_ f.sectors)) rfl)
    | fail)
  (try simp only [Exit.inBlock, Exit.then])
  refine bodyPost_ret (results_cell_row rfl _ VZ z 28 ((turnF f by_).cells a' n') (0, 0) _ rfl XZ.out Tryz.underlying28 rfl (by exact (qJF (turnF f by_) a' n'))) rfl ?_
  exact ⟨⟨a', n', rfl, OW.out⟩, BF.out⟩
set_option maxHeartbeats 4000000 in
set_option maxRecDepth 100000 in
theorem turnP_any (f : FaceV) (a : Option Addr) (n : Nat) (by_ : Int) (w : World) (hr : RdI w a f.kinds.length n f.kinds) :
    Calls Tryz.prog 23 #[.agg (f.cells a n), .int .i64 by_] w fun e w' => (∃ a' n', e = .returned (.tuple #[.agg ((turnP f by_).1.cells a' n'), .int .i64 (turnP f by_).2]) ∧ FOwn w w' (turnP f by_).1 a' n') ∧ Below w.heap.size w w' := by
  have AV := Lib.hid (fun W (hb : Below w.heap.size w W) => valid2_any f a n W (hr.below hb))
  have HR := Lib.hid (fun W (hb : Below w.heap.size w W) => hr.below hb)
  clear hr
  have AL := Lib.hid (al2 w (.cells (f.cells a n) 28) (.cells #[.int .i64 0, .int .i64 0, .int .i64 0, .slice none 0 0] 28))
  go_enter Tryz.func23, Tryz.ntmps23
  go_upto_region 1 with fail
  obtain ⟨p, hp⟩ : ∃ p, Hid (w.heap.size = p) := ⟨_, Lib.hid rfl⟩
  obtain ⟨z, hz⟩ : ∃ z, Hid (w.heap.size + 1 = z) := ⟨_, Lib.hid rfl⟩
  rw [hz.out] at AL ⊢
  rw [hp.out] at AL ⊢
  generalize ((w.alloc (.cells (f.cells a n) 28)).alloc (.cells #[.int .i64 0, .int .i64 0, .int .i64 0, .slice none 0 0] 28)) = W0 at *
  have BF : Hid (Below w.heap.size w W0) := Lib.hid (by rw [hp.out]; exact AL.out.1)
  have XF : Hid (W0.heap[p]? = some (.cells (f.cells a n) 28 (0, 0))) := Lib.hid AL.out.2.1
  have XZ : Hid (W0.heap[z]? = some (.cells (zeroF.cells none 0) 28 (0, 0))) := Lib.hid AL.out.2.2
  clear AL
  have c0 := qcell XF.out 0 (.int .i64 f.eye) rfl
  have c1 := qcell XF.out 1 (.int .i64 f.rings) rfl
  have c2 := qcell XF.out 2 (.int .i64 f.sectors) rfl
  have c3 := qcell XF.out 3 (.slice a f.kinds.length n) rfl
  go_wp2_with (first
    | (refine wpList_load_row rfl 28 _ rfl p rfl 28 (f.cells a n) (0, 0) _ XF.out Tryz.underlying28 rfl (by exact (qJF f a n)) ?_)
    | (refine wpList_load_row rfl 28 _ rfl z rfl 28 (zeroF.cells none 0) (0, 0) _ XZ.out Tryz.underlying28 rfl (by exact (qJF zeroF none 0)) ?_)
    | fail)
  refine (AV.out W0 BF.out).mono ?_
  rintro e V1 ⟨rfl, b⟩
  clear c0 c1 c2 c3
  replace BF := Lib.hid (BF.out.trans (b.mono BF.out.size))
  replace XF := Lib.hid (qblk b XF.out)
  replace XZ := Lib.hid (qblk b XZ.out)
  clear b
  have c0 := qcell XF.out 0 (.int .i64 f.eye) rfl
  have c1 := qcell XF.out 1 (.int .i64 f.rings) rfl
  have c2 := qcell XF.out 2 (.int .i64 f.sectors) rfl
  have c3 := qcell XF.out 3 (.slice a f.kinds.length n) rfl
  cases hv : f.valid
  · go_wp2_with (first
      | (refine wpList_load_row rfl 28 _ rfl p rfl 28 (f.cells a n) (0, 0) _ XF.out Tryz.underlying28 rfl (by exact (qJF f a n)) ?_)
      | (refine wpList_load_row rfl 28 _ rfl z rfl 28 (zeroF.cells none 0) (0, 0) _ XZ.out Tryz.underlying28 rfl (by exact (qJF zeroF none 0)) ?_)
      | (refine wpList_qstore rfl 28 _ _ rfl z (zeroF.cells none 0) (zeroF.cells none 0) 28 rfl rfl XZ.out (by exact (qJF zeroF none 0)) rfl (qone zeroF none 0) ?_; intro VZ hzz hgz; clear c0 c1 c2 c3; replace BF := Lib.hid (qstep BF.out hgz (by have h1 := hz.out; omega)); replace XF := Lib.hid (qgrown hgz XF.out (fun e => by have h1 := hp.out; have h2 := hz.out; have := Option.some.inj e; omega)); replace XZ := Lib.hid hzz; clear hzz hgz; have c0 := qcell XF.out 0 (.int .i64 f.eye) rfl; have c1 := qcell XF.out 1 (.int .i64 f.rings) rfl; have c2 := qcell XF.out 2 (.int .i64 f.sectors) rfl; have c3 := qcell XF.out 3 (.slice a f.kinds.length n) rfl)
      | fail)
    (try simp only [Exit.inBlock, Exit.then])
    refine bodyPost_ret (results_ct rfl _ VZ z 28 (zeroF.cells none 0) (0, 0) _ rfl XZ.out Tryz.underlying28 rfl (by exact (qJF zeroF none 0))) rfl ?_
    unfold turnP
    rw [hv]
    exact ⟨⟨none, 0, rfl, FOwn.nil _ _⟩, BF.out⟩
  · have HV := Lib.hid hv
    clear hv
    go_wp2_with (first
      | (refine wpList_load_row rfl 28 _ rfl p rfl 28 (f.cells a n) (0, 0) _ XF.out Tryz.underlying28 rfl (by exact (qJF f a n)) ?_)
      | (refine wpList_load_row rfl 28 _ rfl z rfl 28 (zeroF.cells none 0) (0, 0) _ XZ.out Tryz.underlying28 rfl (by exact (qJF zeroF none 0)) ?_)
      | fail)
    refine (turned_any f a n by_ V1 HV.out (HR.out V1 BF.out)).mono ?_
    rintro e V3 ⟨⟨a', n', rfl, own⟩, b⟩
    have OW := Lib.hid (own.mono BF.out.size)
    clear own
    clear c0 c1 c2 c3
    replace BF := Lib.hid (BF.out.trans (b.mono BF.out.size))
    replace XF := Lib.hid (qblk b XF.out)
    replace XZ := Lib.hid (qblk b XZ.out)
    clear b
    have c0 := qcell XF.out 0 (.int .i64 f.eye) rfl
    have c1 := qcell XF.out 1 (.int .i64 f.rings) rfl
    have c2 := qcell XF.out 2 (.int .i64 f.sectors) rfl
    have c3 := qcell XF.out 3 (.slice a f.kinds.length n) rfl
    go_wp2_with (first
      | (refine wpList_load_row rfl 28 _ rfl p rfl 28 (f.cells a n) (0, 0) _ XF.out Tryz.underlying28 rfl (by exact (qJF f a n)) ?_)
      | (refine wpList_load_row rfl 28 _ rfl z rfl 28 (zeroF.cells none 0) (0, 0) _ XZ.out Tryz.underlying28 rfl (by exact (qJF zeroF none 0)) ?_)
      | (refine wpList_qstore rfl 28 _ _ rfl z (zeroF.cells none 0) ((turnF f by_).cells a' n') 28 rfl rfl XZ.out (by exact (qJF (turnF f by_) a' n')) rfl (qone (turnF f by_) a' n') ?_; intro VZ hzz hgz; clear c0 c1 c2 c3; replace BF := Lib.hid (qstep BF.out hgz (by have h1 := hz.out; omega)); replace XF := Lib.hid (qgrown hgz XF.out (fun e => by have h1 := hp.out; have h2 := hz.out; have := Option.some.inj e; omega)); replace OW := Lib.hid (OW.out.kept hgz XZ.out); replace XZ := Lib.hid hzz; clear hzz hgz; have c0 := qcell XF.out 0 (.int .i64 f.eye) rfl; have c1 := qcell XF.out 1 (.int .i64 f.rings) rfl; have c2 := qcell XF.out 2 (.int .i64 f.sectors) rfl; have c3 := qcell XF.out 3 (.slice a f.kinds.length n) rfl)
      | fail)
    (try simp only [Exit.inBlock, Exit.then])
    refine bodyPost_ret (results_ct rfl _ VZ z 28 ((turnF f by_).cells a' n') (0, 0) _ rfl XZ.out Tryz.underlying28 rfl (by exact (qJF (turnF f by_) a' n'))) rfl ?_
    unfold turnP
    rw [HV.out]
    exact ⟨⟨a', n', rfl, OW.out⟩, BF.out⟩
set_option maxHeartbeats 4000000 in
set_option maxRecDepth 100000 in
theorem mirrorP_any (f : FaceV) (a : Option Addr) (n : Nat) (w : World) (hr : RdI w a f.kinds.length n f.kinds) :
    Calls Tryz.prog 24 #[.agg (f.cells a n)] w fun e w' => (∃ a' n', e = .returned (.tuple #[.agg ((mirrorP f).1.cells a' n'), .int .i64 (mirrorP f).2]) ∧ FOwn w w' (mirrorP f).1 a' n') ∧ Below w.heap.size w w' := by
  have AV := Lib.hid (fun W (hb : Below w.heap.size w W) => valid2_any f a n W (hr.below hb))
  have HR := Lib.hid (fun W (hb : Below w.heap.size w W) => hr.below hb)
  clear hr
  have AL := Lib.hid (al2 w (.cells (f.cells a n) 28) (.cells #[.int .i64 0, .int .i64 0, .int .i64 0, .slice none 0 0] 28))
  go_enter Tryz.func24, Tryz.ntmps24
  go_upto_region 1 with fail
  obtain ⟨p, hp⟩ : ∃ p, Hid (w.heap.size = p) := ⟨_, Lib.hid rfl⟩
  obtain ⟨z, hz⟩ : ∃ z, Hid (w.heap.size + 1 = z) := ⟨_, Lib.hid rfl⟩
  rw [hz.out] at AL ⊢
  rw [hp.out] at AL ⊢
  generalize ((w.alloc (.cells (f.cells a n) 28)).alloc (.cells #[.int .i64 0, .int .i64 0, .int .i64 0, .slice none 0 0] 28)) = W0 at *
  have BF : Hid (Below w.heap.size w W0) := Lib.hid (by rw [hp.out]; exact AL.out.1)
  have XF : Hid (W0.heap[p]? = some (.cells (f.cells a n) 28 (0, 0))) := Lib.hid AL.out.2.1
  have XZ : Hid (W0.heap[z]? = some (.cells (zeroF.cells none 0) 28 (0, 0))) := Lib.hid AL.out.2.2
  clear AL
  have c0 := qcell XF.out 0 (.int .i64 f.eye) rfl
  have c1 := qcell XF.out 1 (.int .i64 f.rings) rfl
  have c2 := qcell XF.out 2 (.int .i64 f.sectors) rfl
  have c3 := qcell XF.out 3 (.slice a f.kinds.length n) rfl
  go_wp2_with (first
    | (refine wpList_load_row rfl 28 _ rfl p rfl 28 (f.cells a n) (0, 0) _ XF.out Tryz.underlying28 rfl (by exact (qJF f a n)) ?_)
    | (refine wpList_load_row rfl 28 _ rfl z rfl 28 (zeroF.cells none 0) (0, 0) _ XZ.out Tryz.underlying28 rfl (by exact (qJF zeroF none 0)) ?_)
    | fail)
  refine (AV.out W0 BF.out).mono ?_
  rintro e V1 ⟨rfl, b⟩
  clear c0 c1 c2 c3
  replace BF := Lib.hid (BF.out.trans (b.mono BF.out.size))
  replace XF := Lib.hid (qblk b XF.out)
  replace XZ := Lib.hid (qblk b XZ.out)
  clear b
  have c0 := qcell XF.out 0 (.int .i64 f.eye) rfl
  have c1 := qcell XF.out 1 (.int .i64 f.rings) rfl
  have c2 := qcell XF.out 2 (.int .i64 f.sectors) rfl
  have c3 := qcell XF.out 3 (.slice a f.kinds.length n) rfl
  cases hv : f.valid
  · go_wp2_with (first
      | (refine wpList_load_row rfl 28 _ rfl p rfl 28 (f.cells a n) (0, 0) _ XF.out Tryz.underlying28 rfl (by exact (qJF f a n)) ?_)
      | (refine wpList_load_row rfl 28 _ rfl z rfl 28 (zeroF.cells none 0) (0, 0) _ XZ.out Tryz.underlying28 rfl (by exact (qJF zeroF none 0)) ?_)
      | (refine wpList_qstore rfl 28 _ _ rfl z (zeroF.cells none 0) (zeroF.cells none 0) 28 rfl rfl XZ.out (by exact (qJF zeroF none 0)) rfl (qone zeroF none 0) ?_; intro VZ hzz hgz; clear c0 c1 c2 c3; replace BF := Lib.hid (qstep BF.out hgz (by have h1 := hz.out; omega)); replace XF := Lib.hid (qgrown hgz XF.out (fun e => by have h1 := hp.out; have h2 := hz.out; have := Option.some.inj e; omega)); replace XZ := Lib.hid hzz; clear hzz hgz; have c0 := qcell XF.out 0 (.int .i64 f.eye) rfl; have c1 := qcell XF.out 1 (.int .i64 f.rings) rfl; have c2 := qcell XF.out 2 (.int .i64 f.sectors) rfl; have c3 := qcell XF.out 3 (.slice a f.kinds.length n) rfl)
      | fail)
    (try simp only [Exit.inBlock, Exit.then])
    refine bodyPost_ret (results_ct rfl _ VZ z 28 (zeroF.cells none 0) (0, 0) _ rfl XZ.out Tryz.underlying28 rfl (by exact (qJF zeroF none 0))) rfl ?_
    unfold mirrorP
    rw [hv]
    exact ⟨⟨none, 0, rfl, FOwn.nil _ _⟩, BF.out⟩
  · have HV := Lib.hid hv
    have NV := Lib.hid (FaceV.nat hv)
    have IV := Lib.hid (FaceV.int hv)
    clear hv
    go_wp2_with (first
      | (refine wpList_load_row rfl 28 _ rfl p rfl 28 (f.cells a n) (0, 0) _ XF.out Tryz.underlying28 rfl (by exact (qJF f a n)) ?_)
      | (refine wpList_load_row rfl 28 _ rfl z rfl 28 (zeroF.cells none 0) (0, 0) _ XZ.out Tryz.underlying28 rfl (by exact (qJF zeroF none 0)) ?_)
      | fail)
    refine (mapped2_any f a n f.S f.sectors (fun s => f.sectors - 1 - s) 73 #[.pointer (some ⟨p, 0, none⟩)] V1 NV.out.2.1 HV.out (HR.out V1 BF.out) (by have := NV.out; omega) (fun args w => by kernel_rfl) (fun j W hb hj => ?cl)).mono ?_
    case cl =>
      have h0 := qcell (qblk hb XF.out) 2 (.int .i64 f.sectors) rfl
      have WA := Lib.hid (show wrap64 (f.sectors - 1 - (j : Int)) = f.sectors - 1 - (j : Int) by have := IV.out; have := NV.out; unfold wrap64; omega)
      have WB := Lib.hid (show wrap64 (f.sectors - 1) = f.sectors - 1 by have := IV.out; unfold wrap64; omega)
      clear hb c0 c1 c2 c3
      go_enter Tryz.func73, Tryz.ntmps73
      go_wp2_with fail
      go_ret
      exact ⟨by first | (rw [WB.out, WA.out]; rfl) | (rw [← WA.out]; rfl) | rfl, Below.refl _ _⟩
    rintro e V3 ⟨⟨a', n', rfl, own⟩, b⟩
    have OW := Lib.hid (own.mono BF.out.size)
    clear own
    clear c0 c1 c2 c3
    replace BF := Lib.hid (BF.out.trans (b.mono BF.out.size))
    replace XF := Lib.hid (qblk b XF.out)
    replace XZ := Lib.hid (qblk b XZ.out)
    clear b
    have c0 := qcell XF.out 0 (.int .i64 f.eye) rfl
    have c1 := qcell XF.out 1 (.int .i64 f.rings) rfl
    have c2 := qcell XF.out 2 (.int .i64 f.sectors) rfl
    have c3 := qcell XF.out 3 (.slice a f.kinds.length n) rfl
    have eT : mapF f f.S (fun s => f.sectors - 1 - s) = mirrorF f := rfl
    rw [eT] at OW ⊢
    clear eT
    go_wp2_with (first
      | (refine wpList_load_row rfl 28 _ rfl p rfl 28 (f.cells a n) (0, 0) _ XF.out Tryz.underlying28 rfl (by exact (qJF f a n)) ?_)
      | (refine wpList_load_row rfl 28 _ rfl z rfl 28 (zeroF.cells none 0) (0, 0) _ XZ.out Tryz.underlying28 rfl (by exact (qJF zeroF none 0)) ?_)
      | (refine wpList_qstore rfl 28 _ _ rfl z (zeroF.cells none 0) ((mirrorF f).cells a' n') 28 rfl rfl XZ.out (by exact (qJF (mirrorF f) a' n')) rfl (qone (mirrorF f) a' n') ?_; intro VZ hzz hgz; clear c0 c1 c2 c3; replace BF := Lib.hid (qstep BF.out hgz (by have h1 := hz.out; omega)); replace XF := Lib.hid (qgrown hgz XF.out (fun e => by have h1 := hp.out; have h2 := hz.out; have := Option.some.inj e; omega)); replace OW := Lib.hid (OW.out.kept hgz XZ.out); replace XZ := Lib.hid hzz; clear hzz hgz; have c0 := qcell XF.out 0 (.int .i64 f.eye) rfl; have c1 := qcell XF.out 1 (.int .i64 f.rings) rfl; have c2 := qcell XF.out 2 (.int .i64 f.sectors) rfl; have c3 := qcell XF.out 3 (.slice a f.kinds.length n) rfl)
      | fail)
    (try simp only [Exit.inBlock, Exit.then])
    refine bodyPost_ret (results_ct rfl _ VZ z 28 ((mirrorF f).cells a' n') (0, 0) _ rfl XZ.out Tryz.underlying28 rfl (by exact (qJF (mirrorF f) a' n'))) rfl ?_
    unfold mirrorP
    rw [HV.out]
    exact ⟨⟨a', n', rfl, OW.out⟩, BF.out⟩
def sameF (f g : FaceV) : Bool := decide (f = g)
theorem qplain_int : Tryz.prog.plainKey 3 = true := by kernel_rfl
theorem run_eqItems_q (w : World) (d : Nat) (l m : List Int) : ∀ is : List Nat, (∀ i ∈ is, i < l.length ∧ i < m.length) →
    (Op.eqItems (d + 1) 3 (Tryz.prog.cellsOf 3) (l.map intV).toArray (m.map intV).toArray is).run Tryz.prog w = .ok (decide (∀ i ∈ is, l[i]?.getD 0 = m[i]?.getD 0)) w
  | [], _ => by simp [Op.eqItems]
  | i :: is, h => by
    have hi := h i (List.mem_cons_self ..)
    have hc : Tryz.prog.cellsOf 3 = 1 := by kernel_rfl
    have ih := run_eqItems_q w d l m is (fun j hj => h j (List.mem_cons_of_mem _ hj))
    have p1 : (part 3 (l.map intV).toArray (i * 1)).run Tryz.prog w = .ok (intV (l[i]?.getD 0)) w := run_part_plain w qplain_int (by simp [List.getElem?_eq_getElem hi.1])
    have p2 : (part 3 (m.map intV).toArray (i * 1)).run Tryz.prog w = .ok (intV (m[i]?.getD 0)) w := run_part_plain w qplain_int (by simp [List.getElem?_eq_getElem hi.2])
    have p3 := run_equalIn_int w d 3 .i64 .i64 (l[i]?.getD 0) (m[i]?.getD 0) Tryz.underlying3
    rw [hc] at ih ⊢
    simp only [Op.eqItems, Sem.run_bind, p1, p2, Result.andThen_ok]
    rw [show Op.equalIn (d + 1) 3 (intV (l[i]?.getD 0)) (intV (m[i]?.getD 0)) = Op.equalIn (d + 1) 3 (.int .i64 (l[i]?.getD 0)) (.int .i64 (m[i]?.getD 0)) from rfl, p3]
    simp only [Result.andThen_ok]
    by_cases he : l[i]?.getD 0 = m[i]?.getD 0
    · simp [he, ih]
    · simp [he]
def eq3 (x y z x' y' z' : Int) : Bool := decide ([x, y, z] = [x', y', z'])
theorem run_equal3 (w : World) (x y z x' y' z' : Int) : (Op.equalIn 10000 96 (.agg #[.int .i64 x, .int .i64 y, .int .i64 z]) (.agg #[.int .i64 x', .int .i64 y', .int .i64 z'])).run Tryz.prog w = .ok (eq3 x y z x' y' z') w := by
  obtain ⟨i, hi, _⟩ : ∃ i, Tryz.prog.info? 3 = some i ∧ True := by
    cases h : Tryz.prog.info? 3 with
    | none => exact absurd h (by
      have : (Tryz.prog.info? 3).isSome = true := by kernel_rfl
      intro h'; rw [h'] at this; cases this)
    | some i => exact ⟨i, rfl, trivial⟩
  have h := run_equalIn_array (P := Tryz.prog) w 9999 (t := 96) ([x, y, z].map intV).toArray ([x', y', z'].map intV).toArray Tryz.underlying96 hi
  rw [run_eqItems_q w 9998 [x, y, z] [x', y', z'] (List.range 3) (fun i hi => by have := List.mem_range.1 hi; simp; omega)] at h
  have e : decide (∀ i ∈ List.range 3, [x, y, z][i]?.getD 0 = [x', y', z'][i]?.getD 0) = decide ([x, y, z] = [x', y', z']) := by
    rw [decide_eq_decide]
    constructor
    · intro h
      have h0 := h 0 (by decide)
      have h1 := h 1 (by decide)
      have h2 := h 2 (by decide)
      simp at h0 h1 h2
      rw [h0, h1, h2]
    · intro h i hi
      rw [h]
  rw [e] at h
  exact h
attribute [local go_sem ↓] run_equal3
set_option maxHeartbeats 4000000 in
set_option maxRecDepth 100000 in
theorem same_any (f g : FaceV) (a b : Option Addr) (n m : Nat) (w : World) (hr : RdI w a f.kinds.length n f.kinds) (hr2 : RdI w b g.kinds.length m g.kinds) :
    Calls Tryz.prog 31 #[.agg (f.cells a n), .agg (g.cells b m)] w fun e w' => e = .returned (.bool (sameF f g)) ∧ Below w.heap.size w w' := by
  have EQ := Lib.hid (fun W (hb : Below w.heap.size w W) => eqInts_any a f.kinds.length n f.kinds b g.kinds.length m g.kinds W (hr.below hb) (hr2.below hb))
  clear hr hr2
  have AL := Lib.hid (al2 w (.cells (f.cells a n) 28) (.cells (g.cells b m) 28))
  go_enter Tryz.func31, Tryz.ntmps31
  go_upto_region 1 with fail
  obtain ⟨p, hp⟩ : ∃ p, Hid (w.heap.size = p) := ⟨_, Lib.hid rfl⟩
  obtain ⟨q, hq⟩ : ∃ q, Hid (w.heap.size + 1 = q) := ⟨_, Lib.hid rfl⟩
  rw [hq.out] at AL ⊢
  rw [hp.out] at AL ⊢
  generalize ((w.alloc (.cells (f.cells a n) 28)).alloc (.cells (g.cells b m) 28)) = W0 at *
  have BF : Hid (Below w.heap.size w W0) := Lib.hid (by rw [hp.out]; exact AL.out.1)
  have XF : Hid (W0.heap[p]? = some (.cells (f.cells a n) 28 (0, 0))) := Lib.hid AL.out.2.1
  have XG : Hid (W0.heap[q]? = some (.cells (g.cells b m) 28 (0, 0))) := Lib.hid AL.out.2.2
  clear AL
  have c0 := qcell XF.out 0 (.int .i64 f.eye) rfl
  have c1 := qcell XF.out 1 (.int .i64 f.rings) rfl
  have c2 := qcell XF.out 2 (.int .i64 f.sectors) rfl
  have c3 := qcell XF.out 3 (.slice a f.kinds.length n) rfl
  have d0 := qcell XG.out 0 (.int .i64 g.eye) rfl
  have d1 := qcell XG.out 1 (.int .i64 g.rings) rfl
  have d2 := qcell XG.out 2 (.int .i64 g.sectors) rfl
  have d3 := qcell XG.out 3 (.slice b g.kinds.length m) rfl
  cases h1 : eq3 f.eye f.rings f.sectors g.eye g.rings g.sectors
  · go_wp2_with (first
      | (refine wpList_load_row rfl 28 _ rfl p rfl 28 (f.cells a n) (0, 0) _ XF.out Tryz.underlying28 rfl (by exact (qJF f a n)) ?_)
      | (refine wpList_load_row rfl 28 _ rfl q rfl 28 (g.cells b m) (0, 0) _ XG.out Tryz.underlying28 rfl (by exact (qJF g b m)) ?_)
      | fail)
    go_ret
    exact ⟨by rw [show sameF f g = false from (by unfold eq3 at h1; simp only [decide_eq_false_iff_not] at h1; unfold sameF; exact decide_eq_false fun e => h1 (by rw [e]))]; rfl, BF.out⟩
  · have H1 := Lib.hid (of_decide_eq_true h1)
    go_wp2_with (first
      | (refine wpList_load_row rfl 28 _ rfl p rfl 28 (f.cells a n) (0, 0) _ XF.out Tryz.underlying28 rfl (by exact (qJF f a n)) ?_)
      | (refine wpList_load_row rfl 28 _ rfl q rfl 28 (g.cells b m) (0, 0) _ XG.out Tryz.underlying28 rfl (by exact (qJF g b m)) ?_)
      | fail)
    refine (EQ.out W0 BF.out).mono ?_
    rintro e V1 ⟨x, rfl, hx, q9, rfl⟩
    have HX := Lib.hid hx
    replace BF := Lib.hid (BF.out.trans (Below.mono (show Below W0.heap.size W0 (W0.drewN q9) from ⟨rfl, rfl, rfl, Nat.le_refl _, fun _ _ => rfl⟩) BF.out.size))
    clear hx
    go_wp2_with fail
    go_ret
    exact ⟨by rw [show sameF f g = x from (by unfold sameF; rw [Bool.eq_iff_iff, HX.out, decide_eq_true_eq]; have h := H1.out; simp only [List.cons.injEq, and_true] at h; exact ⟨fun e => by rw [e], fun e => face_eq h.1 h.2.1 h.2.2 e⟩)]; rfl, BF.out⟩
end Go.Proofs.YtmpkglokhchpiaaGreatDoor
namespace Go.Proofs.YtmpkglokhchpiaaGreatDoor
set_option linter.unusedSimpArgs false
set_option linter.unusedVariables false
open Go.RowKit

set_option maxHeartbeats 4000000 in
set_option maxRecDepth 100000 in
theorem isNaNZ (x : Int) (w : World) : Calls Tryz.prog 134 #[.int .i64 x] w fun e w' => e = .returned (.bool false) ∧ w' = w := by
  have h : (x != x) = false := by simp
  go_enter Tryz.func134, Tryz.ntmps134
  go_wp2_with fail
  go_ret
  exact ⟨rfl, rfl⟩
def cmp1 (x y : Int) : Int := if x < y then -1 else if y < x then 1 else 0
set_option maxHeartbeats 4000000 in
set_option maxRecDepth 100000 in
theorem cmp1_any (x y : Int) (w : World) : Calls Tryz.prog 114 #[.int .i64 x, .int .i64 y] w fun e w' => e = .returned (.int .i64 (cmp1 x y)) ∧ w' = w := by
  by_cases h1 : x < y
  · have t1 : decide (x < y) = true := by simp; omega
    go_enter Tryz.func114, Tryz.ntmps114
    go_wp2_with (refine (isNaNZ _ _).mono ?_; rintro e W1 ⟨rfl, rfl⟩)
    go_ret
    exact ⟨by unfold cmp1; rw [if_pos (by omega)]; rfl, rfl⟩
  · have t1 : decide (x < y) = false := by simp; omega
    by_cases h2 : y < x
    · have t2 : decide (y < x) = true := by simp; omega
      go_enter Tryz.func114, Tryz.ntmps114
      go_wp2_with (refine (isNaNZ _ _).mono ?_; rintro e W1 ⟨rfl, rfl⟩)
      go_ret
      exact ⟨by unfold cmp1; rw [if_neg (by omega), if_pos (by omega)]; rfl, rfl⟩
    · have t2 : decide (y < x) = false := by simp; omega
      go_enter Tryz.func114, Tryz.ntmps114
      go_wp2_with (refine (isNaNZ _ _).mono ?_; rintro e W1 ⟨rfl, rfl⟩)
      go_ret
      exact ⟨by unfold cmp1; rw [if_neg (by omega), if_neg (by omega)]; rfl, rfl⟩
set_option maxHeartbeats 4000000 in
set_option maxRecDepth 100000 in
theorem cmpZ_any (a : Option Addr) (n c : Nat) (l : List Int) (b : Option Addr) (m d : Nat) (l2 : List Int) (w : World) (hr : RdI w a n c l) (hr2 : RdI w b m d l2) :
    Calls Tryz.prog 85 #[.slice a n c, .slice b m d] w fun e w' => e = .returned (.int .i64 (cmpZ l l2)) ∧ w' = w := by
  have HN63 := Lib.hid hr.maxn
  have HM63 := Lib.hid hr2.maxn
  have HN := Lib.hid hr.len
  have HM := Lib.hid hr2.len
  have R1 := Lib.hid hr
  have R2 := Lib.hid hr2
  clear hr hr2
  go_enter Tryz.func85, Tryz.ntmps85
  go_wp2_with fail
  go_loopw [11] (fun i wr => ∃ k : Nat, i = .int .i64 k ∧ k ≤ n ∧ k ≤ m ∧ Hid (cmpZ l l2 = cmpZ (l.drop k) (l2.drop k)) ∧ wr = w) (fun i _ => n - (intOf i).toNat)
  case atStart => exact ⟨0, rfl, Nat.zero_le _, Nat.zero_le _, Lib.hid rfl, rfl⟩
  case round =>
    obtain ⟨k, rfl, hk, hkm, HC, rfl⟩ := hrel
    by_cases hkn : k < n
    · have t0 : decide ((k : Int) < (n : Int)) = true := by simp; omega
      obtain ⟨x, hx⟩ : ∃ x, l[k]? = some x := ⟨l[k]'(by rw [HN.out]; exact hkn), List.getElem?_eq_getElem _⟩
      obtain ⟨b0, off, rfl, hc1⟩ := R1.out.get hx
      have HX := Lib.hid hx
      clear hx
      by_cases hkm2 : k < m
      · have t1 : decide ((m : Int) ≤ (k : Int)) = false := by simp; omega
        obtain ⟨y, hy⟩ : ∃ y, l2[k]? = some y := ⟨l2[k]'(by rw [HM.out]; exact hkm2), List.getElem?_eq_getElem _⟩
        obtain ⟨b1, off1, rfl, hc2⟩ := R2.out.get hy
        have HY := Lib.hid hy
        clear hy
        have ST : Hid (cmpZ l l2 = if x < y then -1 else if y < x then 1 else cmpZ (l.drop (k + 1)) (l2.drop (k + 1))) := Lib.hid (by
          have e1 : l.drop k = x :: l.drop (k + 1) := by
            have h := List.drop_eq_getElem_cons (l := l) (i := k) (by rw [HN.out]; exact hkn)
            rw [h]
            have h2 := HX.out
            rw [List.getElem?_eq_getElem (by rw [HN.out]; exact hkn)] at h2
            rw [Option.some.inj h2]
          have e2 : l2.drop k = y :: l2.drop (k + 1) := by
            have h := List.drop_eq_getElem_cons (l := l2) (i := k) (by rw [HM.out]; exact hkm2)
            rw [h]
            have h2 := HY.out
            rw [List.getElem?_eq_getElem (by rw [HM.out]; exact hkm2)] at h2
            rw [Option.some.inj h2]
          rw [HC.out, e1, e2]
          rfl)
        go_wp2_with fail
        refine (cmp1_any x y _).mono ?_
        rintro e W1 ⟨rfl, rfl⟩
        obtain ⟨c, hc⟩ : ∃ c, Hid (cmp1 x y = c) := ⟨_, Lib.hid rfl⟩
        rw [hc.out]
        by_cases h0 : c = 0
        · have t2 : (c != 0) = false := by simp [h0]
          go_upto_region 10 with fail
          have hk64 : (k : Int) + 1 ≤ 9223372036854775807 := by have := HN63.out; omega
          go_wp2_with fail
          go_roundw
          case rel =>
            refine ⟨k + 1, by simp, by omega, by omega, Lib.hid ?_, by trivial⟩
            rw [ST.out]
            have h1 := hc.out
            unfold cmp1 at h1
            split at h1
            · omega
            · split at h1
              · omega
              · rename_i h2 h3
                rw [if_neg h2, if_neg h3]
          case measure => simp [intOf]; omega
        · have t2 : (c != 0) = true := by simp [h0]
          go_wp2_with fail
          go_ret
          have e : cmpZ l l2 = c := by
            rw [ST.out]
            have h1 := hc.out
            unfold cmp1 at h1
            split at h1
            · rename_i h2; rw [if_pos h2]; exact h1
            · rename_i h2
              rw [if_neg h2]
              split at h1
              · rename_i h3; rw [if_pos h3]; exact h1
              · exact absurd h1.symm h0
          rw [e]
          exact ⟨rfl, rfl⟩
      · have t1 : decide ((m : Int) ≤ (k : Int)) = true := by simp; omega
        go_wp2_with fail
        go_ret
        have e2 : cmpZ l l2 = 1 := by
          rw [HC.out, List.drop_of_length_le (l := l2) (by have := HM.out; omega), List.drop_eq_getElem_cons (l := l) (i := k) (by rw [HN.out]; exact hkn)]
          rfl
        rw [e2]
        exact ⟨rfl, rfl⟩
    · have t0 : decide ((k : Int) < (n : Int)) = false := by simp; omega
      have E1 : Hid (l.drop k = []) := Lib.hid (List.drop_of_length_le (by have := HN.out; omega))
      have EK : Hid (k = n) := Lib.hid (by omega)
      by_cases hnm : n < m
      · have t1 : decide ((n : Int) < (m : Int)) = true := by simp; omega
        have e2 : cmpZ l l2 = -1 := by
          rw [HC.out, E1.out, List.drop_eq_getElem_cons (l := l2) (i := k) (by have := HM.out; have := EK.out; omega)]
          rfl
        have E2 := Lib.hid e2
        clear e2
        go_wp2_with fail
        go_ret
        rw [E2.out]
        exact ⟨rfl, rfl⟩
      · have t1 : decide ((n : Int) < (m : Int)) = false := by simp; omega
        have e2 : cmpZ l l2 = 0 := by
          rw [HC.out, E1.out, List.drop_of_length_le (by have := HM.out; have := EK.out; omega)]
          rfl
        have E2 := Lib.hid e2
        clear e2
        go_wp2_with fail
        go_ret
        rw [E2.out]
        exact ⟨rfl, rfl⟩
end Go.Proofs.YtmpkglokhchpiaaGreatDoor
namespace Go.Proofs.YtmpkglokhchpiaaGreatDoor
set_option linter.unusedSimpArgs false
set_option linter.unusedVariables false
open Go.Shelf

def sh_lays189_ren : Go.Shelf.Ren := ⟨fun | 189 => 112 | 125 => 133 | 257 => 132 | 128 => 155 | 129 => 156 | 294 => 146 | 295 => 147 | 296 => 148 | 297 => 149 | 298 => 150 | 299 => 151 | 216 => 152 | 300 => 153 | 301 => 154 | 328 => 172 | 329 => 173 | 330 => 174 | 331 => 175 | 332 => 176 | 215 => 134 | 343 => 188 | n => n, fun | 28 => 26 | 3 => 3 | 46 => 152 | 0 => 0 | 51 => 171 | 53 => 173 | 4 => 4 | 183 => 164 | 182 => 163 | 131 => 135 | 5 => 5 | 9 => 9 | 218 => 183 | 222 => 145 | 228 => 206 | 229 => 207 | n => n, fun | n => n⟩
theorem sh_lays189 : Go.Proofs.Lays.n189 Tryz.prog sh_lays189_ren := {
  mixed := by kernel_rfl
  f125 := Tryz.func133.trans (congrArg some (by kernel_rfl))
  f128 := Tryz.func155.trans (congrArg some (by kernel_rfl))
  f129 := Tryz.func156.trans (congrArg some (by kernel_rfl))
  f189 := Tryz.func112.trans (congrArg some (by kernel_rfl))
  f215 := Tryz.func134.trans (congrArg some (by kernel_rfl))
  f216 := Tryz.func152.trans (congrArg some (by kernel_rfl))
  f257 := Tryz.func132.trans (congrArg some (by kernel_rfl))
  f294 := Tryz.func146.trans (congrArg some (by kernel_rfl))
  f295 := Tryz.func147.trans (congrArg some (by kernel_rfl))
  f296 := Tryz.func148.trans (congrArg some (by kernel_rfl))
  f297 := Tryz.func149.trans (congrArg some (by kernel_rfl))
  f298 := Tryz.func150.trans (congrArg some (by kernel_rfl))
  f299 := Tryz.func151.trans (congrArg some (by kernel_rfl))
  f300 := Tryz.func153.trans (congrArg some (by kernel_rfl))
  f301 := Tryz.func154.trans (congrArg some (by kernel_rfl))
  f328 := Tryz.func172.trans (congrArg some (by kernel_rfl))
  f329 := Tryz.func173.trans (congrArg some (by kernel_rfl))
  f330 := Tryz.func174.trans (congrArg some (by kernel_rfl))
  f331 := Tryz.func175.trans (congrArg some (by kernel_rfl))
  f332 := Tryz.func176.trans (congrArg some (by kernel_rfl))
  f343 := Tryz.func188.trans (congrArg some (by kernel_rfl))
  t0 := Tryz.underlying0
  a0 := Tryz.isAgg0
  z0 := Tryz.sizeOf0
  v0 := Tryz.zeroValue0
  t3 := Tryz.underlying3
  a3 := Tryz.isAgg3
  z3 := Tryz.sizeOf3
  v3 := Tryz.zeroValue3
  t4 := Tryz.underlying4
  a4 := Tryz.isAgg4
  z4 := Tryz.sizeOf4
  v4 := Tryz.zeroValue4
  t5 := Tryz.underlying5
  a5 := Tryz.isAgg5
  z5 := Tryz.sizeOf5
  v5 := Tryz.zeroValue5
  t9 := Tryz.underlying9
  a9 := Tryz.isAgg9
  z9 := Tryz.sizeOf9
  v9 := Tryz.zeroValue9
  t28 := Tryz.underlying26
  a28 := Tryz.isAgg26
  z28 := Tryz.sizeOf26
  v28 := Tryz.zeroValue26
  t46 := Tryz.underlying152
  a46 := Tryz.isAgg152
  z46 := Tryz.sizeOf152
  v46 := Tryz.zeroValue152
  t51 := Tryz.underlying171
  a51 := Tryz.isAgg171
  z51 := Tryz.sizeOf171
  v51 := Tryz.zeroValue171
  t53 := Tryz.underlying173
  a53 := Tryz.isAgg173
  z53 := Tryz.sizeOf173
  v53 := Tryz.zeroValue173
  t131 := Tryz.underlying135
  a131 := Tryz.isAgg135
  z131 := Tryz.sizeOf135
  v131 := Tryz.zeroValue135
  t182 := Tryz.underlying163
  a182 := Tryz.isAgg163
  z182 := Tryz.sizeOf163
  v182 := Tryz.zeroValue163
  t183 := Tryz.underlying164
  a183 := Tryz.isAgg164
  z183 := Tryz.sizeOf164
  v183 := Tryz.zeroValue164
  t218 := Tryz.underlying183
  a218 := Tryz.isAgg183
  z218 := Tryz.sizeOf183
  v218 := Tryz.zeroValue183
  t222 := Tryz.underlying145
  a222 := Tryz.isAgg145
  z222 := Tryz.sizeOf145
  v222 := Tryz.zeroValue145
  t228 := Tryz.underlying206
  a228 := Tryz.isAgg206
  z228 := Tryz.sizeOf206
  v228 := Tryz.zeroValue206
  t229 := Tryz.underlying207
  a229 := Tryz.isAgg207
  z229 := Tryz.sizeOf207
  v229 := Tryz.zeroValue207 }
open Go.Sort Go.RowKit in
theorem sh_slices_Sort_int (blk off cap : Nat) (zs : List Int) (w : World) (hH : Holds (Value.int .i64) w blk off zs.toArray) (hblk : blk < w.heap.size) (hsz : zs.length < 4611686018427387904) :
    Calls Tryz.prog 112 #[.slice (some ⟨blk, off, none⟩) zs.length cap] w fun e w' =>
      e = .returned (.tuple #[]) ∧ ∃ n os, w' = grow (putRow (Value.int .i64) (Sort.ahead w n) blk off (zs.mergeSort fun x y => decide (x ≤ y)).toArray) os := Any.slices_Sort_int sh_lays189 blk off cap zs w hH hblk hsz
def sh_laysNm220_ren : Go.Shelf.Ren := ⟨fun | 20 => 113 | n => n, fun | 22 => 26 | 3 => 3 | 4 => 4 | 0 => 0 | n => n, fun | n => n⟩
theorem sh_laysNm220 : Go.Proofs.Lays2.n20 Tryz.prog sh_laysNm220_ren := {
  mixed := by kernel_rfl
  f20 := Tryz.func113.trans (congrArg some (by kernel_rfl))
  t0 := Tryz.underlying0
  a0 := Tryz.isAgg0
  z0 := Tryz.sizeOf0
  v0 := Tryz.zeroValue0
  t3 := Tryz.underlying3
  a3 := Tryz.isAgg3
  z3 := Tryz.sizeOf3
  v3 := Tryz.zeroValue3
  t4 := Tryz.underlying4
  a4 := Tryz.isAgg4
  z4 := Tryz.sizeOf4
  v4 := Tryz.zeroValue4
  t22 := Tryz.underlying26
  a22 := Tryz.isAgg26
  z22 := Tryz.sizeOf26
  v22 := Tryz.zeroValue26
  i3 := by kernel_rfl }
open Go.RowKit Go.Lib Go.Sort in
theorem sh_slices_Compact_int (blk off cap : Nat) (zs : List Int) (w : World) (hH : Holds (Value.int .i64) w blk off zs.toArray) (hsz : zs.length ≤ 9223372036854775807) (hcap : zs.length ≤ cap) :
    Calls Tryz.prog 113 #[.slice (some ⟨blk, off, none⟩) zs.length cap] w fun e w' => e = .returned (.slice (some ⟨blk, off, none⟩) (Lib.compact zs).length cap) ∧ ∃ q, w' = putRow (Value.int .i64) (Sort.ahead w q) blk off (Lib.compact zs ++ List.replicate (zs.length - (Lib.compact zs).length) 0).toArray := Any.slices_Compact_int sh_laysNm220 blk off cap zs w hH hsz hcap
end Go.Proofs.YtmpkglokhchpiaaGreatDoor
