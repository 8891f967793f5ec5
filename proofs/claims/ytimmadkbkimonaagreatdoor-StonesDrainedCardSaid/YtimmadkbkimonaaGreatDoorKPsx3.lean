/- Parts of the proof, in this order: mapped of stones; The program's test of strokes, equality of int slices, equality of notes; Turning and mirroring: the plain law; The numbers of regions and of dead ones stay when a face is turned, plain; Draining: when the cells of dead regions become land, plain; Faces that are dressed as a pattern says, plain; Periods, turns and normal forms: the plain law; turned, Turn, Mirror, Same of stones; slices.Compare of ints; Sort and Compact of the library, laid at this program; Sort and Compact of the call's own ints; Append to ints of the call's own: what lies elsewhere stays, the row's block is the old one or new; neighbours of stones, as an iterator; neighbours, Neighbours of stones; The flood in memory. -/
import Derived.ChangeKeysEq
import Derived.Shelf.Sort.Plain
import Derived.Shelf.Slices.CompactI
import Derived.Ground.Names2Prog
import Derived.Lib.SlicesCompact
import Derived.Maps.AppendAt
import Derived.OrdersIn
import Derived.Test.YtimmadkbkimonaaGreatDoorKPsx2
set_option linter.unusedSimpArgs false
set_option linter.unusedVariables false
open List renaming getElem_toArray → lq0, getElem_cons_succ → lq1, getElem_cons_zero → lq2, setIfInBounds_toArray → lq3, set_cons_zero → lq4, set_cons_succ → lq5
namespace Go.Proofs.YtimmadkbkimonaaGreatDoor
set_option linter.unusedSimpArgs false
set_option linter.unusedVariables false
open Go.RowKit

def mapR (f : FaceV) (s : Nat) (of : Int → Int) (i j : Nat) : List Int := mapK f s of i ++ (List.range j).map fun (j : Nat) => f.kat (indexF f i (of j)).toNat
theorem mapR_len (f : FaceV) (s : Nat) (of : Int → Int) (i j : Nat) : (mapR f s of i j).length = i * s + j := by
  unfold mapR
  rw [List.length_append, mapK_len, List.length_map, List.length_range]
theorem mapR_zero (f : FaceV) (s : Nat) (of : Int → Int) (i : Nat) : mapR f s of i 0 = mapK f s of i := by unfold mapR; simp
theorem mapR_next (f : FaceV) (s : Nat) (of : Int → Int) (i j : Nat) : mapR f s of i (j + 1) = mapR f s of i j ++ [f.kat (indexF f i (of j)).toNat] := by
  unfold mapR
  rw [List.range_succ, List.map_append, List.append_assoc]
  rfl
theorem mapR_row (f : FaceV) (s : Nat) (of : Int → Int) (i : Nat) : mapR f s of i s = mapK f s of (i + 1) := by
  unfold mapR mapK
  rw [List.range_succ, List.flatMap_append]
  simp
def outF (f : FaceV) (s : Nat) (l : List Int) : FaceV := ⟨f.eye, f.rings, s, l⟩
structure MapAt (w : World) (p z o : Nat) (f : FaceV) (a : Option Addr) (n s : Nat) (l : List Int) (oa : Option Addr) (oc : Nat) (W : World) : Prop where
  bel : Below w.heap.size w W
  p : W.heap[p]? = some (.cells (f.cells a n) 28 (0, 0))
  z : W.heap[z]? = some (.cells (zeroF.cells none 0) 28 (0, 0))
  o : W.heap[o]? = some (.cells ((outF f s l).cells oa oc) 28 (0, 0))
  own : W.ownsRow w.heap.size 3 1 (.slice oa l.length oc) l.length (l.map intV)
theorem MapAt.below {w : World} {p z o : Nat} {f : FaceV} {a : Option Addr} {n s : Nat} {l : List Int} {oa : Option Addr} {oc : Nat} {W W' : World} (h : MapAt w p z o f a n s l oa oc W) (hb : Below W.heap.size W W') : MapAt w p z o f a n s l oa oc W' :=
  ⟨h.bel.trans (hb.mono h.bel.size), qblk hb h.p, qblk hb h.z, qblk hb h.o, own_below h.own hb⟩
section
variable {P : Program} {ops : Array Oper}
theorem bDq {id : Nat} {a : Act} {w W : World} {Q : Exit → Act → World → Prop} (m : Nat) (S : World → Prop) (hS : S W) (h : S W → AnyBut P .any ops (NoPanic Q) m S ops.size (Array.replicate ops.size false) a W) (hW : w.drew = W := by assumption) (hm : P.follows .mixedOrders = true := by kernel_rfl) :
    (Code.region id ops true).wp P Q a w := by
  subst hW
  exact bD m S hS h hm
end
set_option maxHeartbeats 4000000 in
set_option maxRecDepth 100000 in
theorem mapped_any (f : FaceV) (a : Option Addr) (n s : Nat) (of : Int → Int) (fn : Nat) (cap : Array Value) (w : World) (hv : f.valid = true) (hr : RdI w a f.kinds.length n f.kinds) (hs : 1 ≤ s ∧ s ≤ 96)
    (hfn : ∀ (args : Array Value) (w : World), (callFunc fn args).run Tryz.prog w = .ok (.enter fn args) w)
    (hcl : ∀ (j : Nat) W, Below w.heap.size w W → j < s → Calls Tryz.prog fn (#[.int .i64 j] ++ cap) W fun e W' => e = .returned (.int .i64 (of j)) ∧ Below W.heap.size W W') :
    Calls Tryz.prog 100 #[.agg (f.cells a n), .int .i64 s, .func (.func fn) #[] cap] w fun e w' => ∃ a' n', e = .returned (.agg ((mapF f s of).cells a' n')) ∧ w'.ownsRow w.heap.size 3 1 (.slice a' (mapK f s of f.R).length n') (mapK f s of f.R).length ((mapK f s of f.R).map intV) ∧ Below w.heap.size w w' := by
  have HR := Lib.hid (fun W (hb : Below w.heap.size w W) => hr.below hb)
  have HCL := Lib.hid hcl
  have HFN := Lib.hid hfn
  have IV := Lib.hid (FaceV.int hv)
  have NV := Lib.hid (FaceV.nat hv)
  have LL := Lib.hid (FaceV.len_le hv)
  have HV := Lib.hid hv
  have HS := Lib.hid hs
  clear hr hcl hfn hv hs
  have AL := Lib.hid (al2 w (.cells (f.cells a n) 28) (.cells #[.int .i64 0, .int .i64 0, .int .i64 0, .slice none 0 0] 28))
  go_enter Tryz.func100, Tryz.ntmps100
  go_upto_region 1 with fail
  obtain ⟨p, hp⟩ : ∃ p, Hid (w.heap.size = p) := ⟨_, Lib.hid rfl⟩
  obtain ⟨z, hz⟩ : ∃ z, Hid (w.heap.size + 1 = z) := ⟨_, Lib.hid rfl⟩
  rw [hz.out] at AL ⊢
  rw [hp.out] at AL ⊢
  generalize ((w.alloc (.cells (f.cells a n) 28)).alloc (.cells #[.int .i64 0, .int .i64 0, .int .i64 0, .slice none 0 0] 28)) = W0 at *
  have BF : Hid (Below w.heap.size w W0) := Lib.hid (by rw [hp.out]; exact AL.out.1)
  have XF : Hid (W0.heap[p]? = some (.cells (f.cells a n) 28 (0, 0))) := Lib.hid AL.out.2.1
  have XZ : Hid (W0.heap[z]? = some (.cells (zeroF.cells none 0) 28 (0, 0))) := Lib.hid AL.out.2.2
  clear AL
  have c0 := qcell XF.out 0 (.int .i64 f.eye) rfl
  have c1 := qcell XF.out 1 (.int .i64 f.rings) rfl
  have c2 := qcell XF.out 2 (.int .i64 f.sectors) rfl
  have c3 := qcell XF.out 3 (.slice a f.kinds.length n) rfl
  go_upto_region 2 with (first
    | (refine wpList_load_row rfl 28 _ rfl p rfl 28 (f.cells a n) (0, 0) _ XF.out Tryz.underlying28 rfl (by exact (qJF f a n)) ?_)
    | (refine wpList_load_row rfl 28 _ rfl z rfl 28 (zeroF.cells none 0) (0, 0) _ XZ.out Tryz.underlying28 rfl (by exact (qJF zeroF none 0)) ?_)
    | (refine wpList_store_new W0 rfl 28 _ _ rfl (zeroF.cells none 0) ((outF f s []).cells none 0) rfl rfl (by exact qJF (outF f s []) none 0) rfl (qone (outF f s []) none 0) ?_)
    | fail)
  clear c0 c1 c2 c3
  have AL := al1 W0 (.cells ((outF f s []).cells none 0) 28)
  have M0 : Hid (MapAt w p z W0.heap.size f a n s (mapR f s of 0 0) none 0 (W0.alloc (.cells ((outF f s []).cells none 0) 28))) := Lib.hid ⟨BF.out.trans (AL.1.mono BF.out.size), qblk AL.1 XF.out, qblk AL.1 XZ.out, AL.2, World.ownsRow_nil _ _ _ _⟩
  obtain ⟨o, ho⟩ : ∃ o, Hid (W0.heap.size = o) := ⟨_, Lib.hid rfl⟩
  have OGE : Hid (w.heap.size ≤ o ∧ o ≠ p ∧ o ≠ z ∧ w.heap.size = p ∧ w.heap.size + 1 = z) := Lib.hid (by have h1 := qlt XF.out; have h2 := qlt XZ.out; have := BF.out.size; have := ho.out; have := hp.out; have := hz.out; omega)
  rw [ho.out] at M0 ⊢
  clear AL BF XF XZ
  generalize W0.alloc (.cells ((outF f s []).cells none 0) 28) = W1 at *
  have c1 := qcell M0.out.p 1 (.int .i64 f.rings) rfl
  go_wp2_with fail
  clear c1
  have eR := NV.out.1
  have eRR : f.rings = (f.R : Int) := eR
  rw [eRR]
  clear eR eRR
  go_loopw [18] (fun i wr => ∃ (k : Nat) (oa : Option Addr) (oc : Nat), i = .int .i64 k ∧ k ≤ f.R ∧ Hid (MapAt w p z o f a n s (mapR f s of k 0) oa oc wr)) (fun i _ => f.R - (intOf i).toNat)
  case atStart => exact ⟨0, none, 0, rfl, Nat.zero_le _, M0⟩
  case round =>
    clear M0
    obtain ⟨i, oa, oc, rfl, hi, M1⟩ := hrel
    have hi64 : (i : Int) + 1 ≤ 9223372036854775807 := by have := NV.out; omega
    by_cases hiR : i < f.R
    · have t0 : decide ((i : Int) < (f.R : Int)) = true := by simp; omega
      go_wp2_with fail
      generalize wr = X1 at *
      have HI64 := Lib.hid hi64
      clear hi64 t0
      go_loopw [22] (fun v wr => ∃ (j : Nat) (oa : Option Addr) (oc : Nat), v = .int .i64 j ∧ j ≤ s ∧ Hid (MapAt w p z o f a n s (mapR f s of i j) oa oc wr)) (fun v _ => s - (intOf v).toNat)
      case atStart => exact ⟨0, oa, oc, rfl, Nat.zero_le _, M1⟩
      case round =>
        clear M1
        obtain ⟨j, oa, oc, rfl, hj, M1⟩ := hrel
        by_cases hjs : j < s
        · have t0 : decide ((j : Int) < (s : Int)) = true := by simp; omega
          go_upto_region 8 with fail
          clear t0
          have hd : Below wr.heap.size wr wr.drew := (Below.refl _ _).drew
          replace M1 := Lib.hid (M1.out.below hd)
          clear hd
          obtain ⟨V0, hV0⟩ : ∃ V0, wr.drew = V0 := ⟨_, rfl⟩
          rw [hV0] at M1
          have HIR : Hid (0 ≤ (i : Int) ∧ (i : Int) ≤ f.rings - 1) := Lib.hid (by have := NV.out.1; omega)
          have IL := Lib.hid (index_lt HV.out HIR.out (of j))
          obtain ⟨q, hq⟩ : ∃ q, Hid ((indexF f i (of j)).toNat = q) := ⟨_, Lib.hid rfl⟩
          have HQ : Hid (indexF f i (of j) = (q : Int)) := Lib.hid (by have := IL.out; have := hq.out; omega)
          have HQL : Hid (q < f.kinds.length) := Lib.hid (by have := IL.out; have := hq.out; omega)
          obtain ⟨b0, off, ha, _⟩ := (HR.out V0 M1.out.bel).get (FaceV.kat_at HQL.out)
          subst ha
          have RC : Hid (∀ W, Below w.heap.size w W → W.cell? ⟨b0, off + q, none⟩ = some (.int .i64 (f.kat q))) := Lib.hid (fun W hb => by
            obtain ⟨b1, o1, e1, h1⟩ := (HR.out W hb).get (FaceV.kat_at HQL.out)
            cases e1
            exact h1)
          have JF := Lib.hid (qJF f (some ⟨b0, off, none⟩) n)
          have ML := Lib.hid (mapR_len f s of i j)
          have MLB : Hid ((mapR f s of i j).length ≤ 10000) := Lib.hid (by
            rw [ML.out]
            have h1 := NV.out
            have h2 : i * s ≤ 24 * 96 := Nat.mul_le_mul (by omega) (by have := HS.out; omega)
            have := HS.out
            omega)
          refine bDq 15 (fun W => Below w.heap.size w W ∧ W.heap[p]? = some (.cells (f.cells (some ⟨b0, off, none⟩) n) 28 (0, 0)) ∧ W.heap[o]? = some (.cells ((outF f s (mapR f s of i j)).cells oa oc) 28 (0, 0))) ⟨by exact M1.out.bel, M1.out.p, M1.out.o⟩ (fun hHeld => ?_)
          clear hV0
          refine bW 0 rfl (.pointer (some ⟨o, 3, none⟩)) ?_
          refine bS 1 rfl (.slice oa (mapR f s of i j).length oc) (fun W hW => by have c := qcell hW.2.2 3 (.slice oa (mapR f s of i j).length oc) rfl; go_simp) ?_
          refine bW 2 rfl (.pointer (some ⟨p, 3, none⟩)) ?_
          refine bS 3 rfl (.slice (some ⟨b0, off, none⟩) f.kinds.length n) (fun W hW => by have c := qcell hW.2.1 3 (.slice (some ⟨b0, off, none⟩) f.kinds.length n) rfl; go_simp) ?_
          refine bW 4 rfl (.agg (f.cells (some ⟨b0, off, none⟩) n)) (hy := qyrow (by kernel_rfl) 28 _ rfl p rfl _ 28 (0, 0) _ (fun W hW => hW.2.1) Tryz.underlying28 rfl (by exact JF.out)) ?_
          refine bW 5 rfl (.int .i64 i) ?_
          refine bW 6 rfl (.func (.func fn) #[] cap) ?_
          refine bW 7 rfl (.int .i64 j) ?_
          refine bR 8 rfl (fun K hK => ?_)
          have hfn := HFN.out
          go_simp
          refine (HCL.out j V0 M1.out.bel (by omega)).mono ?_
          clear hfn
          rintro e V1 ⟨rfl, b⟩
          replace M1 := Lib.hid (M1.out.below b)
          clear b
          dsimp only
          refine bK hK ⟨M1.out.bel, M1.out.p, M1.out.o⟩ (fun hHeld => ?_)
          clear hK K
          refine bR 9 rfl (fun K hK => ?_)
          go_simp
          refine (index_any f (some ⟨b0, off, none⟩) n i (of j) V1 (by have := IV.out; omega) (by have := HIR.out; have := IV.out; omega)).mono ?_
          rintro e V2 ⟨rfl, b⟩
          replace M1 := Lib.hid (M1.out.below b)
          clear b
          dsimp only
          rw [HQ.out]
          refine bK hK ⟨M1.out.bel, M1.out.p, M1.out.o⟩ (fun hHeld => ?_)
          clear hK K
          have hql : q < f.kinds.length := HQL.out
          refine bW 10 rfl (.pointer (some ⟨b0, off + q, none⟩)) ?_
          clear hql
          refine bS 11 rfl (.int .i64 (f.kat q)) (fun W hW => by have c := RC.out W hW.1; go_simp) ?_
          refine bR 12 rfl (fun K hK => ?_)
          rw [if_pos (by kernel_rfl)]
          refine qbuild (w' := V2.alloc (.cells #[.int .i64 (f.kat q)] 3)) (.slice (some ⟨V2.heap.size, 0, none⟩) 1 1) (by kernel_rfl) ?_
          have L5 := Lib.hid (lit_int V2 (f.kat q))
          replace M1 := Lib.hid (M1.out.below (zB V2 (.cells #[.int .i64 (f.kat q)] 3)))
          obtain ⟨p5, hp5⟩ : ∃ z, Hid (V2.heap.size = z) := ⟨_, Lib.hid rfl⟩
          rw [hp5.out] at L5 ⊢
          generalize V2.alloc (.cells #[.int .i64 (f.kat q)] 3) = V3 at *
          refine bK hK ⟨M1.out.bel, M1.out.p, M1.out.o⟩ (fun hHeld => ?_)
          clear hK K
          refine bR 13 rfl (fun K hK => ?_)
          rw [if_pos (by kernel_rfl)]
          obtain ⟨a7, c7, V7, hrun, ho7, hk7, hb7⟩ := run_app_q V3 w.heap.size oa _ oc _ M1.out.own (some ⟨p5, 0, none⟩) 1 1 [f.kat q] L5.out (by have := MLB.out; omega) M1.out.bel.size
          refine qappend _ _ _ rfl _ _ _ rfl rfl hrun ?_
          clear hrun
          have F7 := Lib.hid (show Below w.heap.size w V7 ∧ V7.heap[p]? = some (.cells (f.cells (some ⟨b0, off, none⟩) n) 28 (0, 0)) ∧ V7.heap[o]? = some (.cells ((outF f s (mapR f s of i j)).cells oa oc) 28 (0, 0)) ∧ V7.heap[z]? = some (.cells (zeroF.cells none 0) 28 (0, 0)) from ⟨hb7 _ M1.out.bel, hk7 _ _ M1.out.p (by simp), hk7 _ _ M1.out.o (by simp), hk7 _ _ M1.out.z (by simp)⟩)
          have O7 := Lib.hid ho7
          clear hk7 hb7 ho7 M1 L5
          refine bK hK ⟨F7.out.1, F7.out.2.1, F7.out.2.2.1⟩ (fun hHeld => ?_)
          clear hK K
          refine bW 14 rfl (.pointer (some ⟨o, 3, none⟩)) ?_
          refine bL rfl (fun K hK => ?_)
          have hce := qcell F7.out.2.2.1 3 (.slice oa (mapR f s of i j).length oc) rfl
          have hfz := qfroz F7.out.2.2.1 3
          go_simp
          refine hK.out _ _ ?_
          clear hK K hce hfz hHeld
          refine bE ?_
          have HG := qput_grown V7 o 3 (.slice a7 ((mapR f s of i j).length + 1) c7)
          have M2 : Hid (MapAt w p z o f (some ⟨b0, off, none⟩) n s (mapR f s of i (j + 1)) a7 c7 (V7.setCell ⟨o, 3, none⟩ (.slice a7 ((mapR f s of i j).length + 1) c7))) := Lib.hid ⟨qstep F7.out.1 HG OGE.out.1, qgrown HG F7.out.2.1 (fun e => OGE.out.2.1 (Option.some.inj e).symm), qgrown HG F7.out.2.2.2 (fun e => OGE.out.2.2.1 (Option.some.inj e).symm), by
            rw [qput_at F7.out.2.2.1 3 _, mapR_next, hq.out]
            unfold outF FaceV.cells
            dsimp only
            rw [List.length_append]
            rfl, by
            rw [mapR_next, hq.out, List.length_append]
            exact O7.out.kept HG (.inr (qown_no O7.out F7.out.2.2.1 (by simp)).symm)⟩
          clear HG F7 O7
          generalize V7.setCell ⟨o, 3, none⟩ (.slice a7 ((mapR f s of i j).length + 1) c7) = V8 at *
          have hj64 : (j : Int) + 1 ≤ 9223372036854775807 := by have := HS.out; omega
          go_wp2_with fail
          go_roundw
          case rel => exact ⟨j + 1, a7, c7, by simp, by omega, M2⟩
          case measure => simp [intOf]; omega
        · have t0 : decide ((j : Int) < (s : Int)) = false := by simp; omega
          have e : j = s := by omega
          subst e
          have hi64 := HI64.out
          go_wp2_with fail
          go_roundw
          case rel =>
            refine ⟨i + 1, oa, oc, by simp, by omega, ?_⟩
            rw [mapR_zero, ← mapR_row]
            exact M1
          case measure => simp [intOf]; omega
    · have t0 : decide ((i : Int) < (f.R : Int)) = false := by simp; omega
      have e : i = f.R := by omega
      subst e
      clear hi64
      have e9 : outF f s (mapR f s of f.R 0) = mapF f s of := by rw [mapR_zero]; rfl
      have XO := Lib.hid M1.out.o
      have XZ := Lib.hid M1.out.z
      have OW := Lib.hid M1.out.own
      have BF := Lib.hid M1.out.bel
      rw [e9] at XO
      rw [mapR_zero] at OW
      clear M1 e9
      go_wp2_with (first
        | (refine wpList_load_row rfl 28 _ rfl o rfl 28 ((mapF f s of).cells oa oc) (0, 0) _ XO.out Tryz.underlying28 rfl (by exact (qJF (mapF f s of) oa oc)) ?_)
        | (refine wpList_qstore rfl 28 _ _ rfl z (zeroF.cells none 0) ((mapF f s of).cells oa oc) 28 rfl rfl XZ.out (by exact (qJF (mapF f s of) oa oc)) rfl (qone (mapF f s of) oa oc) ?_; intro VZ hzz hgz; replace BF := Lib.hid (qstep BF.out hgz (by have h1 := OGE.out; omega)); replace OW := Lib.hid (OW.out.kept hgz (.inr (qown_no OW.out XZ.out (by simp)).symm)); replace XZ := Lib.hid hzz; clear hzz hgz)
        | fail)
      (try simp only [Exit.inBlock, Exit.then])
      refine bodyPost_ret (results_cell_row rfl _ VZ z 28 ((mapF f s of).cells oa oc) (0, 0) _ rfl XZ.out Tryz.underlying28 rfl (by exact (qJF (mapF f s of) oa oc))) rfl ?_
      exact ⟨oa, oc, rfl, OW.out, BF.out⟩
end Go.Proofs.YtimmadkbkimonaaGreatDoor
namespace Go.Proofs.YtimmadkbkimonaaGreatDoor
open Go.RowKit

def strokesP (m : Int) (l : List Int) : Prop := ∀ i, i < l.length → inB (l[i]?.getD 0) 0 m = true ∧ (0 < i → l[i-1]?.getD 0 ≤ l[i]?.getD 0)
instance (m : Int) (l : List Int) : Decidable (strokesP m l) := by unfold strokesP; infer_instance
theorem int_ne {x y : Int} (h : ¬ x = y) : (x != y) = true := by simp [h]
theorem int_eq {x y : Int} (h : x = y) : (x != y) = false := by simp [h]
theorem ilist_ext {l m : List Int} (hl : l.length = m.length) (h : ∀ j, j < l.length → l[j]?.getD 0 = m[j]?.getD 0) : l = m := by
  apply List.ext_getElem hl
  intro i h1 h2
  have := h i h1
  simpa [List.getElem?_eq_getElem h1, List.getElem?_eq_getElem h2] using this

end Go.Proofs.YtimmadkbkimonaaGreatDoor
namespace Go.Proofs.YtimmadkbkimonaaGreatDoor
set_option linter.unusedSimpArgs false
set_option linter.unusedVariables false
open Go.RowKit

theorem sub_mod_r (x y n : Int) : (x - y % n) % n = (x - y) % n := by
  rw [Int.sub_emod, Int.emod_emod_of_dvd _ (Int.dvd_refl _), ← Int.sub_emod]
section
variable {f g : FaceV}
theorem face_ext (hf : f.valid = true) (hg : g.valid = true) (h1 : f.eye = g.eye) (h2 : f.rings = g.rings) (h3 : f.sectors = g.sectors) (h : ∀ i j : Nat, i < f.R → j < f.S → f.kat (i * f.S + j) = g.kat (i * f.S + j)) : f = g := by
  obtain ⟨_, _, _, _, e5, _, e7⟩ := FaceV.nat hf
  obtain ⟨_, _, _, _, _, _, g7⟩ := FaceV.nat hg
  have eR : g.R = f.R := by unfold FaceV.R; rw [h2]
  have eS : g.S = f.S := by unfold FaceV.S; rw [h3]
  rw [eR, eS] at g7
  have hk : f.kinds = g.kinds := by
    refine List.ext_getElem (by rw [e7, g7]) fun n hn1 hn2 => ?_
    have hn : n < f.R * f.S := by rw [← e7]; exact hn1
    have hdiv : n / f.S < f.R := Nat.div_lt_of_lt_mul (by rw [Nat.mul_comm]; exact hn)
    have hmod : n % f.S < f.S := Nat.mod_lt _ (by omega)
    have he : n / f.S * f.S + n % f.S = n := by rw [Nat.mul_comm]; exact Nat.div_add_mod n f.S
    have := h _ _ hdiv hmod
    rw [he] at this
    unfold FaceV.kat at this
    rw [List.getElem?_eq_getElem hn1, List.getElem?_eq_getElem hn2] at this
    exact this
  cases f
  cases g
  simp only [FaceV.mk.injEq] at *
  exact ⟨h1, h2, h3, hk⟩
theorem turn_valid (h : f.valid = true) (a : Int) : (turnF f a).valid = true := mapF_valid h f.S ⟨(FaceV.nat h).2.2.2.2.1, (FaceV.nat h).2.2.2.2.2.1⟩ _
theorem turn_size (h : f.valid = true) (a : Int) : (turnF f a).eye = f.eye ∧ (turnF f a).rings = f.rings ∧ (turnF f a).sectors = f.sectors ∧ (turnF f a).R = f.R ∧ (turnF f a).S = f.S :=
  ⟨rfl, rfl, (FaceV.nat h).2.1.symm, rfl, rfl⟩
theorem turn_kat (h : f.valid = true) (a : Int) {i j : Nat} (hi : i < f.R) (hj : j < f.S) : (turnF f a).kat (i * f.S + j) = f.kat (i * f.S + (((j : Int) - a) % (f.S : Int)).toNat) := by
  unfold turnF
  rw [mapF_kat f.S _ hi hj, indexF_eq h, Int.toNat_natCast]
  unfold around
  rw [(FaceV.nat h).2.1, sub_mod_r]
theorem turn_dvd (h : f.valid = true) {a : Int} (ha : a % f.sectors = 0) : turnF f a = f := by
  obtain ⟨s1, s2, s3, s4, s5⟩ := turn_size h a
  refine face_ext (turn_valid h a) h rfl rfl s3 fun i j hi hj => ?_
  rw [s4] at hi
  rw [s5] at hj ⊢
  rw [turn_kat h a hi hj, ← sub_mod_r]
  rw [(FaceV.nat h).2.1] at ha
  rw [ha, Int.sub_zero, Int.emod_eq_of_lt (by omega) (by omega), Int.toNat_natCast]
theorem turn_mod (h : f.valid = true) (a : Int) : turnF f (a % f.sectors) = turnF f a := by
  unfold turnF around
  rw [Int.emod_emod_of_dvd _ (Int.dvd_refl _)]
end
end Go.Proofs.YtimmadkbkimonaaGreatDoor
namespace Go.Proofs.YtimmadkbkimonaaGreatDoor
set_option linter.unusedSimpArgs false
set_option linter.unusedVariables false
open Go.RowKit

def deadB (f : FaceV) (cs : List Int) : Bool := !decide (f.kat (cs.head?.getD 0).toNat = 0) && decide (cs.getLast?.getD 0 < (f.rings - 1) * f.sectors)
def deadF (f : FaceV) : List Int := (List.range (regListF f).length).filterMap fun (n : Nat) => if deadB f ((regListF f)[n]?.getD []) = true then some (n : Int) else none
def regionsP (f : FaceV) : List (List Int) × Int := if f.valid = true then (regListF f, 0) else ([], 10)
def deadP (f : FaceV) : List Int × Int := if f.valid = true then (deadF f, 0) else ([], 10)
section
variable {f g : FaceV}
theorem regAt_mem {o : OfM} {r : Int} {k : Nat} {x : Int} : x ∈ regAt f o r k ↔ o x = some r ∧ 0 ≤ x ∧ x < k := by
  unfold regAt
  rw [List.mem_filterMap]
  constructor
  · rintro ⟨j, hj, e⟩
    rw [List.mem_range] at hj
    split at e
    · rename_i h
      cases e
      exact ⟨h, by omega, by omega⟩
    · cases e
  · rintro ⟨h1, h2, h3⟩
    refine ⟨x.toNat, List.mem_range.2 (by omega), ?_⟩
    rw [Int.toNat_of_nonneg h2, if_pos h1]
theorem regAt_sorted {o : OfM} {r : Int} {k : Nat} : (regAt f o r k).Pairwise (· < ·) := by
  unfold regAt
  rw [List.pairwise_filterMap]
  refine List.Pairwise.imp ?_ (List.pairwise_lt_range (n := k))
  intro a b hab x hx y hy
  split at hx
  · split at hy
    · cases hx; cases hy; omega
    · cases hy
  · cases hx
theorem regF (hv : f.valid = true) : RgK f f.kinds.length (regionsF f).1 (regionsF f).2 := regionsN_spec hv _ (Nat.le_refl _)
theorem regList_len : (regListF f).length = (regionsF f).2.toNat := by unfold regListF; rw [List.length_map, List.length_range]
theorem regList_at {n : Nat} (h : n < (regionsF f).2.toNat) : (regListF f)[n]? = some (regAt f (regionsF f).1 n f.kinds.length) := by
  unfold regListF
  rw [List.getElem?_map, List.getElem?_range h]
  rfl
theorem reg_head (hv : f.valid = true) {n : Nat} (h : n < (regionsF f).2.toNat) : ∃ x, (regAt f (regionsF f).1 n f.kinds.length).head? = some x ∧ (regionsF f).1 x = some (n : Int) ∧ ∀ z, (regionsF f).1 z = some (n : Int) → x ≤ z := by
  have R := regF hv
  obtain ⟨j, j1, j2, j3⟩ := R.fst n (by omega) (by omega)
  have hm : (j : Int) ∈ regAt f (regionsF f).1 n f.kinds.length := regAt_mem.2 ⟨j2, by omega, by omega⟩
  have hs := regAt_sorted (f := f) (o := (regionsF f).1) (r := n) (k := f.kinds.length)
  have hin : ∀ z ∈ regAt f (regionsF f).1 n f.kinds.length, (regionsF f).1 z = some (n : Int) := fun z hz => (regAt_mem.1 hz).1
  generalize regAt f (regionsF f).1 n f.kinds.length = cs at *
  cases cs with
  | nil => cases hm
  | cons x l =>
    have hx := hin x (List.mem_cons_self ..)
    refine ⟨x, rfl, hx, fun z hz => ?_⟩
    have h1 := j3 z hz
    rcases List.mem_cons.1 hm with e | e
    · omega
    · have := (List.pairwise_cons.1 hs).1 _ e
      omega
def Hom (f g : FaceV) (φ : Int → Int) : Prop := ∀ x, InF f x → InF g (φ x) ∧ landB g (φ x) = landB f x ∧ (φ x / g.sectors = x / f.sectors) ∧ ∀ y ∈ neighF f x, φ y ∈ neighF g (φ x)
theorem Hom.reach {φ : Int → Int} (hf : f.valid = true) (h : Hom f g φ) {x y : Int} (hr : Reach f x y) (hx : InF f x) : Reach g (φ x) (φ y) := by
  induction hr with
  | refl => exact .refl _
  | step h2 h3 h4 ih =>
    have hy := h2.inF hf hx
    have hz := (neigh_in hf hy h3).1
    exact ih.step ((h _ hy).2.2.2 _ h3) (by rw [(h _ hz).2.1, (h _ hy).2.1, h4])
end
end Go.Proofs.YtimmadkbkimonaaGreatDoor
namespace Go.Proofs.YtimmadkbkimonaaGreatDoor
set_option linter.unusedSimpArgs false
set_option linter.unusedVariables false
open Go.RowKit

def furrowB (f : FaceV) (cs : List Int) : Bool := !decide (f.kat (cs.head?.getD 0).toNat = 0)
def furrowsF (f : FaceV) (l : List (List Int)) : List (List Int) := l.filter (furrowB f)
def drainF (f : FaceV) (gone : List Int) : FaceV := { f with kinds := gone.foldl (fun l x => l.set x.toNat 0) f.kinds }
def goneF (f : FaceV) : List Int := (deadF f).flatMap fun n => (regListF f)[n.toNat]?.getD []
theorem foldl_set_len : ∀ (gone : List Int) (l : List Int), (gone.foldl (fun l x => l.set x.toNat 0) l).length = l.length
  | [], l => rfl
  | x :: g, l => by rw [List.foldl_cons, foldl_set_len g, List.length_set]
theorem foldl_set_at : ∀ (gone : List Int) (l : List Int) (i : Nat), i < l.length → (∀ x ∈ gone, 0 ≤ x) → (gone.foldl (fun l x => l.set x.toNat 0) l)[i]?.getD 0 = if (i : Int) ∈ gone then 0 else l[i]?.getD 0
  | [], l, i, _, _ => by simp
  | x :: g, l, i, hi, hp => by
    rw [List.foldl_cons, foldl_set_at g (l.set x.toNat 0) i (by rw [List.length_set]; exact hi) fun y hy => hp y (List.mem_cons_of_mem _ hy)]
    have hx := hp x (List.mem_cons_self ..)
    by_cases hg : (i : Int) ∈ g
    · rw [if_pos hg, if_pos (List.mem_cons_of_mem _ hg)]
    · rw [if_neg hg, List.getElem?_set]
      by_cases e : x.toNat = i
      · rw [if_pos e, if_pos (by omega), if_pos (List.mem_cons.2 (.inl (by omega)))]
        rfl
      · rw [if_neg e, if_neg (fun h => by
          rcases List.mem_cons.1 h with h | h
          · omega
          · exact hg h)]
theorem sorted_mem_eq {u v : List Int} (hu : u.Pairwise (· < ·)) (hv : v.Pairwise (· < ·)) (h : ∀ x, x ∈ u ↔ x ∈ v) : u = v := sortedZ_eq hu hv h
def HeadLt (a b : List Int) : Prop := a.head?.getD 0 < b.head?.getD 0
theorem heads_eq : ∀ {u v : List (List Int)}, u.Pairwise HeadLt → v.Pairwise HeadLt → (∀ x, x ∈ u ↔ x ∈ v) → u = v
  | [], [], _, _, _ => rfl
  | [], y :: v, _, _, h => by have := (h y).2 (List.mem_cons_self ..); cases this
  | x :: u, [], _, _, h => by have := (h x).1 (List.mem_cons_self ..); cases this
  | x :: u, y :: v, hu, hv, h => by
    rw [List.pairwise_cons] at hu hv
    have e : x = y := by
      rcases List.mem_cons.1 ((h x).1 (List.mem_cons_self ..)) with h1 | h1
      · exact h1
      · rcases List.mem_cons.1 ((h y).2 (List.mem_cons_self ..)) with h2 | h2
        · exact h2.symm
        · have := hu.1 y h2
          have := hv.1 x h1
          unfold HeadLt at *
          omega
    subst e
    rw [heads_eq hu.2 hv.2 fun z => ?_]
    constructor
    · intro hz
      rcases List.mem_cons.1 ((h z).1 (List.mem_cons_of_mem _ hz)) with h1 | h1
      · have := hu.1 z hz; rw [h1] at this; unfold HeadLt at this; omega
      · exact h1
    · intro hz
      rcases List.mem_cons.1 ((h z).2 (List.mem_cons_of_mem _ hz)) with h1 | h1
      · have := hv.1 z hz; rw [h1] at this; unfold HeadLt at this; omega
      · exact h1
section
variable {f : FaceV}
theorem regList_mem {cs : List Int} : cs ∈ regListF f ↔ ∃ n : Nat, n < (regionsF f).2.toNat ∧ cs = regAt f (regionsF f).1 n f.kinds.length := by
  unfold regListF
  rw [List.mem_map]
  constructor
  · rintro ⟨n, hn, rfl⟩; exact ⟨n, List.mem_range.1 hn, rfl⟩
  · rintro ⟨n, hn, rfl⟩; exact ⟨n, List.mem_range.2 hn, rfl⟩
theorem regList_iff (hv : f.valid = true) {cs : List Int} : cs ∈ regListF f ↔ ∃ x, InF f x ∧ cs.Pairwise (· < ·) ∧ ∀ y, y ∈ cs ↔ Reach f x y := by
  have R := regF hv
  rw [regList_mem]
  constructor
  · rintro ⟨n, hn, rfl⟩
    obtain ⟨j, j1, j2, j3⟩ := R.fst n (by omega) (by omega)
    refine ⟨j, (R.rg.inr _ _ j2).1, regAt_sorted, fun y => ?_⟩
    rw [regAt_mem]
    constructor
    · intro h; exact R.rg.co _ _ _ j2 h.1
    · intro h
      have := R.rg.reach j2 h
      exact ⟨this, (R.rg.inr _ _ this).1⟩
  · rintro ⟨x, hx, hs, hm⟩
    have := R.dn x.toNat (by have := hx.1; have := hx.2; omega)
    rw [Int.toNat_of_nonneg hx.1] at this
    obtain ⟨r, hr⟩ := Option.isSome_iff_exists.1 this
    have hr2 := (R.rg.inr _ _ hr).2
    have er : ((r.toNat : Nat) : Int) = r := Int.toNat_of_nonneg hr2.1
    refine ⟨r.toNat, by omega, sorted_mem_eq hs regAt_sorted fun y => ?_⟩
    rw [hm, regAt_mem, er]
    constructor
    · intro h
      have := R.rg.reach hr h
      exact ⟨this, (R.rg.inr _ _ this).1⟩
    · intro h; exact R.rg.co _ _ _ hr h.1
theorem regList_heads (hv : f.valid = true) : (regListF f).Pairwise HeadLt := by
  have R := regF hv
  rw [List.pairwise_iff_getElem]
  intro i j hi hj hij
  rw [regList_len] at hi hj
  obtain ⟨x, x1, x2, x3⟩ := reg_head hv hi
  obtain ⟨y, y1, y2, y3⟩ := reg_head hv hj
  have ei := regList_at hi
  have ej := regList_at hj
  have hi2 : i < (regListF f).length := by rw [regList_len]; exact hi
  have hj2 : j < (regListF f).length := by rw [regList_len]; exact hj
  rw [List.getElem?_eq_getElem hi2] at ei
  rw [List.getElem?_eq_getElem hj2] at ej
  unfold HeadLt
  rw [Option.some.inj ei, Option.some.inj ej, x1, y1]
  exact R.ord i j x y x2 y2 x3 y3 (by omega)
theorem head_of (hs : List Int) {x : Int} (h : hs.head? = some x) : x ∈ hs := by
  cases hs with
  | nil => cases h
  | cons a l => cases h; exact List.mem_cons_self ..
theorem reg_kind (hv : f.valid = true) {cs : List Int} {x : Int} (hx : InF f x) (hs : cs.Pairwise (· < ·)) (hm : ∀ y, y ∈ cs ↔ Reach f x y) :
    (furrowB f cs = true ↔ landB f x = false) ∧ (deadB f cs = true ↔ landB f x = false ∧ ∀ y, Reach f x y → y < (f.rings - 1) * f.sectors) := by
  have hc : x ∈ cs := (hm x).2 (.refl x)
  obtain ⟨a, ha⟩ : ∃ a, cs.head? = some a := by
    cases cs with
    | nil => cases hc
    | cons a l => exact ⟨a, rfl⟩
  have har := (hm a).1 (head_of _ ha)
  have hf : furrowB f cs = true ↔ landB f x = false := by
    unfold furrowB
    rw [ha, Option.getD_some, ← har.land]
    unfold landB
    simp
  refine ⟨hf, ?_⟩
  unfold deadB
  rw [Bool.and_eq_true]
  have e : (!decide (f.kat (cs.head?.getD 0).toNat = 0)) = furrowB f cs := rfl
  rw [e, hf, decide_eq_true_eq]
  refine and_congr_right fun _ => ?_
  rcases List.eq_nil_or_concat cs with e | ⟨ws, y, e⟩
  · subst e; cases hc
  · rw [List.concat_eq_append] at e
    subst e
    rw [List.getLast?_append, List.getLast?_singleton, Option.some_or, Option.getD_some]
    constructor
    · intro h z hz
      rcases List.mem_append.1 ((hm z).2 hz) with hz2 | hz2
      · have := (List.pairwise_append.1 hs).2.2 z hz2 y (List.mem_singleton.2 rfl)
        omega
      · rw [List.mem_singleton.1 hz2]; exact h
    · intro h
      exact h y ((hm y).1 (List.mem_append_right _ (List.mem_singleton.2 rfl)))
theorem deadF_mem {n : Int} : n ∈ deadF f ↔ ∃ k : Nat, k < (regListF f).length ∧ n = k ∧ deadB f ((regListF f)[k]?.getD []) = true := by
  unfold deadF
  rw [List.mem_filterMap]
  constructor
  · rintro ⟨k, hk, e⟩
    split at e
    · rename_i h; cases e; exact ⟨k, List.mem_range.1 hk, rfl, h⟩
    · cases e
  · rintro ⟨k, hk, rfl, h⟩
    exact ⟨k, List.mem_range.2 hk, by rw [if_pos h]⟩
theorem gone_iff (hv : f.valid = true) {x : Int} : x ∈ goneF f ↔ InF f x ∧ landB f x = false ∧ ∀ y, Reach f x y → y < (f.rings - 1) * f.sectors := by
  unfold goneF
  rw [List.mem_flatMap]
  constructor
  · rintro ⟨n, hn, hx⟩
    obtain ⟨k, hk, rfl, hd⟩ := deadF_mem.1 hn
    rw [Int.toNat_natCast] at hx
    rw [List.getElem?_eq_getElem hk, Option.getD_some] at hx hd
    obtain ⟨a, ha, hs, hm⟩ := (regList_iff hv).1 (List.getElem_mem hk)
    have har := (hm x).1 hx
    have hxi := har.inF hv ha
    have := (reg_kind hv hxi hs (fun y => by
      rw [hm]
      exact ⟨fun h => (har.symm hv ha).trans h, fun h => har.trans h⟩)).2.1 hd
    exact ⟨hxi, this⟩
  · rintro ⟨hx, hl, hy⟩
    have R := regF hv
    have := R.dn x.toNat (by have := hx.1; have := hx.2; omega)
    rw [Int.toNat_of_nonneg hx.1] at this
    obtain ⟨r, hr⟩ := Option.isSome_iff_exists.1 this
    have hr2 := (R.rg.inr _ _ hr).2
    have er : ((r.toNat : Nat) : Int) = r := Int.toNat_of_nonneg hr2.1
    have hk : r.toNat < (regionsF f).2.toNat := by omega
    have hmem : ∀ y, y ∈ regAt f (regionsF f).1 (r.toNat : Nat) f.kinds.length ↔ Reach f x y := fun y => by
      rw [regAt_mem, er]
      constructor
      · intro h; exact R.rg.co _ _ _ hr h.1
      · intro h
        have := R.rg.reach hr h
        exact ⟨this, (R.rg.inr _ _ this).1⟩
    refine ⟨r, deadF_mem.2 ⟨r.toNat, by rw [regList_len]; exact hk, er.symm, ?_⟩, ?_⟩
    · rw [regList_at hk, Option.getD_some]
      exact (reg_kind hv hx regAt_sorted hmem).2.2 ⟨hl, hy⟩
    · rw [regList_at hk, Option.getD_some]
      exact (hmem x).2 (.refl x)
theorem drain_size (gone : List Int) : (drainF f gone).eye = f.eye ∧ (drainF f gone).rings = f.rings ∧ (drainF f gone).sectors = f.sectors ∧ (drainF f gone).kinds.length = f.kinds.length := ⟨rfl, rfl, rfl, foldl_set_len _ _⟩
theorem set_kinds : ∀ (gone : List Int) (l : List Int), (∀ k ∈ l, 0 ≤ k ∧ k ≤ 2) → ∀ k ∈ gone.foldl (fun l x => l.set x.toNat 0) l, 0 ≤ k ∧ k ≤ 2
  | [], l, h => h
  | x :: g, l, h => by
    rw [List.foldl_cons]
    refine set_kinds g _ fun k hk => ?_
    rcases List.mem_or_eq_of_mem_set hk with h1 | h1
    · exact h k h1
    · omega
theorem drain_valid (hv : f.valid = true) (gone : List Int) : (drainF f gone).valid = true := by
  obtain ⟨h1, h2, h3, h4, h5⟩ := FaceV.valid_iff.1 hv
  exact FaceV.valid_iff.2 ⟨h1, h2, h3, by rw [(drain_size gone).2.2.2]; exact h4, set_kinds gone f.kinds h5⟩
theorem drain_land (gone : List Int) (hg : ∀ x ∈ gone, 0 ≤ x) {x : Int} (hx : InF f x) : landB (drainF f gone) x = (decide (x ∈ gone) || landB f x) := by
  have := foldl_set_at gone f.kinds x.toNat (by have := hx.1; have := hx.2; omega) hg
  rw [Int.toNat_of_nonneg hx.1] at this
  unfold landB FaceV.kat drainF
  dsimp only
  rw [this]
  by_cases h : x ∈ gone
  · rw [if_pos h, decide_eq_true h]; rfl
  · rw [if_neg h, decide_eq_false h, Bool.false_or]
theorem drain_reach (hv : f.valid = true) {x : Int} (hx : InF f x) (hl : landB f x = false) (hn : x ∉ goneF f) (y : Int) : Reach (drainF f (goneF f)) x y ↔ Reach f x y := by
  have hpos : ∀ x ∈ goneF f, 0 ≤ x := fun x hx => ((gone_iff hv).1 hx).1.1
  constructor
  · intro h
    have : Reach f x y ∧ InF f y := by
      induction h with
      | refl => exact ⟨.refl _, hx⟩
      | @step y z h2 h3 h4 ih =>
        have hz := neigh_in hv ih.2 h3
        refine ⟨.step ih.1 h3 ?_, hz.1⟩
        have hl2 := h2.land
        rw [drain_land _ hpos hx, hl, decide_eq_false hn, drain_land _ hpos ih.2] at hl2
        rw [drain_land _ hpos hz.1, drain_land _ hpos ih.2, hl2] at h4
        simp only [Bool.or_eq_false_iff, Bool.or_false] at hl2 h4
        rw [hl2.2, h4.2]
    exact this.1
  · intro h
    induction h with
    | refl => exact .refl _
    | @step y z h2 h3 h4 ih =>
      have hy := h2.inF hv hx
      have hz := (neigh_in hv hy h3).1
      have hng : ∀ w, Reach f x w → w ∉ goneF f := fun w hw hg => hn ((gone_iff hv).2 ⟨hx, hl, fun v hvv => ((gone_iff hv).1 hg).2.2 v ((hw.symm hv hx).trans hvv)⟩)
      refine ih.step h3 ?_
      rw [drain_land _ hpos hz, drain_land _ hpos hy, decide_eq_false (hng z (h2.step h3 h4)), decide_eq_false (hng y h2), h4]
theorem drained_left (hv : f.valid = true) : furrowsF (drainF f (goneF f)) (regListF (drainF f (goneF f))) = (furrowsF f (regListF f)).filter fun cs => !deadB f cs := by
  have hd := drain_valid hv (goneF f)
  have hpos : ∀ x ∈ goneF f, 0 ≤ x := fun x hx => ((gone_iff hv).1 hx).1.1
  have hIn : ∀ x, InF (drainF f (goneF f)) x ↔ InF f x := fun x => by unfold InF; rw [(drain_size (goneF f)).2.2.2]
  have h1 : (furrowsF (drainF f (goneF f)) (regListF (drainF f (goneF f)))).Pairwise HeadLt := (regList_heads hd).filter _
  have h2 : ((furrowsF f (regListF f)).filter fun cs => !deadB f cs).Pairwise HeadLt := ((regList_heads hv).filter _).filter _
  refine heads_eq h1 h2 fun cs => ?_
  unfold furrowsF
  rw [List.mem_filter, List.mem_filter, List.mem_filter, regList_iff hd, regList_iff hv]
  constructor
  · rintro ⟨⟨x, hx, hs, hm⟩, hf⟩
    have hk := (reg_kind hd hx hs hm).1.1 hf
    have hxf := (hIn x).1 hx
    rw [drain_land _ hpos hxf, Bool.or_eq_false_iff] at hk
    have hn : x ∉ goneF f := of_decide_eq_false hk.1
    have hm2 : ∀ y, y ∈ cs ↔ Reach f x y := fun y => by rw [hm, drain_reach hv hxf hk.2 hn]
    have K := reg_kind hv hxf hs hm2
    refine ⟨⟨⟨x, hxf, hs, hm2⟩, K.1.2 hk.2⟩, ?_⟩
    cases hdd : deadB f cs with
    | false => rfl
    | true => exact absurd ((gone_iff hv).2 ⟨hxf, K.2.1 hdd⟩) hn
  · rintro ⟨⟨⟨x, hxf, hs, hm⟩, hf⟩, hdd⟩
    have K := reg_kind hv hxf hs hm
    have hk := K.1.1 hf
    have hn : x ∉ goneF f := fun hg => by
      rw [K.2.2 ((gone_iff hv).1 hg).2] at hdd
      cases hdd
    have hm2 : ∀ y, y ∈ cs ↔ Reach (drainF f (goneF f)) x y := fun y => by rw [hm, drain_reach hv hxf hk hn]
    refine ⟨⟨x, (hIn x).2 hxf, hs, hm2⟩, (reg_kind hd ((hIn x).2 hxf) hs hm2).1.2 ?_⟩
    rw [drain_land _ hpos hxf, hk, decide_eq_false hn]
    rfl
theorem drained_dry (hv : f.valid = true) : deadF (drainF f (goneF f)) = [] := by
  have hd := drain_valid hv (goneF f)
  refine List.eq_nil_iff_forall_not_mem.2 fun n hn => ?_
  obtain ⟨k, hk, rfl, hdd⟩ := deadF_mem.1 hn
  rw [List.getElem?_eq_getElem hk, Option.getD_some] at hdd
  generalize hcs : (regListF (drainF f (goneF f)))[k] = cs at *
  have hmem : cs ∈ regListF (drainF f (goneF f)) := by rw [← hcs]; exact List.getElem_mem hk
  have hfur : furrowB (drainF f (goneF f)) cs = true := by
    unfold deadB at hdd
    rw [Bool.and_eq_true] at hdd
    exact hdd.1
  have : cs ∈ furrowsF (drainF f (goneF f)) (regListF (drainF f (goneF f))) := List.mem_filter.2 ⟨hmem, hfur⟩
  rw [drained_left hv] at this
  obtain ⟨h1, h2⟩ := List.mem_filter.1 this
  obtain ⟨x, hx, hs, hm⟩ := (regList_iff hv).1 (List.mem_filter.1 h1).1
  have K := reg_kind hv hx hs hm
  have hk := K.1.1 (List.mem_filter.1 h1).2
  obtain ⟨y, hy, hs2, hm2⟩ := (regList_iff hd).1 hmem
  have hyx : Reach f x y := (hm y).1 ((hm2 y).2 (.refl y))
  have K2 := (reg_kind hd hy hs2 hm2).2.1 hdd
  have : deadB f cs = true := K.2.2 ⟨hk, fun z hz => K2.2 z ((hm2 z).1 ((hm z).2 hz))⟩
  rw [this] at h2
  cases h2
theorem drained_len (hv : f.valid = true) : (furrowsF (drainF f (goneF f)) (regListF (drainF f (goneF f)))).length + (deadF f).length = (furrowsF f (regListF f)).length := by
  rw [drained_left hv]
  have e : (deadF f).length = ((furrowsF f (regListF f)).filter fun cs => deadB f cs).length := by
    unfold furrowsF
    rw [List.filter_filter]
    have : ((regListF f).filter fun cs => deadB f cs && furrowB f cs) = (regListF f).filter fun cs => deadB f cs := List.filter_congr fun cs _ => by
      cases h : deadB f cs with
      | false => rfl
      | true =>
        have : furrowB f cs = true := by
          unfold deadB at h
          rw [Bool.and_eq_true] at h
          exact h.1
        rw [this]; rfl
    rw [this]
    unfold deadF
    generalize regListF f = l
    have key : ∀ (l2 pre : List (List Int)), l = pre ++ l2 → ((List.range' pre.length l2.length).filterMap fun (n : Nat) => if deadB f (l[n]?.getD []) = true then some (n : Int) else none).length = (l2.filter fun cs => deadB f cs).length := by
      intro l2
      induction l2 with
      | nil => intro pre _; rfl
      | cons a t ih =>
        intro pre hp
        have := ih (pre ++ [a]) (by rw [hp, List.append_assoc]; rfl)
        rw [List.length_append] at this
        rw [List.length_cons, List.range'_succ, List.filterMap_cons, List.filter_cons]
        have ea : l[pre.length]?.getD [] = a := by rw [hp]; simp
        rw [ea]
        by_cases hd : deadB f a = true
        · rw [if_pos hd, if_pos hd, List.length_cons, List.length_cons]
          exact congrArg (· + 1) this
        · rw [if_neg hd, if_neg hd]
          exact this
    have := key l [] rfl
    rwa [List.length_nil, ← List.range_eq_range'] at this
  rw [e]
  generalize furrowsF f (regListF f) = l
  clear e
  induction l with
  | nil => rfl
  | cons a t ih =>
    rw [List.filter_cons, List.filter_cons]
    cases deadB f a <;> simp only [Bool.not_false, Bool.not_true, if_true, if_false, List.length_cons, Bool.false_eq_true] <;> omega
end
end Go.Proofs.YtimmadkbkimonaaGreatDoor
namespace Go.Proofs.YtimmadkbkimonaaGreatDoor
set_option linter.unusedSimpArgs false
set_option linter.unusedVariables false
open Go.RowKit

structure FurV where
  at_ : Int
  from_ : Int
  lean : Int
  leans : Int
  steep : Int
  feather : Int
  deriving DecidableEq
structure PatV where
  eye : Int
  rings : Int
  harps : Int
  wide : Int
  furs : List FurV
def furB (p : PatV) (x : FurV) : Bool := inB x.at_ 0 (p.wide - 1) && (inB x.from_ 0 (p.rings - 1) && (inB x.lean (-96) 96 && (inB x.leans 1 96 && (inB x.steep 1 p.wide && (inB x.feather 0 p.wide && decide (x.steep + x.feather < p.wide))))))
def PatV.valid (p : PatV) : Bool := (inB p.eye 1 16 && (inB p.rings 1 24 && (inB p.harps 1 96 && (inB p.wide 1 96 && (inB (p.harps * p.wide) 2 96 && decide (p.furs.length ≤ 16)))))) && p.furs.all (furB p)
abbrev Cuts := List (Int × Int)
def putE (l : List Int) (e : Int × Int) : List Int := if l[e.1.toNat]?.getD 0 = 0 then l.set e.1.toNat e.2 else l
def leanF (rings : Int) (x : FurV) (ring : Int) : Int := ((rings - 1 - ring) * x.lean) / x.leans
def wideF (x : FurV) : Nat := (x.steep + x.feather).toNat
def cutE (f : FaceV) (x : FurV) (ring first : Int) : Cuts := (List.range (wideF x)).map fun (n : Nat) => (indexF f ring (first + x.at_ + leanF f.rings x ring + n), if (n : Int) < x.steep then 1 else 2)
def ringE (f : FaceV) (p : PatV) (x : FurV) (ring : Int) : Cuts := (List.range p.harps.toNat).flatMap fun (h : Nat) => cutE f x ring (h * p.wide)
def furE (f : FaceV) (p : PatV) (x : FurV) : Cuts := (List.range (p.rings - x.from_).toNat).flatMap fun (k : Nat) => ringE f p x (x.from_ + k)
def patF (p : PatV) : FaceV := ⟨p.eye, p.rings, p.harps * p.wide, List.replicate (p.rings * p.harps * p.wide).toNat 0⟩
def dressF (p : PatV) : FaceV := { patF p with kinds := p.furs.foldl (fun l x => (furE (patF p) p x).foldl putE l) (patF p).kinds }
def dressP (p : PatV) : FaceV × Int := if p.valid = true then (dressF p, 0) else (zeroF, 12)
theorem putE_len (l : List Int) (e : Int × Int) : (putE l e).length = l.length := by unfold putE; split <;> simp
theorem putE_lens : ∀ (E : Cuts) (l : List Int), (E.foldl putE l).length = l.length
  | [], l => rfl
  | e :: E, l => by rw [List.foldl_cons, putE_lens E, putE_len]
theorem PatV.valid_iff {p : PatV} : p.valid = true ↔ ((1 ≤ p.eye ∧ p.eye ≤ 16) ∧ (1 ≤ p.rings ∧ p.rings ≤ 24) ∧ (1 ≤ p.harps ∧ p.harps ≤ 96) ∧ (1 ≤ p.wide ∧ p.wide ≤ 96) ∧ (2 ≤ p.harps * p.wide ∧ p.harps * p.wide ≤ 96) ∧ p.furs.length ≤ 16) ∧ ∀ x ∈ p.furs, (0 ≤ x.at_ ∧ x.at_ ≤ p.wide - 1) ∧ (0 ≤ x.from_ ∧ x.from_ ≤ p.rings - 1) ∧ (-96 ≤ x.lean ∧ x.lean ≤ 96) ∧ (1 ≤ x.leans ∧ x.leans ≤ 96) ∧ (1 ≤ x.steep ∧ x.steep ≤ p.wide) ∧ (0 ≤ x.feather ∧ x.feather ≤ p.wide) ∧ x.steep + x.feather < p.wide := by
  unfold PatV.valid furB
  simp only [Bool.and_eq_true, inB_true, decide_eq_true_eq, List.all_eq_true]
theorem patF_valid {p : PatV} (h : p.valid = true) : (patF p).valid = true := by
  obtain ⟨⟨h1, h2, h3, h4, h5, _⟩, _⟩ := PatV.valid_iff.1 h
  refine FaceV.valid_iff.2 ⟨h1, h2, h5, ?_, fun k hk => ?_⟩
  · show ((List.replicate (p.rings * p.harps * p.wide).toNat (0 : Int)).length : Int) = p.rings * (p.harps * p.wide)
    rw [List.length_replicate, Int.toNat_of_nonneg, Int.mul_assoc]
    exact Int.mul_nonneg (Int.mul_nonneg (by omega) (by omega)) (by omega)
  · have := (List.mem_replicate.1 hk).2
    omega
section
variable {p : PatV}
end
end Go.Proofs.YtimmadkbkimonaaGreatDoor
namespace Go.Proofs.YtimmadkbkimonaaGreatDoor
set_option linter.unusedSimpArgs false
set_option linter.unusedVariables false
open Go.RowKit

def cmpZ : List Int → List Int → Int
  | [], [] => 0
  | [], _ :: _ => -1
  | _ :: _, [] => 1
  | x :: xs, y :: ys => if x < y then -1 else if y < x then 1 else cmpZ xs ys
theorem cmpZ_self : ∀ l, cmpZ l l = 0
  | [] => rfl
  | x :: xs => by unfold cmpZ; rw [if_neg (by omega), if_neg (by omega)]; exact cmpZ_self xs
theorem cmpZ_trans : ∀ l m n, cmpZ l m < 0 → cmpZ m n < 0 → cmpZ l n < 0
  | [], [], _, h, _ => by simp [cmpZ] at h
  | [], _ :: _, [], _, h => by simp [cmpZ] at h
  | [], _ :: _, _ :: _, _, _ => by simp [cmpZ]
  | _ :: _, [], _, h, _ => by simp [cmpZ] at h
  | _ :: _, _ :: _, [], _, h => by simp [cmpZ] at h
  | x :: xs, y :: ys, z :: zs, h1, h2 => by
    unfold cmpZ at h1 h2 ⊢
    split at h1
    · split at h2
      · rw [if_pos (by omega)]; decide
      · split at h2
        · cases h2
        · rw [if_pos (by omega)]; decide
    · split at h1
      · cases h1
      · split at h2
        · rw [if_pos (by omega)]; decide
        · split at h2
          · cases h2
          · rw [if_neg (by omega), if_neg (by omega)]
            exact cmpZ_trans xs ys zs h1 h2
def normalF (f : FaceV) : FaceV := (List.range f.S).foldl (fun least (b : Nat) => if cmpZ (turnF f b).kinds least.kinds < 0 then turnF f b else least) f
def normalP (f : FaceV) : FaceV × Int := if f.valid = true then (normalF f, 0) else (zeroF, 10)
section
variable {f g : FaceV}
theorem turn_zero (h : f.valid = true) : turnF f 0 = f := turn_dvd h (by simp)
theorem normal_go (h : f.valid = true) : ∀ k, k ≤ f.S → ∃ a : Int, (List.range k).foldl (fun least (b : Nat) => if cmpZ (turnF f b).kinds least.kinds < 0 then turnF f b else least) f = turnF f a ∧ (∀ b : Nat, b < k → ¬ cmpZ (turnF f b).kinds (turnF f a).kinds < 0) ∧ ¬ cmpZ f.kinds (turnF f a).kinds < 0
  | 0, _ => ⟨0, by rw [turn_zero h]; rfl, fun b hb => by omega, by rw [turn_zero h, cmpZ_self]; decide⟩
  | k + 1, hk => by
    obtain ⟨a, e, h1, h2⟩ := normal_go h k (by omega)
    rw [List.range_succ, List.foldl_append, e]
    simp only [List.foldl_cons, List.foldl_nil]
    by_cases hc : cmpZ (turnF f (k : Nat)).kinds (turnF f a).kinds < 0
    · rw [if_pos hc]
      refine ⟨k, rfl, fun b hb hlt => ?_, fun hlt => h2 (cmpZ_trans _ _ _ hlt hc)⟩
      by_cases hbk : b < k
      · exact h1 b hbk (cmpZ_trans _ _ _ hlt hc)
      · have : b = k := by omega
        subst this
        rw [cmpZ_self] at hlt
        cases hlt
    · rw [if_neg hc]
      refine ⟨a, rfl, fun b hb hlt => ?_, h2⟩
      by_cases hbk : b < k
      · exact h1 b hbk hlt
      · have : b = k := by omega
        subst this
        exact hc hlt
theorem normal_spec (h : f.valid = true) : ∃ a : Int, normalF f = turnF f a ∧ ∀ b : Int, ¬ cmpZ (turnF f b).kinds (normalF f).kinds < 0 := by
  obtain ⟨a, e, h1, _⟩ := normal_go h f.S (Nat.le_refl _)
  refine ⟨a, e, fun b hlt => ?_⟩
  have e2 : normalF f = turnF f a := e
  rw [e2] at hlt
  have hb0 := Int.emod_nonneg b (show f.sectors ≠ 0 by have := (FaceV.nat h).2.1; have := (FaceV.nat h).2.2.2.2.1; omega)
  have hb1 := Int.emod_lt_of_pos b (show 0 < f.sectors by have := (FaceV.nat h).2.1; have := (FaceV.nat h).2.2.2.2.1; omega)
  refine h1 (b % f.sectors).toNat (by have := (FaceV.nat h).2.1; omega) ?_
  rw [Int.toNat_of_nonneg hb0, turn_mod h]
  exact hlt
theorem normal_valid (h : f.valid = true) : (normalF f).valid = true := by
  obtain ⟨a, e, _⟩ := normal_spec h
  rw [e]
  exact turn_valid h a
end
end Go.Proofs.YtimmadkbkimonaaGreatDoor
namespace Go.Proofs.YtimmadkbkimonaaGreatDoor
set_option linter.unusedSimpArgs false
set_option linter.unusedVariables false
open Go.RowKit

def FOwn (w W : World) (g : FaceV) (a : Option Addr) (n : Nat) : Prop := W.ownsRow w.heap.size 3 1 (.slice a g.kinds.length n) g.kinds.length (g.kinds.map intV)
theorem FOwn.rd {w W : World} {g : FaceV} {a : Option Addr} {n : Nat} (h : FOwn w W g a n) : RdI W a g.kinds.length n g.kinds := RdA.of_own h
theorem FOwn.nil (w W : World) : FOwn w W zeroF none 0 := World.ownsRow_nil _ _ _ _
theorem FOwn.below {w W W' : World} {g : FaceV} {a : Option Addr} {n : Nat} (h : FOwn w W g a n) (hb : Below W.heap.size W W') : FOwn w W' g a n := own_below h hb
theorem FOwn.mono {w V W : World} {g : FaceV} {a : Option Addr} {n : Nat} (h : FOwn V W g a n) (hb : w.heap.size ≤ V.heap.size) : FOwn w W g a n := own_mono h hb
theorem FOwn.kept {w W W' : World} {g : FaceV} {a : Option Addr} {n p : Nat} {A : Array Value} (h : FOwn w W g a n) (hg : W.grownBy W' (some p)) (hp : W.heap[p]? = some (.cells A 28 (0, 0))) : FOwn w W' g a n :=
  World.ownsRow.kept h hg (.inr (qown_no h hp (by simp)).symm)
theorem mapped2_any (f : FaceV) (a : Option Addr) (n s : Nat) (si : Int) (of : Int → Int) (fn : Nat) (cap : Array Value) (w : World) (hsi : si = (s : Int)) (hv : f.valid = true) (hr : RdI w a f.kinds.length n f.kinds) (hs : 1 ≤ s ∧ s ≤ 96)
    (hfn : ∀ (args : Array Value) (w : World), (callFunc fn args).run Tryz.prog w = .ok (.enter fn args) w)
    (hcl : ∀ (j : Nat) W, Below w.heap.size w W → j < s → Calls Tryz.prog fn (#[.int .i64 j] ++ cap) W fun e W' => e = .returned (.int .i64 (of j)) ∧ Below W.heap.size W W') :
    Calls Tryz.prog 100 #[.agg (f.cells a n), .int .i64 si, .func (.func fn) #[] cap] w fun e w' => (∃ a' n', e = .returned (.agg ((mapF f s of).cells a' n')) ∧ FOwn w w' (mapF f s of) a' n') ∧ Below w.heap.size w w' := by
  subst hsi
  refine (mapped_any f a n s of fn cap w hv hr hs hfn hcl).mono ?_
  rintro e W ⟨a', n', rfl, h1, h2⟩
  exact ⟨⟨a', n', rfl, h1⟩, h2⟩
set_option maxHeartbeats 4000000 in
set_option maxRecDepth 100000 in
theorem turned_any (f : FaceV) (a : Option Addr) (n : Nat) (by_ : Int) (w : World) (hv : f.valid = true) (hr : RdI w a f.kinds.length n f.kinds) :
    Calls Tryz.prog 98 #[.agg (f.cells a n), .int .i64 by_] w fun e w' => (∃ a' n', e = .returned (.agg ((turnF f by_).cells a' n')) ∧ FOwn w w' (turnF f by_) a' n') ∧ Below w.heap.size w w' := by
  have HR := Lib.hid (fun W (hb : Below w.heap.size w W) => hr.below hb)
  have NV := Lib.hid (FaceV.nat hv)
  have IV := Lib.hid (FaceV.int hv)
  have HV := Lib.hid hv
  clear hr hv
  have AL := Lib.hid (al3 w (.cells (f.cells a n) 28) (.cells #[.int .i64 by_] 3) (.cells #[.int .i64 0, .int .i64 0, .int .i64 0, .slice none 0 0] 28))
  go_enter Tryz.func98, Tryz.ntmps98
  go_upto_region 1 with fail
  obtain ⟨p, hp⟩ : ∃ p, Hid (w.heap.size = p) := ⟨_, Lib.hid rfl⟩
  obtain ⟨q, hq⟩ : ∃ q, Hid (w.heap.size + 1 = q) := ⟨_, Lib.hid rfl⟩
  obtain ⟨z, hz⟩ : ∃ z, Hid (w.heap.size + 2 = z) := ⟨_, Lib.hid rfl⟩
  rw [hz.out] at AL ⊢
  rw [hq.out] at AL ⊢
  rw [hp.out] at AL ⊢
  generalize (((w.alloc (.cells (f.cells a n) 28)).alloc (.cells #[.int .i64 by_] 3)).alloc (.cells #[.int .i64 0, .int .i64 0, .int .i64 0, .slice none 0 0] 28)) = W0 at *
  have BF : Hid (Below w.heap.size w W0) := Lib.hid (by rw [hp.out]; exact AL.out.1)
  have XF : Hid (W0.heap[p]? = some (.cells (f.cells a n) 28 (0, 0))) := Lib.hid AL.out.2.1
  have XB : Hid (W0.heap[q]? = some (.cells #[.int .i64 by_] 3 (0, 0))) := Lib.hid AL.out.2.2.1
  have XZ : Hid (W0.heap[z]? = some (.cells (zeroF.cells none 0) 28 (0, 0))) := Lib.hid AL.out.2.2.2
  clear AL
  have c0 := qcell XF.out 0 (.int .i64 f.eye) rfl
  have c1 := qcell XF.out 1 (.int .i64 f.rings) rfl
  have c2 := qcell XF.out 2 (.int .i64 f.sectors) rfl
  have c3 := qcell XF.out 3 (.slice a f.kinds.length n) rfl
  have d0 := qcell XB.out 0 (.int .i64 by_) rfl
  go_wp2_with (first
    | (refine wpList_load_row rfl 28 _ rfl p rfl 28 (f.cells a n) (0, 0) _ XF.out Tryz.underlying28 rfl (by exact (qJF f a n)) ?_)
    | (refine wpList_load_row rfl 28 _ rfl z rfl 28 (zeroF.cells none 0) (0, 0) _ XZ.out Tryz.underlying28 rfl (by exact (qJF zeroF none 0)) ?_)
    | fail)
  refine (around_any by_ f.sectors W0 (by have := IV.out; omega)).mono ?_
  rintro e V1 ⟨rfl, rfl⟩
  have fz := qfroz XB.out 0
  go_upto_region 2 with (first
    | (refine wpList_load_row rfl 28 _ rfl p rfl 28 (f.cells a n) (0, 0) _ XF.out Tryz.underlying28 rfl (by exact (qJF f a n)) ?_)
    | (refine wpList_load_row rfl 28 _ rfl z rfl 28 (zeroF.cells none 0) (0, 0) _ XZ.out Tryz.underlying28 rfl (by exact (qJF zeroF none 0)) ?_)
    | fail)
  clear c0 c1 c2 c3 d0
  clear fz
  have HG := qput_grown V1 q 0 (.int .i64 (around by_ f.sectors))
  replace BF := Lib.hid (qstep BF.out HG (by have h1 := hq.out; omega))
  have XR : Hid ((V1.setCell ⟨q, 0, none⟩ (.int .i64 (around by_ f.sectors))).heap[q]? = some (.cells #[.int .i64 (around by_ f.sectors)] 3 (0, 0))) := Lib.hid (by rw [qput_at XB.out 0 _]; rfl)
  replace XF := Lib.hid (qgrown HG XF.out (fun e => by have h1 := hp.out; have h2 := hq.out; have := Option.some.inj e; omega))
  replace XZ := Lib.hid (qgrown HG XZ.out (fun e => by have h1 := hz.out; have h2 := hq.out; have := Option.some.inj e; omega))
  clear HG XB
  generalize V1.setCell ⟨q, 0, none⟩ (.int .i64 (around by_ f.sectors)) = V2 at *
  have c0 := qcell XF.out 0 (.int .i64 f.eye) rfl
  have c1 := qcell XF.out 1 (.int .i64 f.rings) rfl
  have c2 := qcell XF.out 2 (.int .i64 f.sectors) rfl
  have c3 := qcell XF.out 3 (.slice a f.kinds.length n) rfl
  have d0 := qcell XR.out 0 (.int .i64 (around by_ f.sectors)) rfl
  go_wp2_with (first
    | (refine wpList_load_row rfl 28 _ rfl p rfl 28 (f.cells a n) (0, 0) _ XF.out Tryz.underlying28 rfl (by exact (qJF f a n)) ?_)
    | (refine wpList_load_row rfl 28 _ rfl z rfl 28 (zeroF.cells none 0) (0, 0) _ XZ.out Tryz.underlying28 rfl (by exact (qJF zeroF none 0)) ?_)
    | fail)
  refine (mapped2_any f a n f.S f.sectors (fun s => s - around by_ f.sectors) 135 #[.pointer (some ⟨q, 0, none⟩)] V2 NV.out.2.1 HV.out (HR.out V2 BF.out) (by have := NV.out; omega) (fun args w => by kernel_rfl) (fun j W hb hj => ?cl)).mono ?_
  case cl =>
    have h0 := qcell (qblk hb XR.out) 0 (.int .i64 (around by_ f.sectors)) rfl
    have hA := around_lt HV.out by_
    have WA := Lib.hid (show wrap64 ((j : Int) - around by_ f.sectors) = (j : Int) - around by_ f.sectors by have := IV.out; have := NV.out; unfold wrap64; omega)
    clear hA hb d0 c0 c1 c2 c3
    go_enter Tryz.func135, Tryz.ntmps135
    go_wp2_with fail
    go_ret
    exact ⟨by first | (rw [WA.out]; rfl) | (rw [← WA.out]; rfl) | rfl, Below.refl _ _⟩
  rintro e V3 ⟨⟨a', n', rfl, own⟩, b⟩
  have OW := Lib.hid (own.mono BF.out.size)
  clear own
  clear c0 c1 c2 c3 d0
  replace BF := Lib.hid (BF.out.trans (b.mono BF.out.size))
  replace XF := Lib.hid (qblk b XF.out)
  replace XR := Lib.hid (qblk b XR.out)
  replace XZ := Lib.hid (qblk b XZ.out)
  clear b
  have c0 := qcell XF.out 0 (.int .i64 f.eye) rfl
  have c1 := qcell XF.out 1 (.int .i64 f.rings) rfl
  have c2 := qcell XF.out 2 (.int .i64 f.sectors) rfl
  have c3 := qcell XF.out 3 (.slice a f.kinds.length n) rfl
  have d0 := qcell XR.out 0 (.int .i64 (around by_ f.sectors)) rfl
  have eT : mapF f f.S (fun s => s - around by_ f.sectors) = turnF f by_ := rfl
  rw [eT] at OW ⊢
  clear eT
  go_wp2_with (first
    | (refine wpList_load_row rfl 28 _ rfl p rfl 28 (f.cells a n) (0, 0) _ XF.out Tryz.underlying28 rfl (by exact (qJF f a n)) ?_)
    | (refine wpList_load_row rfl 28 _ rfl z rfl 28 (zeroF.cells none 0) (0, 0) _ XZ.out Tryz.underlying28 rfl (by exact (qJF zeroF none 0)) ?_)
    | (refine wpList_qstore rfl 28 _ _ rfl z (zeroF.cells none 0) ((turnF f by_).cells a' n') 28 rfl rfl XZ.out (by exact (qJF (turnF f by_) a' n')) rfl (qone (turnF f by_) a' n') ?_; intro VZ hzz hgz; clear c0 c1 c2 c3 d0; replace BF := Lib.hid (qstep BF.out hgz (by have h1 := hz.out; omega)); replace XF := Lib.hid (qgrown hgz XF.out (fun e => by have h1 := hp.out; have h2 := hz.out; have := Option.some.inj e; omega)); replace XR := Lib.hid (qgrown hgz XR.out (fun e => by have h1 := hq.out; have h2 := hz.out; have := Option.some.inj e; omega)); replace OW := Lib.hid (OW.out.kept hgz XZ.out); replace XZ := Lib.hid hzz; clear hzz hgz; have c0 := qcell XF.out 0 (.int .i64 f.eye) rfl; have c1 := qcell XF.out 1 (.int .i64 f.rings) rfl; have c2 := qcell XF.out 2 (.int .i64 f.sectors) rfl; have c3 := qcell XF.out 3 (.slice a f.kinds.length n) rfl; have d0 := qcell XR.out 0 (.int .i64 (around by_ f.sectors)) rfl)
    | fail)
  (try simp only [Exit.inBlock, Exit.then])
  refine bodyPost_ret (results_cell_row rfl _ VZ z 28 ((turnF f by_).cells a' n') (0, 0) _ rfl XZ.out Tryz.underlying28 rfl (by exact (qJF (turnF f by_) a' n'))) rfl ?_
  exact ⟨⟨a', n', rfl, OW.out⟩, BF.out⟩
set_option maxHeartbeats 4000000 in
set_option maxRecDepth 100000 in
theorem turnP_any (f : FaceV) (a : Option Addr) (n : Nat) (by_ : Int) (w : World) (hr : RdI w a f.kinds.length n f.kinds) :
    Calls Tryz.prog 40 #[.agg (f.cells a n), .int .i64 by_] w fun e w' => (∃ a' n', e = .returned (.tuple #[.agg ((turnP f by_).1.cells a' n'), .int .i64 (turnP f by_).2]) ∧ FOwn w w' (turnP f by_).1 a' n') ∧ Below w.heap.size w w' := by
  have AV := Lib.hid (fun W (hb : Below w.heap.size w W) => valid2_any f a n W (hr.below hb))
  have HR := Lib.hid (fun W (hb : Below w.heap.size w W) => hr.below hb)
  clear hr
  have AL := Lib.hid (al2 w (.cells (f.cells a n) 28) (.cells #[.int .i64 0, .int .i64 0, .int .i64 0, .slice none 0 0] 28))
  go_enter Tryz.func40, Tryz.ntmps40
  go_upto_region 1 with fail
  obtain ⟨p, hp⟩ : ∃ p, Hid (w.heap.size = p) := ⟨_, Lib.hid rfl⟩
  obtain ⟨z, hz⟩ : ∃ z, Hid (w.heap.size + 1 = z) := ⟨_, Lib.hid rfl⟩
  rw [hz.out] at AL ⊢
  rw [hp.out] at AL ⊢
  generalize ((w.alloc (.cells (f.cells a n) 28)).alloc (.cells #[.int .i64 0, .int .i64 0, .int .i64 0, .slice none 0 0] 28)) = W0 at *
  have BF : Hid (Below w.heap.size w W0) := Lib.hid (by rw [hp.out]; exact AL.out.1)
  have XF : Hid (W0.heap[p]? = some (.cells (f.cells a n) 28 (0, 0))) := Lib.hid AL.out.2.1
  have XZ : Hid (W0.heap[z]? = some (.cells (zeroF.cells none 0) 28 (0, 0))) := Lib.hid AL.out.2.2
  clear AL
  have c0 := qcell XF.out 0 (.int .i64 f.eye) rfl
  have c1 := qcell XF.out 1 (.int .i64 f.rings) rfl
  have c2 := qcell XF.out 2 (.int .i64 f.sectors) rfl
  have c3 := qcell XF.out 3 (.slice a f.kinds.length n) rfl
  go_wp2_with (first
    | (refine wpList_load_row rfl 28 _ rfl p rfl 28 (f.cells a n) (0, 0) _ XF.out Tryz.underlying28 rfl (by exact (qJF f a n)) ?_)
    | (refine wpList_load_row rfl 28 _ rfl z rfl 28 (zeroF.cells none 0) (0, 0) _ XZ.out Tryz.underlying28 rfl (by exact (qJF zeroF none 0)) ?_)
    | fail)
  refine (AV.out W0 BF.out).mono ?_
  rintro e V1 ⟨rfl, b⟩
  clear c0 c1 c2 c3
  replace BF := Lib.hid (BF.out.trans (b.mono BF.out.size))
  replace XF := Lib.hid (qblk b XF.out)
  replace XZ := Lib.hid (qblk b XZ.out)
  clear b
  have c0 := qcell XF.out 0 (.int .i64 f.eye) rfl
  have c1 := qcell XF.out 1 (.int .i64 f.rings) rfl
  have c2 := qcell XF.out 2 (.int .i64 f.sectors) rfl
  have c3 := qcell XF.out 3 (.slice a f.kinds.length n) rfl
  cases hv : f.valid
  · go_wp2_with (first
      | (refine wpList_load_row rfl 28 _ rfl p rfl 28 (f.cells a n) (0, 0) _ XF.out Tryz.underlying28 rfl (by exact (qJF f a n)) ?_)
      | (refine wpList_load_row rfl 28 _ rfl z rfl 28 (zeroF.cells none 0) (0, 0) _ XZ.out Tryz.underlying28 rfl (by exact (qJF zeroF none 0)) ?_)
      | (refine wpList_qstore rfl 28 _ _ rfl z (zeroF.cells none 0) (zeroF.cells none 0) 28 rfl rfl XZ.out (by exact (qJF zeroF none 0)) rfl (qone zeroF none 0) ?_; intro VZ hzz hgz; clear c0 c1 c2 c3; replace BF := Lib.hid (qstep BF.out hgz (by have h1 := hz.out; omega)); replace XF := Lib.hid (qgrown hgz XF.out (fun e => by have h1 := hp.out; have h2 := hz.out; have := Option.some.inj e; omega)); replace XZ := Lib.hid hzz; clear hzz hgz; have c0 := qcell XF.out 0 (.int .i64 f.eye) rfl; have c1 := qcell XF.out 1 (.int .i64 f.rings) rfl; have c2 := qcell XF.out 2 (.int .i64 f.sectors) rfl; have c3 := qcell XF.out 3 (.slice a f.kinds.length n) rfl)
      | fail)
    (try simp only [Exit.inBlock, Exit.then])
    refine bodyPost_ret (results_ct rfl _ VZ z 28 (zeroF.cells none 0) (0, 0) _ rfl XZ.out Tryz.underlying28 rfl (by exact (qJF zeroF none 0))) rfl ?_
    unfold turnP
    rw [hv]
    exact ⟨⟨none, 0, rfl, FOwn.nil _ _⟩, BF.out⟩
  · have HV := Lib.hid hv
    clear hv
    go_wp2_with (first
      | (refine wpList_load_row rfl 28 _ rfl p rfl 28 (f.cells a n) (0, 0) _ XF.out Tryz.underlying28 rfl (by exact (qJF f a n)) ?_)
      | (refine wpList_load_row rfl 28 _ rfl z rfl 28 (zeroF.cells none 0) (0, 0) _ XZ.out Tryz.underlying28 rfl (by exact (qJF zeroF none 0)) ?_)
      | fail)
    refine (turned_any f a n by_ V1 HV.out (HR.out V1 BF.out)).mono ?_
    rintro e V3 ⟨⟨a', n', rfl, own⟩, b⟩
    have OW := Lib.hid (own.mono BF.out.size)
    clear own
    clear c0 c1 c2 c3
    replace BF := Lib.hid (BF.out.trans (b.mono BF.out.size))
    replace XF := Lib.hid (qblk b XF.out)
    replace XZ := Lib.hid (qblk b XZ.out)
    clear b
    have c0 := qcell XF.out 0 (.int .i64 f.eye) rfl
    have c1 := qcell XF.out 1 (.int .i64 f.rings) rfl
    have c2 := qcell XF.out 2 (.int .i64 f.sectors) rfl
    have c3 := qcell XF.out 3 (.slice a f.kinds.length n) rfl
    go_wp2_with (first
      | (refine wpList_load_row rfl 28 _ rfl p rfl 28 (f.cells a n) (0, 0) _ XF.out Tryz.underlying28 rfl (by exact (qJF f a n)) ?_)
      | (refine wpList_load_row rfl 28 _ rfl z rfl 28 (zeroF.cells none 0) (0, 0) _ XZ.out Tryz.underlying28 rfl (by exact (qJF zeroF none 0)) ?_)
      | (refine wpList_qstore rfl 28 _ _ rfl z (zeroF.cells none 0) ((turnF f by_).cells a' n') 28 rfl rfl XZ.out (by exact (qJF (turnF f by_) a' n')) rfl (qone (turnF f by_) a' n') ?_; intro VZ hzz hgz; clear c0 c1 c2 c3; replace BF := Lib.hid (qstep BF.out hgz (by have h1 := hz.out; omega)); replace XF := Lib.hid (qgrown hgz XF.out (fun e => by have h1 := hp.out; have h2 := hz.out; have := Option.some.inj e; omega)); replace OW := Lib.hid (OW.out.kept hgz XZ.out); replace XZ := Lib.hid hzz; clear hzz hgz; have c0 := qcell XF.out 0 (.int .i64 f.eye) rfl; have c1 := qcell XF.out 1 (.int .i64 f.rings) rfl; have c2 := qcell XF.out 2 (.int .i64 f.sectors) rfl; have c3 := qcell XF.out 3 (.slice a f.kinds.length n) rfl)
      | fail)
    (try simp only [Exit.inBlock, Exit.then])
    refine bodyPost_ret (results_ct rfl _ VZ z 28 ((turnF f by_).cells a' n') (0, 0) _ rfl XZ.out Tryz.underlying28 rfl (by exact (qJF (turnF f by_) a' n'))) rfl ?_
    unfold turnP
    rw [HV.out]
    exact ⟨⟨a', n', rfl, OW.out⟩, BF.out⟩
theorem qplain_int : Tryz.prog.plainKey 3 = true := by kernel_rfl
theorem run_eqItems_q (w : World) (d : Nat) (l m : List Int) : ∀ is : List Nat, (∀ i ∈ is, i < l.length ∧ i < m.length) →
    (Op.eqItems (d + 1) 3 (Tryz.prog.cellsOf 3) (l.map intV).toArray (m.map intV).toArray is).run Tryz.prog w = .ok (decide (∀ i ∈ is, l[i]?.getD 0 = m[i]?.getD 0)) w
  | [], _ => by simp [Op.eqItems]
  | i :: is, h => by
    have hi := h i (List.mem_cons_self ..)
    have hc : Tryz.prog.cellsOf 3 = 1 := by kernel_rfl
    have ih := run_eqItems_q w d l m is (fun j hj => h j (List.mem_cons_of_mem _ hj))
    have p1 : (part 3 (l.map intV).toArray (i * 1)).run Tryz.prog w = .ok (intV (l[i]?.getD 0)) w := run_part_plain w qplain_int (by simp [List.getElem?_eq_getElem hi.1])
    have p2 : (part 3 (m.map intV).toArray (i * 1)).run Tryz.prog w = .ok (intV (m[i]?.getD 0)) w := run_part_plain w qplain_int (by simp [List.getElem?_eq_getElem hi.2])
    have p3 := run_equalIn_int w d 3 .i64 .i64 (l[i]?.getD 0) (m[i]?.getD 0) Tryz.underlying3
    rw [hc] at ih ⊢
    simp only [Op.eqItems, Sem.run_bind, p1, p2, Result.andThen_ok]
    rw [show Op.equalIn (d + 1) 3 (intV (l[i]?.getD 0)) (intV (m[i]?.getD 0)) = Op.equalIn (d + 1) 3 (.int .i64 (l[i]?.getD 0)) (.int .i64 (m[i]?.getD 0)) from rfl, p3]
    simp only [Result.andThen_ok]
    by_cases he : l[i]?.getD 0 = m[i]?.getD 0
    · simp [he, ih]
    · simp [he]
def eq3 (x y z x' y' z' : Int) : Bool := decide ([x, y, z] = [x', y', z'])
theorem run_equal3 (w : World) (x y z x' y' z' : Int) : (Op.equalIn 10000 131 (.agg #[.int .i64 x, .int .i64 y, .int .i64 z]) (.agg #[.int .i64 x', .int .i64 y', .int .i64 z'])).run Tryz.prog w = .ok (eq3 x y z x' y' z') w := by
  obtain ⟨i, hi, _⟩ : ∃ i, Tryz.prog.info? 3 = some i ∧ True := by
    cases h : Tryz.prog.info? 3 with
    | none => exact absurd h (by
      have : (Tryz.prog.info? 3).isSome = true := by kernel_rfl
      intro h'; rw [h'] at this; cases this)
    | some i => exact ⟨i, rfl, trivial⟩
  have h := run_equalIn_array (P := Tryz.prog) w 9999 (t := 131) ([x, y, z].map intV).toArray ([x', y', z'].map intV).toArray Tryz.underlying131 hi
  rw [run_eqItems_q w 9998 [x, y, z] [x', y', z'] (List.range 3) (fun i hi => by have := List.mem_range.1 hi; simp; omega)] at h
  have e : decide (∀ i ∈ List.range 3, [x, y, z][i]?.getD 0 = [x', y', z'][i]?.getD 0) = decide ([x, y, z] = [x', y', z']) := by
    rw [decide_eq_decide]
    constructor
    · intro h
      have h0 := h 0 (by decide)
      have h1 := h 1 (by decide)
      have h2 := h 2 (by decide)
      simp at h0 h1 h2
      rw [h0, h1, h2]
    · intro h i hi
      rw [h]
  rw [e] at h
  exact h
attribute [local go_sem ↓] run_equal3
end Go.Proofs.YtimmadkbkimonaaGreatDoor
namespace Go.Proofs.YtimmadkbkimonaaGreatDoor
set_option linter.unusedSimpArgs false
set_option linter.unusedVariables false
open Go.RowKit

set_option maxHeartbeats 4000000 in
set_option maxRecDepth 100000 in
theorem isNaNZ (x : Int) (w : World) : Calls Tryz.prog 151 #[.int .i64 x] w fun e w' => e = .returned (.bool false) ∧ w' = w := by
  have h : (x != x) = false := by simp
  go_enter Tryz.func151, Tryz.ntmps151
  go_wp2_with fail
  go_ret
  exact ⟨rfl, rfl⟩
def cmp1 (x y : Int) : Int := if x < y then -1 else if y < x then 1 else 0
set_option maxHeartbeats 4000000 in
set_option maxRecDepth 100000 in
theorem cmp1_any (x y : Int) (w : World) : Calls Tryz.prog 136 #[.int .i64 x, .int .i64 y] w fun e w' => e = .returned (.int .i64 (cmp1 x y)) ∧ w' = w := by
  by_cases h1 : x < y
  · have t1 : decide (x < y) = true := by simp; omega
    go_enter Tryz.func136, Tryz.ntmps136
    go_wp2_with (refine (isNaNZ _ _).mono ?_; rintro e W1 ⟨rfl, rfl⟩)
    go_ret
    exact ⟨by unfold cmp1; rw [if_pos (by omega)]; rfl, rfl⟩
  · have t1 : decide (x < y) = false := by simp; omega
    by_cases h2 : y < x
    · have t2 : decide (y < x) = true := by simp; omega
      go_enter Tryz.func136, Tryz.ntmps136
      go_wp2_with (refine (isNaNZ _ _).mono ?_; rintro e W1 ⟨rfl, rfl⟩)
      go_ret
      exact ⟨by unfold cmp1; rw [if_neg (by omega), if_pos (by omega)]; rfl, rfl⟩
    · have t2 : decide (y < x) = false := by simp; omega
      go_enter Tryz.func136, Tryz.ntmps136
      go_wp2_with (refine (isNaNZ _ _).mono ?_; rintro e W1 ⟨rfl, rfl⟩)
      go_ret
      exact ⟨by unfold cmp1; rw [if_neg (by omega), if_neg (by omega)]; rfl, rfl⟩
set_option maxHeartbeats 4000000 in
set_option maxRecDepth 100000 in
theorem cmpZ_any (a : Option Addr) (n c : Nat) (l : List Int) (b : Option Addr) (m d : Nat) (l2 : List Int) (w : World) (hr : RdI w a n c l) (hr2 : RdI w b m d l2) :
    Calls Tryz.prog 103 #[.slice a n c, .slice b m d] w fun e w' => e = .returned (.int .i64 (cmpZ l l2)) ∧ w' = w := by
  have HN63 := Lib.hid hr.maxn
  have HM63 := Lib.hid hr2.maxn
  have HN := Lib.hid hr.len
  have HM := Lib.hid hr2.len
  have R1 := Lib.hid hr
  have R2 := Lib.hid hr2
  clear hr hr2
  go_enter Tryz.func103, Tryz.ntmps103
  go_wp2_with fail
  go_loopw [11] (fun i wr => ∃ k : Nat, i = .int .i64 k ∧ k ≤ n ∧ k ≤ m ∧ Hid (cmpZ l l2 = cmpZ (l.drop k) (l2.drop k)) ∧ wr = w) (fun i _ => n - (intOf i).toNat)
  case atStart => exact ⟨0, rfl, Nat.zero_le _, Nat.zero_le _, Lib.hid rfl, rfl⟩
  case round =>
    obtain ⟨k, rfl, hk, hkm, HC, rfl⟩ := hrel
    by_cases hkn : k < n
    · have t0 : decide ((k : Int) < (n : Int)) = true := by simp; omega
      obtain ⟨x, hx⟩ : ∃ x, l[k]? = some x := ⟨l[k]'(by rw [HN.out]; exact hkn), List.getElem?_eq_getElem _⟩
      obtain ⟨b0, off, rfl, hc1⟩ := R1.out.get hx
      have HX := Lib.hid hx
      clear hx
      by_cases hkm2 : k < m
      · have t1 : decide ((m : Int) ≤ (k : Int)) = false := by simp; omega
        obtain ⟨y, hy⟩ : ∃ y, l2[k]? = some y := ⟨l2[k]'(by rw [HM.out]; exact hkm2), List.getElem?_eq_getElem _⟩
        obtain ⟨b1, off1, rfl, hc2⟩ := R2.out.get hy
        have HY := Lib.hid hy
        clear hy
        have ST : Hid (cmpZ l l2 = if x < y then -1 else if y < x then 1 else cmpZ (l.drop (k + 1)) (l2.drop (k + 1))) := Lib.hid (by
          have e1 : l.drop k = x :: l.drop (k + 1) := by
            have h := List.drop_eq_getElem_cons (l := l) (i := k) (by rw [HN.out]; exact hkn)
            rw [h]
            have h2 := HX.out
            rw [List.getElem?_eq_getElem (by rw [HN.out]; exact hkn)] at h2
            rw [Option.some.inj h2]
          have e2 : l2.drop k = y :: l2.drop (k + 1) := by
            have h := List.drop_eq_getElem_cons (l := l2) (i := k) (by rw [HM.out]; exact hkm2)
            rw [h]
            have h2 := HY.out
            rw [List.getElem?_eq_getElem (by rw [HM.out]; exact hkm2)] at h2
            rw [Option.some.inj h2]
          rw [HC.out, e1, e2]
          rfl)
        go_wp2_with fail
        refine (cmp1_any x y _).mono ?_
        rintro e W1 ⟨rfl, rfl⟩
        obtain ⟨c, hc⟩ : ∃ c, Hid (cmp1 x y = c) := ⟨_, Lib.hid rfl⟩
        rw [hc.out]
        by_cases h0 : c = 0
        · have t2 : (c != 0) = false := by simp [h0]
          go_upto_region 10 with fail
          have hk64 : (k : Int) + 1 ≤ 9223372036854775807 := by have := HN63.out; omega
          go_wp2_with fail
          go_roundw
          case rel =>
            refine ⟨k + 1, by simp, by omega, by omega, Lib.hid ?_, by trivial⟩
            rw [ST.out]
            have h1 := hc.out
            unfold cmp1 at h1
            split at h1
            · omega
            · split at h1
              · omega
              · rename_i h2 h3
                rw [if_neg h2, if_neg h3]
          case measure => simp [intOf]; omega
        · have t2 : (c != 0) = true := by simp [h0]
          go_wp2_with fail
          go_ret
          have e : cmpZ l l2 = c := by
            rw [ST.out]
            have h1 := hc.out
            unfold cmp1 at h1
            split at h1
            · rename_i h2; rw [if_pos h2]; exact h1
            · rename_i h2
              rw [if_neg h2]
              split at h1
              · rename_i h3; rw [if_pos h3]; exact h1
              · exact absurd h1.symm h0
          rw [e]
          exact ⟨rfl, rfl⟩
      · have t1 : decide ((m : Int) ≤ (k : Int)) = true := by simp; omega
        go_wp2_with fail
        go_ret
        have e2 : cmpZ l l2 = 1 := by
          rw [HC.out, List.drop_of_length_le (l := l2) (by have := HM.out; omega), List.drop_eq_getElem_cons (l := l) (i := k) (by rw [HN.out]; exact hkn)]
          rfl
        rw [e2]
        exact ⟨rfl, rfl⟩
    · have t0 : decide ((k : Int) < (n : Int)) = false := by simp; omega
      have E1 : Hid (l.drop k = []) := Lib.hid (List.drop_of_length_le (by have := HN.out; omega))
      have EK : Hid (k = n) := Lib.hid (by omega)
      by_cases hnm : n < m
      · have t1 : decide ((n : Int) < (m : Int)) = true := by simp; omega
        have e2 : cmpZ l l2 = -1 := by
          rw [HC.out, E1.out, List.drop_eq_getElem_cons (l := l2) (i := k) (by have := HM.out; have := EK.out; omega)]
          rfl
        have E2 := Lib.hid e2
        clear e2
        go_wp2_with fail
        go_ret
        rw [E2.out]
        exact ⟨rfl, rfl⟩
      · have t1 : decide ((n : Int) < (m : Int)) = false := by simp; omega
        have e2 : cmpZ l l2 = 0 := by
          rw [HC.out, E1.out, List.drop_of_length_le (by have := HM.out; have := EK.out; omega)]
          rfl
        have E2 := Lib.hid e2
        clear e2
        go_wp2_with fail
        go_ret
        rw [E2.out]
        exact ⟨rfl, rfl⟩
end Go.Proofs.YtimmadkbkimonaaGreatDoor
namespace Go.Proofs.YtimmadkbkimonaaGreatDoor
set_option linter.unusedSimpArgs false
set_option linter.unusedVariables false
open Go.Shelf

def sh_lays189_ren : Go.Shelf.Ren := ⟨fun | 189 => 130 | 125 => 150 | 257 => 149 | 128 => 176 | 129 => 177 | 294 => 167 | 295 => 168 | 296 => 169 | 297 => 170 | 298 => 171 | 299 => 172 | 216 => 173 | 300 => 174 | 301 => 175 | 328 => 189 | 329 => 190 | 330 => 191 | 331 => 192 | 332 => 193 | 215 => 151 | 343 => 200 | n => n, fun | 28 => 26 | 3 => 3 | 46 => 162 | 0 => 0 | 51 => 181 | 53 => 183 | 4 => 4 | 183 => 174 | 182 => 173 | 131 => 145 | 5 => 5 | 9 => 9 | 218 => 202 | 222 => 142 | 228 => 215 | 229 => 216 | n => n, fun | n => n⟩
theorem sh_lays189 : Go.Proofs.Lays.n189 Tryz.prog sh_lays189_ren := {
  mixed := by kernel_rfl
  f125 := Tryz.func150.trans (congrArg some (by kernel_rfl))
  f128 := Tryz.func176.trans (congrArg some (by kernel_rfl))
  f129 := Tryz.func177.trans (congrArg some (by kernel_rfl))
  f189 := Tryz.func130.trans (congrArg some (by kernel_rfl))
  f215 := Tryz.func151.trans (congrArg some (by kernel_rfl))
  f216 := Tryz.func173.trans (congrArg some (by kernel_rfl))
  f257 := Tryz.func149.trans (congrArg some (by kernel_rfl))
  f294 := Tryz.func167.trans (congrArg some (by kernel_rfl))
  f295 := Tryz.func168.trans (congrArg some (by kernel_rfl))
  f296 := Tryz.func169.trans (congrArg some (by kernel_rfl))
  f297 := Tryz.func170.trans (congrArg some (by kernel_rfl))
  f298 := Tryz.func171.trans (congrArg some (by kernel_rfl))
  f299 := Tryz.func172.trans (congrArg some (by kernel_rfl))
  f300 := Tryz.func174.trans (congrArg some (by kernel_rfl))
  f301 := Tryz.func175.trans (congrArg some (by kernel_rfl))
  f328 := Tryz.func189.trans (congrArg some (by kernel_rfl))
  f329 := Tryz.func190.trans (congrArg some (by kernel_rfl))
  f330 := Tryz.func191.trans (congrArg some (by kernel_rfl))
  f331 := Tryz.func192.trans (congrArg some (by kernel_rfl))
  f332 := Tryz.func193.trans (congrArg some (by kernel_rfl))
  f343 := Tryz.func200.trans (congrArg some (by kernel_rfl))
  t0 := Tryz.underlying0
  a0 := Tryz.isAgg0
  z0 := Tryz.sizeOf0
  v0 := Tryz.zeroValue0
  t3 := Tryz.underlying3
  a3 := Tryz.isAgg3
  z3 := Tryz.sizeOf3
  v3 := Tryz.zeroValue3
  t4 := Tryz.underlying4
  a4 := Tryz.isAgg4
  z4 := Tryz.sizeOf4
  v4 := Tryz.zeroValue4
  t5 := Tryz.underlying5
  a5 := Tryz.isAgg5
  z5 := Tryz.sizeOf5
  v5 := Tryz.zeroValue5
  t9 := Tryz.underlying9
  a9 := Tryz.isAgg9
  z9 := Tryz.sizeOf9
  v9 := Tryz.zeroValue9
  t28 := Tryz.underlying26
  a28 := Tryz.isAgg26
  z28 := Tryz.sizeOf26
  v28 := Tryz.zeroValue26
  t46 := Tryz.underlying162
  a46 := Tryz.isAgg162
  z46 := Tryz.sizeOf162
  v46 := Tryz.zeroValue162
  t51 := Tryz.underlying181
  a51 := Tryz.isAgg181
  z51 := Tryz.sizeOf181
  v51 := Tryz.zeroValue181
  t53 := Tryz.underlying183
  a53 := Tryz.isAgg183
  z53 := Tryz.sizeOf183
  v53 := Tryz.zeroValue183
  t131 := Tryz.underlying145
  a131 := Tryz.isAgg145
  z131 := Tryz.sizeOf145
  v131 := Tryz.zeroValue145
  t182 := Tryz.underlying173
  a182 := Tryz.isAgg173
  z182 := Tryz.sizeOf173
  v182 := Tryz.zeroValue173
  t183 := Tryz.underlying174
  a183 := Tryz.isAgg174
  z183 := Tryz.sizeOf174
  v183 := Tryz.zeroValue174
  t218 := Tryz.underlying202
  a218 := Tryz.isAgg202
  z218 := Tryz.sizeOf202
  v218 := Tryz.zeroValue202
  t222 := Tryz.underlying142
  a222 := Tryz.isAgg142
  z222 := Tryz.sizeOf142
  v222 := Tryz.zeroValue142
  t228 := Tryz.underlying215
  a228 := Tryz.isAgg215
  z228 := Tryz.sizeOf215
  v228 := Tryz.zeroValue215
  t229 := Tryz.underlying216
  a229 := Tryz.isAgg216
  z229 := Tryz.sizeOf216
  v229 := Tryz.zeroValue216 }
open Go.Sort Go.RowKit in
theorem sh_slices_Sort_int (blk off cap : Nat) (zs : List Int) (w : World) (hH : Holds (Value.int .i64) w blk off zs.toArray) (hblk : blk < w.heap.size) (hsz : zs.length < 4611686018427387904) :
    Calls Tryz.prog 130 #[.slice (some ⟨blk, off, none⟩) zs.length cap] w fun e w' =>
      e = .returned (.tuple #[]) ∧ ∃ n os, w' = grow (putRow (Value.int .i64) (Sort.ahead w n) blk off (zs.mergeSort fun x y => decide (x ≤ y)).toArray) os := Any.slices_Sort_int sh_lays189 blk off cap zs w hH hblk hsz
def sh_laysNm220_ren : Go.Shelf.Ren := ⟨fun | 20 => 131 | n => n, fun | 22 => 26 | 3 => 3 | 4 => 4 | 0 => 0 | n => n, fun | n => n⟩
theorem sh_laysNm220 : Go.Proofs.Lays2.n20 Tryz.prog sh_laysNm220_ren := {
  mixed := by kernel_rfl
  f20 := Tryz.func131.trans (congrArg some (by kernel_rfl))
  t0 := Tryz.underlying0
  a0 := Tryz.isAgg0
  z0 := Tryz.sizeOf0
  v0 := Tryz.zeroValue0
  t3 := Tryz.underlying3
  a3 := Tryz.isAgg3
  z3 := Tryz.sizeOf3
  v3 := Tryz.zeroValue3
  t4 := Tryz.underlying4
  a4 := Tryz.isAgg4
  z4 := Tryz.sizeOf4
  v4 := Tryz.zeroValue4
  t22 := Tryz.underlying26
  a22 := Tryz.isAgg26
  z22 := Tryz.sizeOf26
  v22 := Tryz.zeroValue26
  i3 := by kernel_rfl }
open Go.RowKit Go.Lib Go.Sort in
theorem sh_slices_Compact_int (blk off cap : Nat) (zs : List Int) (w : World) (hH : Holds (Value.int .i64) w blk off zs.toArray) (hsz : zs.length ≤ 9223372036854775807) (hcap : zs.length ≤ cap) :
    Calls Tryz.prog 131 #[.slice (some ⟨blk, off, none⟩) zs.length cap] w fun e w' => e = .returned (.slice (some ⟨blk, off, none⟩) (Lib.compact zs).length cap) ∧ ∃ q, w' = putRow (Value.int .i64) (Sort.ahead w q) blk off (Lib.compact zs ++ List.replicate (zs.length - (Lib.compact zs).length) 0).toArray := Any.slices_Compact_int sh_laysNm220 blk off cap zs w hH hsz hcap
end Go.Proofs.YtimmadkbkimonaaGreatDoor
namespace Go.Proofs.YtimmadkbkimonaaGreatDoor
set_option linter.unusedSimpArgs false
set_option linter.unusedVariables false
open Go.RowKit Go.Sort

def KeptBut (base : Nat) (w w' : World) : Prop := (∀ (p : Nat) (ob : Obj), w.heap[p]? = some ob → (∀ cur, ob ≠ .cells cur 3 (0, 0)) → w'.heap[p]? = some ob) ∧ ∀ W, Below base W w → Below base W w'
theorem compactUpTo_le (d : Array Int) : ∀ m, (Lib.compactUpTo d m).length ≤ m
  | 0 => by simp [Lib.compactUpTo]
  | m + 1 => by
    have := compactUpTo_le d m
    rw [Lib.compactUpTo_succ, List.length_append]
    split <;> simp <;> omega
theorem compact_le (xs : List Int) : (Lib.compact xs).length ≤ xs.length := compactUpTo_le xs.toArray xs.length
theorem own_turn {w w' : World} {base g n c m : Nat} {xs ys : List Int} (h : w.ownsRow base 3 1 (.slice (some ⟨g, 0, none⟩) n c) n (xs.map intV)) (hy : ys.length = n) (hm : m ≤ n) (hb : base ≤ w.heap.size) (d : List Int) (hd : d = ys.take m)
    (hw : ∃ q os, w' = grow (putRow (Value.int .i64) (Sort.ahead w q) g 0 ys.toArray) os) : w'.ownsRow base 3 1 (.slice (some ⟨g, 0, none⟩) m c) m (d.map intV) ∧ KeptBut base w w' := by
  obtain ⟨q, os, rfl⟩ := hw
  obtain ⟨h1, h2⟩ := h
  rcases h2 with ⟨h2, _⟩ | ⟨g', cap, cur, hv, hbg, hg, hn, hc, hs, ht⟩
  · cases h2
  · simp only [Value.slice.injEq, Option.some.injEq, Addr.mk.injEq] at hv
    obtain ⟨⟨rfl, _⟩, _, rfl⟩ := hv
    have hgl := qlt hg
    have hG : w.grownBy (grow (putRow (Value.int .i64) (Sort.ahead w q) g 0 ys.toArray) os) (some g) := by
      refine ⟨rfl, rfl, rfl, by simp [grow, putRow, mapBlock, Sort.ahead], fun q' hq' hne => ?_⟩
      have hqg : g ≠ q' := fun e => hne (by rw [← e])
      simp only [grow, putRow, mapBlock, Sort.ahead]
      rw [Array.getElem?_append_left (by simpa using hq'), Array.getElem?_modify, if_neg hqg]
    refine ⟨⟨by rw [List.length_map, hd, List.length_take]; omega, .inr ⟨g, c, putCells (Value.int .i64) 0 ys.toArray cur, rfl, hbg, ?_, by omega, hc, ?_, ?_⟩⟩, fun p ob hp ho => qgrown hG hp (fun e => by
      cases e
      rw [hg] at hp
      exact ho cur (Option.some.inj hp).symm), fun W hb2 => hb2.grown hG hb (fun k e => by cases e; exact hbg)⟩
    · simp only [grow, putRow, mapBlock, Sort.ahead]
      rw [Array.getElem?_append_left (by simpa using hgl), Array.getElem?_modify, if_pos rfl, hg]
      rfl
    · rw [← hs]; simp [putCells]
    · apply List.ext_getElem?
      intro t
      rw [List.getElem?_take]
      by_cases ht2 : t < m * 1
      · rw [if_pos ht2]
        have htc : t < cur.size := by rw [hs]; omega
        simp only [putCells, Array.getElem?_toList, Array.getElem?_mapIdx, Array.getElem?_eq_getElem htc, Option.map_some]
        rw [if_pos ⟨Nat.zero_le _, by simp; omega⟩, List.getElem?_map, hd, List.getElem?_take, if_pos (by omega), List.getElem?_eq_getElem (by omega)]
        rw [Nat.sub_zero, getElem!_pos ys.toArray t (by simp; omega)]
        simp [intV]
      · rw [if_neg ht2, List.getElem?_eq_none]
        rw [List.length_map, hd, List.length_take]
        omega
theorem own_holds {w : World} {base g n c : Nat} {xs : List Int} (h : w.ownsRow base 3 1 (.slice (some ⟨g, 0, none⟩) n c) n (xs.map intV)) : Holds (Value.int .i64) w g 0 xs.toArray ∧ g < w.heap.size ∧ n ≤ c := by
  have hl : xs.length = n := by simpa using h.1
  rcases h.2 with ⟨h2, _⟩ | ⟨g', cap, cur, hv, hbg, hg, hn, hc, hs, ht⟩
  · cases h2
  · simp only [Value.slice.injEq, Option.some.injEq, Addr.mk.injEq] at hv
    obtain ⟨⟨rfl, _⟩, _, rfl⟩ := hv
    refine ⟨fun j hj => ⟨?_, qfroz hg (0 + j)⟩, qlt hg, hn⟩
    have hj2 : j < xs.length := by simpa using hj
    have e : (cur.toList.take (n * 1))[j]? = (xs.map intV)[j]? := by rw [ht]
    rw [List.getElem?_take, if_pos (by omega), List.getElem?_map, List.getElem?_eq_getElem hj2] at e
    refine qcell hg (0 + j) _ ?_
    rw [Nat.zero_add, getElem!_pos xs.toArray j hj]
    simpa [intV] using e
theorem sortZ_any (base : Nat) (a : Option Addr) (n c : Nat) (xs : List Int) (w : World) (h : w.ownsRow base 3 1 (.slice a n c) n (xs.map intV)) (h0 : 0 < n) (hn : n ≤ 1000000) (hb : base ≤ w.heap.size) :
    Calls Tryz.prog 130 #[.slice a n c] w fun e w' => e = .returned (.tuple #[]) ∧ w'.ownsRow base 3 1 (.slice a n c) n ((xs.mergeSort fun x y => decide (x ≤ y)).map intV) ∧ KeptBut base w w' := by
  obtain ⟨g, rfl⟩ : ∃ g, a = some ⟨g, 0, none⟩ := by
    rcases h.2 with ⟨h1, h2⟩ | ⟨g', cap, cur, h1, _⟩
    · omega
    · simp only [Value.slice.injEq] at h1; exact ⟨g', h1.1⟩
  have hl : xs.length = n := by simpa using h.1
  obtain ⟨k1, k2, k3⟩ := own_holds h
  have := sh_slices_Sort_int g 0 c xs w k1 k2 (by omega)
  rw [hl] at this
  refine this.mono ?_
  rintro e w' ⟨rfl, q, os, rfl⟩
  have hp := (List.mergeSort_perm xs (fun x y => decide (x ≤ y))).length_eq
  exact ⟨rfl, own_turn (m := n) h (hp.trans hl) (Nat.le_refl _) hb _ (List.take_of_length_le (by omega)).symm ⟨q, os, rfl⟩⟩
theorem compactZ_any (base : Nat) (a : Option Addr) (n c : Nat) (xs : List Int) (w : World) (h : w.ownsRow base 3 1 (.slice a n c) n (xs.map intV)) (h0 : 0 < n) (hn : n ≤ 1000000) (hb : base ≤ w.heap.size) :
    Calls Tryz.prog 131 #[.slice a n c] w fun e w' => e = .returned (.slice a (Lib.compact xs).length c) ∧ w'.ownsRow base 3 1 (.slice a (Lib.compact xs).length c) (Lib.compact xs).length ((Lib.compact xs).map intV) ∧ KeptBut base w w' := by
  obtain ⟨g, rfl⟩ : ∃ g, a = some ⟨g, 0, none⟩ := by
    rcases h.2 with ⟨h1, h2⟩ | ⟨g', cap, cur, h1, _⟩
    · omega
    · simp only [Value.slice.injEq] at h1; exact ⟨g', h1.1⟩
  have hl : xs.length = n := by simpa using h.1
  obtain ⟨k1, k2, k3⟩ := own_holds h
  have := sh_slices_Compact_int g 0 c xs w k1 (by omega) (by omega)
  rw [hl] at this
  refine this.mono ?_
  rintro e w' ⟨rfl, q, rfl⟩
  have hle : (Lib.compact xs).length ≤ n := by rw [← hl]; exact compact_le xs
  refine ⟨rfl, own_turn (m := (Lib.compact xs).length) (ys := Lib.compact xs ++ List.replicate (n - (Lib.compact xs).length) 0) h (by rw [List.length_append, List.length_replicate]; omega) hle hb _ (by rw [List.take_left]) ⟨q, #[], ?_⟩⟩
  simp [grow]
  rfl
end Go.Proofs.YtimmadkbkimonaaGreatDoor
namespace Go.Proofs.YtimmadkbkimonaaGreatDoor
set_option linter.unusedSimpArgs false
set_option linter.unusedVariables false
open Go.RowKit

structure AppK (v : Value) (v' : Value) (w w' : World) : Prop where
  rd : ∀ {s k n c : Nat} {xs : List Int}, RdI w (some ⟨s, k, none⟩) n c xs → some s ≠ v.ownBlock → RdI w' (some ⟨s, k, none⟩) n c xs
  no : ∀ s, v.ownBlock ≠ some s → s < w.heap.size → v'.ownBlock ≠ some s ∧ s < w'.heap.size
theorem run_app_at (w : World) (base : Nat) (sa : Option Addr) (sn sc : Nat) (xs : List Int) (hown : w.ownsRow base 3 1 (.slice sa sn sc) sn (xs.map intV)) (xa : Option Addr) (m xc : Nat) (ys : List Int) (hm : 0 < m) (hrd : RdI w xa m xc ys)
    (hbytes : (sn + m) * 8 ≤ 140737488355328) (hbase : base ≤ w.heap.size) :
    ∃ a' c' w', (Builtin.append_ #[26, 26] 26 #[.slice sa sn sc, .slice xa m xc]).run Tryz.prog w = .ok (.slice a' (sn + m) c') w' ∧ w'.ownsRow base 3 1 (.slice a' (sn + m) c') (sn + m) ((xs ++ ys).map intV) ∧
      (∀ (p : Nat) (ob : Obj), w.heap[p]? = some ob → (∀ cur, ob ≠ .cells cur 3 (0, 0)) → w'.heap[p]? = some ob) ∧ (∀ W, Below base W w → Below base W w') ∧ AppK (.slice sa sn sc) (.slice a' (sn + m) c') w w' ∧ w.grownBy w' (Value.ownBlock (.slice sa sn sc)) := by
  obtain ⟨i, hi, hz0, hz1, hz2⟩ := info_parts qinfoI
  obtain ⟨b, off, rfl, h4⟩ := RdA.at hrd hm
  obtain ⟨v', w', h1, h2, h3, _, h5⟩ := run_append_own_at (P := Tryz.prog) w base 26 26 3 i _ 1 8 Tryz.underlying26 hi hz0 hz1 hz2 rfl (by decide) (.slice sa sn sc) sn _ hown ⟨b, off, none⟩ m xc (ys.map intV) hrd.1 (fun j u hu => by have := h4 j u hu; unfold Addr.add; split <;> first | exact this | (rename_i e; rw [e] at this; exact this)) (intV_one _) (by unfold maxLen; omega) (by omega) hbase
  obtain ⟨a', c', rfl⟩ : ∃ a' c', v' = .slice a' (sn + m) c' := by
    rcases h2.2 with ⟨rfl, h⟩ | ⟨g, cap, cur, rfl, _⟩
    · exact ⟨none, 0, by rw [h]⟩
    · exact ⟨_, _, rfl⟩
  refine ⟨a', c', w', h1, by rw [List.map_append]; exact h2, fun p o hp ho => qgrown h3 hp (qown_no hown hp ho), fun W hb => hb.grown h3 hbase (fun k e => (hown.lt k e).1), ⟨fun {s k n c xs} hr hne => ?_, fun s hne hs => ?_⟩, h3⟩
  · refine RdA.of_cells hr fun b' hb hlt => ?_
    obtain ⟨o', e⟩ := hb
    cases e
    exact h3.block _ hlt hne
  · refine ⟨fun e => ?_, Nat.lt_of_lt_of_le hs h3.size⟩
    rcases h5 with h5 | h5
    · rw [h5] at e; exact hne e
    · rw [h5] at e
      have := Option.some.inj e
      omega
theorem appr_ints (w : World) {ops : Array Oper} {rest : List Oper} {o : Oper} {a : Act} {Q : Exit → Act → World → Prop} (hgd : o.guard = none) (s x : Operand)
    (ho : o.op = .call { callee := .builtin .append, args := #[s, x], argTypes := #[26, 26] }) (hty : o.type = 26) (base : Nat)
    (sa : Option Addr) (sn sc : Nat) (xs : List Int) (hs : a.eval s = .slice sa sn sc) (hown : w.ownsRow base 3 1 (.slice sa sn sc) sn (xs.map intV))
    (xa : Option Addr) (m xc : Nat) (ys : List Int) (hx : a.eval x = .slice xa m xc) (hm : 0 < m) (hrd : RdI w xa m xc ys) (hbytes : (sn + m) * 8 ≤ 140737488355328) (hbase : base ≤ w.heap.size)
    (h : ∀ a' c' w', w'.ownsRow base 3 1 (.slice a' (sn + m) c') (sn + m) ((xs ++ ys).map intV) → (∀ (p : Nat) (ob : Obj), w.heap[p]? = some ob → (∀ cur, ob ≠ .cells cur 3 (0, 0)) → w'.heap[p]? = some ob) → (∀ W, Below base W w → Below base W w') → AppK (.slice sa sn sc) (.slice a' (sn + m) c') w w' → wpList Tryz.prog ops Q rest (a.put o.dst (.slice a' (sn + m) c')) w') :
    wpList Tryz.prog ops Q (o :: rest) a w := by
  obtain ⟨a', c', w', h1, h2, h3, h4, h5, _⟩ := run_app_at w base sa sn sc xs hown xa m xc ys hm hrd hbytes hbase
  exact wpList_plain hgd fun _ hK => qappend s x 26 ho _ _ _ hs hx (by rw [hty]; exact h1) (hK _ _ (h a' c' w' h2 h3 h4 h5))
end Go.Proofs.YtimmadkbkimonaaGreatDoor
namespace Go.Proofs.YtimmadkbkimonaaGreatDoor
set_option linter.unusedSimpArgs false
set_option linter.unusedVariables false
open Go.RowKit

def ringAt (c : CellV) (j : Nat) : Int := if j = 0 then c.1 - 1 else c.1 + 1
def nbK (f : FaceV) (c : CellV) (k : Nat) : List Int := [indexF f c.1 (c.2 - 1), indexF f c.1 (c.2 + 1)] ++ (List.range k).flatMap fun j => if inB (ringAt c j) 0 (f.rings - 1) = true then [indexF f (ringAt c j) c.2] else []
theorem nbK_succ (f : FaceV) (c : CellV) (k : Nat) : nbK f c (k + 1) = nbK f c k ++ (if inB (ringAt c k) 0 (f.rings - 1) = true then [indexF f (ringAt c k) c.2] else []) := by
  unfold nbK
  rw [List.range_succ, List.flatMap_append, List.append_assoc]
  simp
theorem nbK_two (f : FaceV) (i : Int) : nbK f (cellF f i) 2 = neighL f i := by
  unfold nbK neighL ringAt
  simp [List.range_succ]
theorem nbK_len (f : FaceV) (c : CellV) (k : Nat) : 2 ≤ (nbK f c k).length ∧ (nbK f c k).length ≤ 2 + k := by
  induction k with
  | zero => simp [nbK]
  | succ k ih =>
    rw [nbK_succ, List.length_append]
    split <;> simp <;> omega
theorem LoopAt.kept2 {rec : LoopState → Option Code → Loop} {D : Nat} {st : LoopState} {pe : Option Code} {W W' : World} (h : LoopAt rec D st pe W) (hk : ∀ (p : Nat) (ob : Obj), W.heap[p]? = some ob → (∀ cur, ob ≠ .cells cur 3 (0, 0)) → W'.heap[p]? = some ob) : LoopAt rec D st pe W' :=
  ⟨hk _ _ h.1 (by simp), hk _ _ h.2 (by simp)⟩
theorem LoopAt.below2 {rec : LoopState → Option Code → Loop} {D : Nat} {st : LoopState} {pe : Option Code} {W W' : World} (h : LoopAt rec D st pe W) (hb : Below W.heap.size W W') : LoopAt rec D st pe W' := ⟨qblk hb h.1, qblk hb h.2⟩
def ItAt (L : List Int) (g lc : Nat) (W : World) : Prop := (∃ cur, W.heap[g]? = some (.cells cur 3 (0, 0))) ∧ RdI W (some ⟨g, 0, none⟩) L.length lc L
theorem ItAt.kept {L : List Int} {g lc : Nat} {W W' : World} (h : ItAt L g lc W) (hk : ∀ ob, W.heap[g]? = some ob → W'.heap[g]? = some ob) : ItAt L g lc W' := by
  obtain ⟨⟨cur, hc⟩, hr⟩ := h
  refine ⟨⟨cur, hk _ hc⟩, RdA.of_cells hr fun b hb _ => ?_⟩
  obtain ⟨off, e⟩ := hb
  cases e
  rw [hc]
  exact hk _ hc
theorem ItAt.below {L : List Int} {g lc : Nat} {W W' : World} (h : ItAt L g lc W) (hb : Below W.heap.size W W') : ItAt L g lc W' := h.kept fun _ h => qblk hb h
theorem ItAt.put {L : List Int} {g lc r : Nat} {W : World} {o : Obj} (h : ItAt L g lc W) (hl : ∃ l, W.heap[r]? = some (.loop l)) : ItAt L g lc (W.putObj r o) := by
  obtain ⟨l, hl⟩ := hl
  obtain ⟨⟨cur, hc⟩, hr⟩ := h
  exact ItAt.kept ⟨⟨cur, hc⟩, hr⟩ fun ob ho => (World.putObj_heap_other (fun e => by rw [e, hl] at hc; cases hc)).trans ho
set_option maxHeartbeats 4000000 in
set_option maxRecDepth 100000 in
theorem nbIter (m D p q : Nat) (f : FaceV) (a : Option Addr) (n : Nat) (i : Int) (w : World) (hp : w.heap[p]? = some (.cells (f.cells a n) 28 (0, 0))) (hq : w.heap[q]? = some (.cells #[.int .i64 i] 3 (0, 0))) (hv : f.valid = true) (hi : InF f i)
    (Con : Nat → List Int → World → Prop) (h0 : ∀ g W, w.heap.size ≤ g → g < W.heap.size → Below w.heap.size w W → Con g [] W)
    (rec : LoopState → Option Code → Loop) (hl : LoopAt rec D .ready none w)
    (hY : ∀ (g lc : Nat) (ks : List Int) (x : Int) (rest : List Int) (W : World), neighF f i = ks ++ x :: rest → Con g ks W → ItAt (neighF f i) g lc W → LoopAt rec D .ready none W → YieldAt Fence.wide (m - 1) Tryz.prog (D + 1) #[.int .i64 x] W fun e W' =>
        e = .returned (.bool true) ∧ Con g (ks ++ [x]) W' ∧ ItAt (neighF f i) g lc W' ∧ LoopAt rec D .ready none W') :
    CallsIn Fence.wide m Tryz.prog 129 #[.func (.yield (D + 1)) #[] #[], .pointer (some ⟨p, 0, none⟩), .pointer (some ⟨q, 0, none⟩)] w fun e W' =>
        (∃ v, e = .returned v) ∧ (∃ g, Con g (neighF f i) W') ∧ LoopAt rec D .ready none W' := by
  have HP := Lib.hid hp
  have HV := Lib.hid hv
  have IV := Lib.hid (FaceV.int hv)
  have HI := Lib.hid hi
  have H0 := Lib.hid h0
  have HYI := Lib.hid hY
  have L0 := Lib.hid hl
  have XF := Lib.hid hp
  have XI := Lib.hid hq
  have LL := Lib.hid (FaceV.len_le hv)
  have CH := Lib.hid (cellF_has hv hi)
  have CI := Lib.hid (hasF_iff.1 CH.out.1)
  have BF := Lib.hid (Below.refl w.heap.size w)
  clear hv hi h0 hY hl hp hq HP
  refine callsIn_of_wp Tryz.func129 rfl trivial ?_
  simp only [Tryz.ntmps129, List.size_toArray, List.length_cons, List.length_nil, Nat.reduceAdd, Nat.reduceSub, Array.replicate_succ, Array.replicate_zero, List.push_toArray, List.append_toArray, List.nil_append, List.cons_append]
  refine (wpIn_wide (n := m)).2 ?_
  have c0 := qcell XF.out 0 (.int .i64 f.eye) rfl
  have c1 := qcell XF.out 1 (.int .i64 f.rings) rfl
  have c2 := qcell XF.out 2 (.int .i64 f.sectors) rfl
  have c3 := qcell XF.out 3 (.slice a f.kinds.length n) rfl
  have d0 := qcell XI.out 0 (.int .i64 i) rfl
  go_wp2_with (first
    | (refine wpList_load_row rfl 28 _ rfl p rfl 28 (f.cells a n) (0, 0) _ XF.out Tryz.underlying28 rfl (by exact (qJF f a n)) ?_)
    | fail)
  refine (cellOf_any f a n i w (by have := IV.out; omega) (by have h1 := HI.out; have := LL.out; unfold InF at h1; omega)).mono ?_
  rintro e V1 ⟨rfl, b⟩
  replace L0 := Lib.hid (L0.out.below2 b)
  clear c0 c1 c2 c3 d0
  replace BF := Lib.hid (BF.out.trans (b.mono BF.out.size))
  replace XF := Lib.hid (qblk b XF.out)
  replace XI := Lib.hid (qblk b XI.out)
  clear b
  have c0 := qcell XF.out 0 (.int .i64 f.eye) rfl
  have c1 := qcell XF.out 1 (.int .i64 f.rings) rfl
  have c2 := qcell XF.out 2 (.int .i64 f.sectors) rfl
  have c3 := qcell XF.out 3 (.slice a f.kinds.length n) rfl
  have d0 := qcell XI.out 0 (.int .i64 i) rfl
  obtain ⟨c, hc⟩ : ∃ c, Hid (cellF f i = c) := ⟨_, Lib.hid rfl⟩
  rw [hc.out] at CH CI ⊢
  have SA := Lib.hid (show wrap64 (c.2 - 1) = c.2 - 1 by have := CI.out; have := IV.out; unfold wrap64; omega)
  have SB := Lib.hid (show wrap64 (c.2 + 1) = c.2 + 1 by have := CI.out; have := IV.out; unfold wrap64; omega)
  have SC := Lib.hid (show wrap64 (c.1 - 1) = c.1 - 1 by have := CI.out; have := IV.out; unfold wrap64; omega)
  have SD := Lib.hid (show wrap64 (c.1 + 1) = c.1 + 1 by have := CI.out; have := IV.out; unfold wrap64; omega)
  have SE := Lib.hid (show wrap64 (f.rings - 1) = f.rings - 1 by have := IV.out; unfold wrap64; omega)
  go_upto_region 1 with (first
    | (refine wpList_load_row rfl 28 _ rfl p rfl 28 (f.cells a n) (0, 0) _ XF.out Tryz.underlying28 rfl (by exact (qJF f a n)) ?_)
    | (refine wpList_store_new V1 rfl 41 _ _ rfl (cellA (0, 0)) (cellA c) rfl rfl (by exact qJC c) rfl (qoneC c) ?_)
    | fail)
  clear c0 c1 c2 c3 d0
  have AL := al1 V1 (.cells (cellA c) 41)
  replace BF := Lib.hid (BF.out.trans (AL.1.mono BF.out.size))
  replace XF := Lib.hid (qblk AL.1 XF.out)
  replace L0 := Lib.hid (L0.out.below2 AL.1)
  have XR := Lib.hid AL.2
  obtain ⟨r, hr0⟩ : ∃ r, Hid (V1.heap.size = r) := ⟨_, Lib.hid rfl⟩
  rw [hr0.out] at XR ⊢
  clear AL XI
  generalize V1.alloc (.cells (cellA c) 41) = V2 at *
  have hl0 : Below V2.heap.size V2 V2.drew := (Below.refl _ _).drew
  replace L0 := Lib.hid (L0.out.below2 hl0)
  clear hl0
  have c0 := qcell XF.out 0 (.int .i64 f.eye) rfl
  have c1 := qcell XF.out 1 (.int .i64 f.rings) rfl
  have c2 := qcell XF.out 2 (.int .i64 f.sectors) rfl
  have c3 := qcell XF.out 3 (.slice a f.kinds.length n) rfl
  have d0 := qcell XR.out 0 (.int .i64 c.1) rfl
  have d1 := qcell XR.out 1 (.int .i64 c.2) rfl
  clear c0 c1 c2 c3 d0 d1
  have hd : Below V2.heap.size V2 V2.drew := (Below.refl _ _).drew
  replace BF := Lib.hid (BF.out.drew)
  replace XF := Lib.hid (qblk hd XF.out)
  replace XR := Lib.hid (qblk hd XR.out)
  refine zD (fun W => Below w.heap.size w W ∧ W.heap[p]? = some (.cells (f.cells a n) 28 (0, 0)) ∧ W.heap[r]? = some (.cells (cellA c) 41 (0, 0))) ⟨BF.out, XF.out, XR.out⟩ (fun hHeld => ?_)
  clear hd
  generalize V2.drew = V3 at *
  refine zT 0 rfl (.agg (f.cells a n)) (qyrow (by kernel_rfl) 28 _ rfl p rfl _ 28 (0, 0) _ (fun W hW => hW.2.1) Tryz.underlying28 rfl (by exact (qJF f a n))) ?_
  refine zW 1 rfl (.pointer (some ⟨r, 0, none⟩)) ?_
  refine zS 2 rfl (.int .i64 c.1) (fun W hW => by have c := qcell hW.2.2 0 (.int .i64 c.1) rfl; go_simp) ?_
  refine zW 3 rfl (.pointer (some ⟨r, 1, none⟩)) ?_
  refine zS 4 rfl (.int .i64 c.2) (fun W hW => by have c := qcell hW.2.2 1 (.int .i64 c.2) rfl; go_simp) ?_
  refine zW 5 rfl (.int .i64 (c.2 - 1)) (hy := .inl ⟨by kernel_rfl, by intro W _; go_simp; exact (IntWalk.i64_left _).trans SA.out⟩) ?_
  refine zT 7 rfl (.agg (f.cells a n)) (qyrow (by kernel_rfl) 28 _ rfl p rfl _ 28 (0, 0) _ (fun W hW => hW.2.1) Tryz.underlying28 rfl (by exact (qJF f a n))) ?_
  refine zW 8 rfl (.pointer (some ⟨r, 0, none⟩)) ?_
  refine zS 9 rfl (.int .i64 c.1) (fun W hW => by have c := qcell hW.2.2 0 (.int .i64 c.1) rfl; go_simp) ?_
  refine zW 10 rfl (.pointer (some ⟨r, 1, none⟩)) ?_
  refine zS 11 rfl (.int .i64 c.2) (fun W hW => by have c := qcell hW.2.2 1 (.int .i64 c.2) rfl; go_simp) ?_
  refine zW 12 rfl (.int .i64 (c.2 + 1)) (hy := .inl ⟨by kernel_rfl, by intro W _; go_simp; exact (IntWalk.i64_left _).trans SB.out⟩) ?_
  refine zR 6 rfl (fun K hK => ?_)
  go_simp
  refine (index_any f a n c.1 (c.2 - 1) V3 (by have := IV.out; omega) (by have := CI.out; have := IV.out; omega)).mono ?_
  rintro e V4 ⟨rfl, b⟩
  replace L0 := Lib.hid (L0.out.below2 b)
  replace BF := Lib.hid (BF.out.trans (b.mono BF.out.size))
  replace XF := Lib.hid (qblk b XF.out)
  replace XR := Lib.hid (qblk b XR.out)
  clear b
  dsimp only
  refine zK hK ⟨BF.out, XF.out, XR.out⟩ (fun hHeld => ?_)
  clear hK K
  refine zR 13 rfl (fun K hK => ?_)
  go_simp
  refine (index_any f a n c.1 (c.2 + 1) V4 (by have := IV.out; omega) (by have := CI.out; have := IV.out; omega)).mono ?_
  rintro e V5 ⟨rfl, b⟩
  replace L0 := Lib.hid (L0.out.below2 b)
  replace BF := Lib.hid (BF.out.trans (b.mono BF.out.size))
  replace XF := Lib.hid (qblk b XF.out)
  replace XR := Lib.hid (qblk b XR.out)
  clear b
  dsimp only
  refine zK hK ⟨BF.out, XF.out, XR.out⟩ (fun hHeld => ?_)
  clear hK K
  refine zR 14 rfl (fun K hK => ?_)
  rw [if_pos (by kernel_rfl)]
  refine qbuild (w' := V5.alloc (.cells #[.int .i64 (indexF f c.1 (c.2 - 1)), .int .i64 (indexF f c.1 (c.2 + 1))] 3)) (.slice (some ⟨V5.heap.size, 0, none⟩) 2 2) (by kernel_rfl) ?_
  have OW : Hid ((V5.alloc (.cells #[.int .i64 (indexF f c.1 (c.2 - 1)), .int .i64 (indexF f c.1 (c.2 + 1))] 3)).ownsRow w.heap.size 3 1 (.slice (some ⟨V5.heap.size, 0, none⟩) (nbK f c 0).length 2) (nbK f c 0).length ((nbK f c 0).map intV)) := Lib.hid (World.ownsRow_lit (base := w.heap.size) (e := 3) (size := 1) V5 #[.int .i64 (indexF f c.1 (c.2 - 1)), .int .i64 (indexF f c.1 (c.2 + 1))] 2 BF.out.size (by unfold maxLen; omega) rfl)
  have AL := al1 V5 (.cells #[.int .i64 (indexF f c.1 (c.2 - 1)), .int .i64 (indexF f c.1 (c.2 + 1))] 3)
  replace BF := Lib.hid (BF.out.trans (AL.1.mono BF.out.size))
  replace XF := Lib.hid (qblk AL.1 XF.out)
  replace XR := Lib.hid (qblk AL.1 XR.out)
  replace L0 := Lib.hid (L0.out.below2 AL.1)
  clear AL
  obtain ⟨l0, hl0⟩ : ∃ l0, V5.heap.size = l0 := ⟨_, rfl⟩
  rw [hl0] at OW ⊢
  clear hl0
  generalize V5.alloc (.cells #[.int .i64 (indexF f c.1 (c.2 - 1)), .int .i64 (indexF f c.1 (c.2 + 1))] 3) = V6 at *
  refine zK hK ⟨BF.out, XF.out, XR.out⟩ (fun hHeld => ?_)
  clear hK K
  refine zW 15 rfl (.slice (some ⟨l0, 0, none⟩) 2 2) ?_
  refine zE ?_
  clear hHeld
  have sc := SC.out
  have sd := SD.out
  have c0 := qcell XF.out 0 (.int .i64 f.eye) rfl
  have c1 := qcell XF.out 1 (.int .i64 f.rings) rfl
  have c2 := qcell XF.out 2 (.int .i64 f.sectors) rfl
  have c3 := qcell XF.out 3 (.slice a f.kinds.length n) rfl
  have d0 := qcell XR.out 0 (.int .i64 c.1) rfl
  have d1 := qcell XR.out 1 (.int .i64 c.2) rfl
  go_wp2_with fail
  clear sc sd
  clear c0 c1 c2 c3 d0 d1
  have BB := Lib.hid BF.out
  have OL : Hid (l0 < V6.heap.size) := Lib.hid (by
    obtain ⟨_, h2⟩ := OW.out
    rcases h2 with ⟨h2, _⟩ | ⟨g', cap, cur, hv, hb, hg, _⟩
    · cases h2
    · simp only [Value.slice.injEq, Option.some.injEq, Addr.mk.injEq] at hv
      obtain ⟨⟨rfl, _⟩, _⟩ := hv
      exact qlt hg)
  have AL := al1 V6 (.cells #[.int .i64 (c.1 - 1), .int .i64 (c.1 + 1)] 3)
  replace BF := Lib.hid (BF.out.trans (AL.1.mono BF.out.size))
  replace XF := Lib.hid (qblk AL.1 XF.out)
  replace XR := Lib.hid (qblk AL.1 XR.out)
  replace L0 := Lib.hid (L0.out.below2 AL.1)
  replace OW := Lib.hid (own_below OW.out AL.1)
  have S1 := Lib.hid (show RdI (V6.alloc (.cells #[.int .i64 (c.1 - 1), .int .i64 (c.1 + 1)] 3)) (some ⟨V6.heap.size, 0, none⟩) 2 2 [c.1 - 1, c.1 + 1] from RdA.of_own (World.ownsRow_lit (base := w.heap.size) (e := 3) (size := 1) V6 #[.int .i64 (c.1 - 1), .int .i64 (c.1 + 1)] 2 (by first | exact (Nat.le_trans BB.out.size (Nat.le_refl _)) | omega) (by unfold maxLen; omega) rfl))
  clear AL
  obtain ⟨s, hs⟩ : ∃ s, Hid (V6.heap.size = s) := ⟨_, Lib.hid rfl⟩
  have SL : Hid (s < (V6.alloc (.cells #[.int .i64 (c.1 - 1), .int .i64 (c.1 + 1)] 3)).heap.size) := Lib.hid (by rw [World.size_alloc]; have := hs.out; omega)
  have NES : Hid (l0 ≠ s) := Lib.hid (by have h1 := OL.out; have h2 := hs.out; omega)
  rw [hs.out] at S1 ⊢
  generalize V6.alloc (.cells #[.int .i64 (c.1 - 1), .int .i64 (c.1 + 1)] 3) = V7 at *
  go_loopw [5, 36] (fun l v wr => ∃ (k : Nat) (oa : Option Addr) (oc : Nat), v = .int .i64 k ∧ l = .slice oa (nbK f c k).length oc ∧ k ≤ 2 ∧ Hid (wr.ownsRow w.heap.size 3 1 (.slice oa (nbK f c k).length oc) (nbK f c k).length ((nbK f c k).map intV)) ∧ Hid (Value.ownBlock (.slice oa (nbK f c k).length oc) ≠ some s ∧ s < wr.heap.size) ∧ Hid (Below w.heap.size w wr) ∧ Hid (wr.heap[p]? = some (.cells (f.cells a n) 28 (0, 0))) ∧ Hid (wr.heap[r]? = some (.cells (cellA c) 41 (0, 0))) ∧ Hid (RdI wr (some ⟨s, 0, none⟩) 2 2 [c.1 - 1, c.1 + 1]) ∧ Hid (LoopAt rec D .ready none wr)) (fun _ v _ => 2 - (intOf v).toNat)
  case atStart => exact ⟨0, some ⟨l0, 0, none⟩, 2, rfl, rfl, Nat.zero_le _, OW, Lib.hid ⟨fun e => NES.out (Option.some.inj e), SL.out⟩, BF, XF, XR, S1, L0⟩
  case round =>
    clear OW BF XF XR S1 L0
    obtain ⟨k, oa, oc, rfl, rfl, hk, OW, NO, BF, XF, XR, S1, L0⟩ := hrel
    by_cases hkn : k < 2
    · have t0 : decide ((k : Int) < 2) = true := by simp; omega
      have HX := Lib.hid (show [c.1 - 1, c.1 + 1][k]? = some (ringAt c k) by
        have : k = 0 ∨ k = 1 := by omega
        rcases this with e | e <;> subst e <;> rfl)
      obtain ⟨b0, off, e0, hx⟩ := S1.out.get HX.out
      cases e0
      rw [Nat.zero_add] at hx
      have se := SE.out
      have RA : Hid (-1 ≤ ringAt c k ∧ ringAt c k ≤ 30) := Lib.hid (by have := CI.out; have := IV.out; unfold ringAt; split <;> omega)
      obtain ⟨x, hxr⟩ : ∃ x, Hid (ringAt c k = x) := ⟨_, Lib.hid rfl⟩
      rw [hxr.out] at hx RA
      have c0 := qcell XF.out 0 (.int .i64 f.eye) rfl
      have c1 := qcell XF.out 1 (.int .i64 f.rings) rfl
      have c2 := qcell XF.out 2 (.int .i64 f.sectors) rfl
      have c3 := qcell XF.out 3 (.slice a f.kinds.length n) rfl
      have d0 := qcell XR.out 0 (.int .i64 c.1) rfl
      have d1 := qcell XR.out 1 (.int .i64 c.2) rfl
      go_wp2_with fail
      refine (within_any x 0 (f.rings - 1) wr).mono ?_
      rintro e V8 ⟨rfl, rfl⟩
      clear t0 hx se
      have hk2 := hkn
      cases hb : inB x 0 (f.rings - 1)
      · go_wp2_with (first
          | (refine wpList_load_row rfl 28 _ rfl p rfl 28 (f.cells a n) (0, 0) _ XF.out Tryz.underlying28 rfl (by exact (qJF f a n)) ?_)
          | (refine wpList_load_row rfl 41 _ rfl r rfl 41 (cellA c) (0, 0) _ XR.out Tryz.underlying41 rfl (by exact (qJC c)) ?_)
          | fail)
        go_roundw
        case rel =>
          have e : nbK f c (k + 1) = nbK f c k := by rw [nbK_succ, hxr.out, if_neg (by rw [hb]; decide), List.append_nil]
          refine ⟨k + 1, oa, oc, by simp, by rw [e], by omega, ?_, ?_, BF, XF, XR, S1, L0⟩
          · rw [e]; exact OW
          · rw [e]; exact NO
        case measure => simp [intOf]; omega
      · have HB := Lib.hid hb
        clear hb
        have NL := Lib.hid (nbK_len f c k)
        have K2 : Hid (k < 2) := Lib.hid hk2
        go_wp2_with (first
          | (refine wpList_load_row rfl 28 _ rfl p rfl 28 (f.cells a n) (0, 0) _ XF.out Tryz.underlying28 rfl (by exact (qJF f a n)) ?_)
          | (refine wpList_load_row rfl 41 _ rfl r rfl 41 (cellA c) (0, 0) _ XR.out Tryz.underlying41 rfl (by exact (qJC c)) ?_)
          | fail)
        refine (index_any f a n x c.2 V8 (by have := IV.out; omega) (by have := RA.out; omega)).mono ?_
        rintro e V9 ⟨rfl, b⟩
        replace L0 := Lib.hid (L0.out.below2 b)
        replace OW := Lib.hid (own_below OW.out b)
        replace S1 := Lib.hid (RdI.below S1.out b)
        replace NO := Lib.hid (And.intro NO.out.1 (Nat.lt_of_lt_of_le NO.out.2 b.size))
        clear c0 c1 c2 c3 d0 d1
        replace BF := Lib.hid (BF.out.trans (b.mono BF.out.size))
        replace XF := Lib.hid (qblk b XF.out)
        replace XR := Lib.hid (qblk b XR.out)
        clear b
        have c0 := qcell XF.out 0 (.int .i64 f.eye) rfl
        have c1 := qcell XF.out 1 (.int .i64 f.rings) rfl
        have c2 := qcell XF.out 2 (.int .i64 f.sectors) rfl
        have c3 := qcell XF.out 3 (.slice a f.kinds.length n) rfl
        have d0 := qcell XR.out 0 (.int .i64 c.1) rfl
        have d1 := qcell XR.out 1 (.int .i64 c.2) rfl
        go_wp2_with (first
          | (refine wpList_load_row rfl 28 _ rfl p rfl 28 (f.cells a n) (0, 0) _ XF.out Tryz.underlying28 rfl (by exact (qJF f a n)) ?_)
          | (refine wpList_load_row rfl 41 _ rfl r rfl 41 (cellA c) (0, 0) _ XR.out Tryz.underlying41 rfl (by exact (qJC c)) ?_)
          | (at_builtin; refine appr_ints _ rfl _ _ rfl rfl w.heap.size _ _ _ (nbK f c k) rfl (own_below OW.out (zB V9 _)) _ _ _ [indexF f x c.2] rfl (by decide) (lit_int V9 (indexF f x c.2)) (by have := NL.out; have := K2.out; omega) (Nat.le_trans BF.out.size (zB V9 _).size) ?_; intro oa2 oc2 V10 h1 h2 h3 h4; clear c0 c1 c2 c3 d0 d1; replace BF := Lib.hid (h3 _ (BF.out.trans ((zB V9 _).mono BF.out.size))); replace XF := Lib.hid (h2 _ _ (qblk (zB V9 _) XF.out) (by simp)); replace XR := Lib.hid (h2 _ _ (qblk (zB V9 _) XR.out) (by simp)); replace L0 := Lib.hid ((L0.out.below2 (zB V9 _)).kept2 h2); replace S1 := Lib.hid (h4.rd (RdI.below S1.out (zB V9 _)) (Ne.symm NO.out.1)); replace NO := Lib.hid (h4.no s NO.out.1 (Nat.lt_of_lt_of_le NO.out.2 (zB V9 _).size)); replace OW := Lib.hid h1; clear h1 h2 h3 h4; have c0 := qcell XF.out 0 (.int .i64 f.eye) rfl; have c1 := qcell XF.out 1 (.int .i64 f.rings) rfl; have c2 := qcell XF.out 2 (.int .i64 f.sectors) rfl; have c3 := qcell XF.out 3 (.slice a f.kinds.length n) rfl; have d0 := qcell XR.out 0 (.int .i64 c.1) rfl; have d1 := qcell XR.out 1 (.int .i64 c.2) rfl)
          | fail)
        go_roundw
        case rel =>
          have e : nbK f c (k + 1) = nbK f c k ++ [indexF f x c.2] := by rw [nbK_succ, hxr.out, if_pos HB.out]
          refine ⟨k + 1, oa2, oc2, by simp, by rw [e, List.length_append]; rfl, by have := K2.out; omega, ?_, ?_, BF, XF, XR, S1, L0⟩
          · rw [e, List.length_append]; exact OW
          · rw [e, List.length_append]; exact NO
        case measure => have := K2.out; simp [intOf]; omega
    · have t0 : decide ((k : Int) < 2) = false := by simp; omega
      have e : k = 2 := by omega
      subst e
      have EL : Hid (nbK f c 2 = neighL f i) := Lib.hid (by rw [← hc.out]; exact nbK_two f i)
      have NL := Lib.hid (nbK_len f c 2)
      rw [EL.out] at OW NL ⊢
      go_wp2_with fail
      refine (sortZ_any w.heap.size oa _ oc (neighL f i) wr OW.out (by have := NL.out; omega) (by have := NL.out; omega) BF.out.size).mono ?_
      rintro e V8 ⟨rfl, own, kept⟩
      replace OW := Lib.hid own
      replace BF := Lib.hid (kept.2 _ BF.out)
      replace L0 := Lib.hid (L0.out.kept2 kept.1)
      clear own kept t0 XF XR S1 NO
      go_wp2_with fail
      refine (compactZ_any w.heap.size oa _ oc _ V8 OW.out (by have := NL.out; omega) (by have := NL.out; omega) BF.out.size).mono ?_
      rintro e V9 ⟨rfl, own, kept⟩
      rw [sort_uniq] at own ⊢
      replace OW := Lib.hid own
      replace BF := Lib.hid (kept.2 _ BF.out)
      replace L0 := Lib.hid (L0.out.kept2 kept.1)
      clear own kept
      have EN : Hid (uniqS (neighL f i) = neighF f i) := Lib.hid rfl
      rw [EN.out] at OW ⊢
      have NN := Lib.hid (neigh_len HV.out i)
      obtain ⟨g, hg⟩ : ∃ g, oa = some ⟨g, 0, none⟩ := by
        rcases OW.out.2 with ⟨h1, h2⟩ | ⟨g', cap, cur, h1, _⟩
        · have := NN.out; omega
        · simp only [Value.slice.injEq] at h1; exact ⟨g', h1.1⟩
      subst hg
      have GE : Hid (w.heap.size ≤ g ∧ g < V9.heap.size) := Lib.hid (OW.out.lt g rfl)
      have C0 := Lib.hid (H0.out g V9 GE.out.1 GE.out.2 BF.out)
      have I0 : Hid (ItAt (neighF f i) g oc V9) := Lib.hid ⟨by
          obtain ⟨g', cap, cur, h1, _, h2, _⟩ := OW.out.2.resolve_left (fun h => by cases h.1)
          simp only [Value.slice.injEq, Option.some.injEq, Addr.mk.injEq] at h1
          obtain ⟨⟨rfl, _⟩, _⟩ := h1
          exact ⟨cur, h2⟩, RdA.of_own OW.out⟩
      clear OW
      obtain ⟨L, hL⟩ : ∃ L, Hid (neighF f i = L) := ⟨_, Lib.hid rfl⟩
      rw [hL.out] at I0 NN HYI ⊢
      go_wp2_with fail
      refine (wpIn_wide (n := m)).1 ?_
      gi_loopw [59] (fun v wr => ∃ k : Nat, v = .int .i64 k ∧ k ≤ L.length ∧ Hid (Con g (L.take k) wr) ∧ Hid (ItAt L g oc wr) ∧ Hid (LoopAt rec D .ready none wr)) (fun v _ => L.length - (intOf v).toNat)
      case atStart => exact ⟨0, rfl, Nat.zero_le _, C0, I0, L0⟩
      case round =>
        clear C0 I0 L0
        obtain ⟨k, rfl, hk, C0, I0, L0⟩ := hrel
        by_cases hkn : k < L.length
        · have t0 : decide ((k : Int) < (L.length : Int)) = true := by simp; omega
          obtain ⟨x, hx⟩ : ∃ x, L[k]? = some x := ⟨L[k], List.getElem?_eq_getElem hkn⟩
          obtain ⟨b0, off, e0, hc⟩ := I0.out.2.get hx
          cases e0
          rw [Nat.zero_add] at hc
          have hk64 : (k : Int) + 1 ≤ 9223372036854775807 := by have := NN.out; omega
          have ED := Lib.hid (show L = L.take k ++ x :: L.drop (k + 1) by
            have h1 := List.drop_eq_getElem_cons hkn
            rw [List.getElem?_eq_getElem hkn] at hx
            rw [Option.some.inj hx] at h1
            rw [← h1, List.take_append_drop])
          have ET := Lib.hid (show L.take (k + 1) = L.take k ++ [x] by rw [List.take_add_one, hx]; rfl)
          clear hx
          obtain ⟨fn, tmps, assign, body, hy, hRo⟩ := HYI.out g oc (L.take k) x (L.drop (k + 1)) wr ED.out C0.out I0.out L0.out
          gi_wp2
          refine ⟨fun h => by simp [Fence.wide] at h, ?_⟩
          refine hRo.mono ?_
          rintro e W6 ⟨rfl, hC, hI, hL6⟩
          rw [← ET.out] at hC
          replace C0 := Lib.hid hC
          replace I0 := Lib.hid hI
          replace L0 := Lib.hid hL6
          clear hRo hy hC hI hL6 hc t0
          gi_wp2
          go_roundw
          case rel => exact ⟨k + 1, by simp, by omega, C0, I0, L0⟩
          case measure => simp [intOf]; omega
        · have t0 : decide ((k : Int) < (L.length : Int)) = false := by simp; omega
          have e : k = L.length := by omega
          subst e
          rw [List.take_length] at C0
          gi_wp2
          go_end0
          exact ⟨⟨_, rfl⟩, ⟨g, by rw [hL.out]; exact C0.out⟩, L0.out⟩
end Go.Proofs.YtimmadkbkimonaaGreatDoor
namespace Go.Proofs.YtimmadkbkimonaaGreatDoor
set_option linter.unusedSimpArgs false
set_option linter.unusedVariables false
open Go.RowKit

theorem qwide_round (l : Nat) : Wide (Fence.wide.inRound l) := .inr ⟨l, rfl⟩
theorem qnot_lets {Q : Exit → Act → World → Prop} (h : ∀ a w, ¬ Q .outgrown a w) : ¬ LetsOut Q := fun ⟨a, w, hq⟩ => h a w hq
set_option maxHeartbeats 4000000 in
set_option maxRecDepth 100000 in
theorem neighbours_any (f : FaceV) (a : Option Addr) (n : Nat) (i : Int) (w : World) : Calls Tryz.prog 87 #[.agg (f.cells a n), .int .i64 i] w fun e w' => (∃ p q, e = .returned (.func (.func 129) #[] #[.pointer (some ⟨p, 0, none⟩), .pointer (some ⟨q, 0, none⟩)]) ∧ w'.heap[p]? = some (.cells (f.cells a n) 28 (0, 0)) ∧ w'.heap[q]? = some (.cells #[.int .i64 i] 3 (0, 0))) ∧ Below w.heap.size w w' := by
  have AL := Lib.hid (al2 w (.cells (f.cells a n) 28) (.cells #[.int .i64 i] 3))
  go_enter Tryz.func87, Tryz.ntmps87
  go_upto_region 1 with fail
  obtain ⟨p, hp⟩ : ∃ p, Hid (w.heap.size = p) := ⟨_, Lib.hid rfl⟩
  obtain ⟨q, hq⟩ : ∃ q, Hid (w.heap.size + 1 = q) := ⟨_, Lib.hid rfl⟩
  rw [hq.out] at AL ⊢
  rw [hp.out] at AL ⊢
  generalize ((w.alloc (.cells (f.cells a n) 28)).alloc (.cells #[.int .i64 i] 3)) = W0 at *
  have BF : Hid (Below w.heap.size w W0) := Lib.hid (by rw [hp.out]; exact AL.out.1)
  have XF : Hid (W0.heap[p]? = some (.cells (f.cells a n) 28 (0, 0))) := Lib.hid AL.out.2.1
  have XI : Hid (W0.heap[q]? = some (.cells #[.int .i64 i] 3 (0, 0))) := Lib.hid AL.out.2.2
  clear AL
  have c0 := qcell XF.out 0 (.int .i64 f.eye) rfl
  have c1 := qcell XF.out 1 (.int .i64 f.rings) rfl
  have c2 := qcell XF.out 2 (.int .i64 f.sectors) rfl
  have c3 := qcell XF.out 3 (.slice a f.kinds.length n) rfl
  have d0 := qcell XI.out 0 (.int .i64 i) rfl
  go_wp2_with (first
    | (refine wpList_load_row rfl 28 _ rfl p rfl 28 (f.cells a n) (0, 0) _ XF.out Tryz.underlying28 rfl (by exact (qJF f a n)) ?_)
    | fail)
  go_ret
  exact ⟨⟨p, q, rfl, XF.out, XI.out⟩, BF.out⟩
structure NbC (w : World) (p o : Nat) (f : FaceV) (a : Option Addr) (n : Nat) (ks : List Int) (W : World) : Prop where
  bel : Below w.heap.size w W
  pf : W.heap[p]? = some (.cells (f.cells a n) 28 (0, 0))
  blk : ∃ oa oc, W.heap[o]? = some (.cells #[.slice oa ks.length oc] 44 (0, 0)) ∧ W.ownsRow w.heap.size 41 2 (.slice oa ks.length oc) ks.length (cellsV (ks.map (cellF f)))
theorem NbC.below {w W W' : World} {p o : Nat} {f : FaceV} {a : Option Addr} {n : Nat} {ks : List Int} (h : NbC w p o f a n ks W) (hb : Below W.heap.size W W') : NbC w p o f a n ks W' := by
  obtain ⟨oa, oc, h1, h2⟩ := h.blk
  exact ⟨h.bel.trans (hb.mono h.bel.size), qblk hb h.pf, oa, oc, qblk hb h1, own_below h2 hb⟩
theorem NbC.put {w W : World} {p o r : Nat} {f : FaceV} {a : Option Addr} {n : Nat} {ks : List Int} {ob : Obj} (h : NbC w p o f a n ks W) (hl : ∃ l, W.heap[r]? = some (.loop l)) (hr : w.heap.size ≤ r) : NbC w p o f a n ks (W.putObj r ob) := by
  obtain ⟨l, hl⟩ := hl
  obtain ⟨oa, oc, h1, h2⟩ := h.blk
  have G := grownBy_putObj' W r ob
  have ne : ∀ {k : Nat} {A : Array Value} {t : TypeId} {fr : Nat × Nat}, W.heap[k]? = some (.cells A t fr) → some k ≠ some r := fun hk e => by rw [Option.some.inj e, hl] at hk; cases hk
  exact ⟨qstep h.bel G hr, qgrown G h.pf (ne h.pf), oa, oc, qgrown G h1 (ne h1), h2.kept G (.inr (qown_no h2 hl (by simp)).symm)⟩
end Go.Proofs.YtimmadkbkimonaaGreatDoor
namespace Go.Proofs.YtimmadkbkimonaaGreatDoor
set_option linter.unusedSimpArgs false
set_option linter.unusedVariables false
open Go.RowKit

structure FlAt (w : World) (ds : List Deferred) (p m b y c6 c9 : Nat) (f : FaceV) (a : Option Addr) (n : Nat) (i many : Int) (nm : Nat) (o : OfM) (work : List Int) (wa : Option Addr) (wc : Nat) (W : World) : Prop where
  bel : Below w.heap.size w W
  hp : W.heap[p]? = some (.cells (f.cells a n) 28 (0, 0))
  hm : W.heap[m]? = some (.cells #[.map (some b)] 115 (0, 0))
  hy : W.heap[y]? = some (.cells #[.int .i64 many] 3 (0, 0))
  hi : W.heap[c6]? = some (.cells #[.int .i64 i] 3 (0, 0))
  hk : W.heap[c9]? = some (.cells #[.slice wa work.length wc] 26 (0, 0))
  own : W.ownsRow w.heap.size 3 1 (.slice wa work.length wc) work.length (work.map intV)
  mp : MapI W b nm o
  ny : Value.ownBlock (.slice wa work.length wc) ≠ some y
  ni : Value.ownBlock (.slice wa work.length wc) ≠ some c6
  marks : Marks w.heap.size ds W
  ge : w.heap.size ≤ b ∧ w.heap.size ≤ y ∧ w.heap.size ≤ c9
section
variable {w W W' : World} {ds : List Deferred} {p m b y c6 c9 : Nat} {f : FaceV} {a : Option Addr} {n : Nat} {i many : Int} {nm : Nat} {o : OfM} {work : List Int} {wa : Option Addr} {wc : Nat}
theorem FlAt.below (h : FlAt w ds p m b y c6 c9 f a n i many nm o work wa wc W) (hb : Below W.heap.size W W') : FlAt w ds p m b y c6 c9 f a n i many nm o work wa wc W' :=
  ⟨h.bel.trans (hb.mono h.bel.size), qblk hb h.hp, qblk hb h.hm, qblk hb h.hy, qblk hb h.hi, qblk hb h.hk, own_below h.own hb, h.mp.below hb, h.ny, h.ni, h.marks.below hb, h.ge⟩
theorem FlAt.other {r : Nat} {ob : Obj} (h : FlAt w ds p m b y c6 c9 f a n i many nm o work wa wc W) (hr : W.heap[r]? = some ob) (hno : ∀ A t fr, ob ≠ .cells A t fr) (hd : ob ≠ .deferred (some [])) (hg : W.grownBy W' (some r)) (hge : w.heap.size ≤ r) (hmp : MapI W' b nm o) : FlAt w ds p m b y c6 c9 f a n i many nm o work wa wc W' := by
  have ne : ∀ {k : Nat} {A : Array Value} {t : TypeId} {fr : Nat × Nat}, W.heap[k]? = some (.cells A t fr) → some k ≠ some r := fun hk e => by
    rw [Option.some.inj e, hr] at hk
    exact hno _ _ _ (Option.some.inj hk)
  exact ⟨qstep h.bel hg hge, qgrown hg h.hp (ne h.hp), qgrown hg h.hm (ne h.hm), qgrown hg h.hy (ne h.hy), qgrown hg h.hi (ne h.hi), qgrown hg h.hk (ne h.hk), h.own.kept hg (.inr (qown_no h.own hr (fun cur e => hno _ _ _ e)).symm), hmp, h.ny, h.ni,
    h.marks.step hg (fun k e h1 => by cases e; rw [hr] at h1; exact hd (Option.some.inj h1)), h.ge⟩
theorem FlAt.put {r : Nat} {ob : Obj} (h : FlAt w ds p m b y c6 c9 f a n i many nm o work wa wc W) (hl : ∃ l, W.heap[r]? = some (.loop l)) (hge : w.heap.size ≤ r) : FlAt w ds p m b y c6 c9 f a n i many nm o work wa wc (W.putObj r ob) := by
  obtain ⟨l, hl⟩ := hl
  refine h.other hl (by simp) (by simp) (grownBy_putObj' W r ob) hge (h.mp.step (grownBy_putObj' W r ob) (fun e => ?_))
  obtain ⟨es, ck, hb⟩ := h.mp.blk
  rw [e, hl] at hb
  cases hb
theorem FlAt.upd {k v : Int} {nm' : Nat} (h : FlAt w ds p m b y c6 c9 f a n i many nm o work wa wc W) (hg : W.grownBy W' (some b)) (hm : MapI W' b nm' (updM o k v)) : FlAt w ds p m b y c6 c9 f a n i many nm' (updM o k v) work wa wc W' := by
  obtain ⟨es, ck, hb⟩ := h.mp.blk
  have ne : ∀ {k : Nat} {A : Array Value} {t : TypeId} {fr : Nat × Nat}, W.heap[k]? = some (.cells A t fr) → some k ≠ some b := fun hk e => by
    rw [Option.some.inj e, hb] at hk
    cases hk
  exact ⟨qstep h.bel hg h.ge.1, qgrown hg h.hp (ne h.hp), qgrown hg h.hm (ne h.hm), qgrown hg h.hy (ne h.hy), qgrown hg h.hi (ne h.hi), qgrown hg h.hk (ne h.hk), h.own.kept hg (.inr (qown_no h.own hb (by simp)).symm), hm, h.ny, h.ni,
    h.marks.step hg (fun k e h1 => by cases e; rw [hb] at h1; cases h1), h.ge⟩
theorem FlAt.cell {work' : List Int} {wa' : Option Addr} {wc' : Nat} {V : World} (h : FlAt w ds p m b y c6 c9 f a n i many nm o work wa wc W) (hk : ∀ (p : Nat) (ob : Obj), W.heap[p]? = some ob → (∀ cur, ob ≠ .cells cur 3 (0, 0)) → V.heap[p]? = some ob) (hbel : Below w.heap.size w V)
    (hy : V.heap[y]? = some (.cells #[.int .i64 many] 3 (0, 0))) (hi : V.heap[c6]? = some (.cells #[.int .i64 i] 3 (0, 0))) (hown : V.ownsRow w.heap.size 3 1 (.slice wa' work'.length wc') work'.length (work'.map intV))
    (hny : Value.ownBlock (.slice wa' work'.length wc') ≠ some y) (hni : Value.ownBlock (.slice wa' work'.length wc') ≠ some c6) : FlAt w ds p m b y c6 c9 f a n i many nm o work' wa' wc' (V.setCell ⟨c9, 0, none⟩ (.slice wa' work'.length wc')) := by
  have hk9 := hk _ _ h.hk (by simp)
  have hg := qput_grown V c9 0 (.slice wa' work'.length wc')
  obtain ⟨es, ck, hb⟩ := h.mp.blk
  have hbV := hk _ _ hb (by simp)
  have mpV : MapI V b nm o := h.mp.of_block (by rw [hbV, hb])
  have ne : ∀ {k : Nat} {A : Array Value} {t : TypeId}, V.heap[k]? = some (.cells A t (0, 0)) → t ≠ 26 → some k ≠ some c9 := fun hq ht e => by
    rw [Option.some.inj e, hk9] at hq
    simp only [Option.some.injEq, Obj.cells.injEq] at hq
    exact ht hq.2.1.symm
  refine ⟨qstep hbel hg h.ge.2.2, qgrown hg (hk _ _ h.hp (by simp)) (ne (hk _ _ h.hp (by simp)) (by decide)), qgrown hg (hk _ _ h.hm (by simp)) (ne (hk _ _ h.hm (by simp)) (by decide)), qgrown hg hy (ne hy (by decide)), qgrown hg hi (ne hi (by decide)), ?_, ?_, ?_, hny, hni, ?_, h.ge⟩
  · rw [qput_at hk9 0 _]; rfl
  · exact hown.kept hg (.inr (qown_no hown hk9 (by simp)).symm)
  · exact mpV.step hg (fun e => by rw [e, hk9] at hbV; cases hbV)
  · exact (h.marks.kept fun r hr => hk r _ hr (by simp)).step hg (fun r e h1 => by cases e; rw [hk9] at h1; cases h1)
theorem own_shrink {ws : List Int} {x : Int} (h : W.ownsRow w.heap.size 3 1 (.slice wa (ws ++ [x]).length wc) (ws ++ [x]).length ((ws ++ [x]).map intV)) : W.ownsRow w.heap.size 3 1 (.slice wa ws.length wc) ws.length (ws.map intV) ∧ ∃ g, wa = some ⟨g, 0, none⟩ ∧ W.cell? ⟨g, ws.length, none⟩ = some (.int .i64 x) ∧ ws.length + 1 ≤ wc := by
  obtain ⟨h1, h2⟩ := h
  rcases h2 with ⟨_, h2⟩ | ⟨g, cap, cur, hv, hb, hg, hn, hc, hs, ht⟩
  · simp at h2
  · simp only [Value.slice.injEq] at hv
    obtain ⟨rfl, _, rfl⟩ := hv
    rw [List.length_append, List.length_singleton] at hn ht
    refine ⟨⟨by simp, .inr ⟨g, wc, cur, rfl, hb, hg, by omega, hc, hs, ?_⟩⟩, g, rfl, ?_, hn⟩
    · have e : cur.toList.take (ws.length * 1) = (cur.toList.take ((ws.length + 1) * 1)).take (ws.length * 1) := by rw [List.take_take]; congr 1; omega
      rw [e, ht, List.map_append]
      rw [Nat.mul_one, List.take_left' (by simp)]
    · refine qcell hg ws.length _ ?_
      have e : (cur.toList.take ((ws.length + 1) * 1))[ws.length]? = ((ws ++ [x]).map intV)[ws.length]? := by rw [ht]
      rw [List.getElem?_take, if_pos (by omega), List.getElem?_map] at e
      simp at e
      simpa [intV] using e
theorem FlAt.pop {ws : List Int} {x : Int} (h : FlAt w ds p m b y c6 c9 f a n i many nm o (ws ++ [x]) wa wc W) : FlAt w ds p m b y c6 c9 f a n i many nm o ws wa wc (W.setCell ⟨c9, 0, none⟩ (.slice wa ws.length wc)) := by
  have e : Value.ownBlock (.slice wa (ws ++ [x]).length wc) = Value.ownBlock (.slice wa ws.length wc) := by cases wa <;> rfl
  exact h.cell (fun _ _ hp _ => hp) h.bel h.hy h.hi (own_shrink h.own).1 (e ▸ h.ny) (e ▸ h.ni)
end
end Go.Proofs.YtimmadkbkimonaaGreatDoor
