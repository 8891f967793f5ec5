/- Parts of the proof, in this order: The program's note; The reference's reader: signed, Number; The reference's reader: Count, Numbers; Sticks: the walk of a crash that goes through; The examples at the head of the statements about tallies; The reference's SameNote (of millrindref09), for notes that are the same; Orders of names and notes in the program: cmp.Compare, cmp.Or, compareNames; Orders of names and notes in the program: compareNames, known, when, Before; done, judges, copied in the program; Maps keyed by names: what such a map in memory reads as, and its operations in these words. -/
import Derived.Deep.RegionLaw
import Derived.RegionTactic
import Derived.Deep.QuietTactic
import Derived.BigQuiet
import Derived.Deep.RegionHeld3
import Derived.Maps.RangeWalk
import Derived.Maps.OwnSet
import Derived.DeepKeys4
import Derived.Test.YtlnhppgfhkkidaaGreatKPpw4
set_option linter.unusedSimpArgs false
set_option linter.unusedVariables false
open List renaming getElem_toArray → lq0, getElem_cons_succ → lq1, getElem_cons_zero → lq2, setIfInBounds_toArray → lq3, set_cons_zero → lq4, set_cons_succ → lq5
namespace Go.Proofs.YtlnhppgfhkkidaaGreat
open Go.RowKit
theorem same_imp {W W' : World} {S S' : Nat → Prop} (h : Same S W W') (hi : ∀ k, S k → S' k) : Same S' W W' :=
  ⟨h.os, h.tape, h.output, h.size, fun k hk hs => h.block k hk (fun e => hs (hi k e))⟩
theorem noteA_noByte (m : NoteV) (sa : Option Addr) (sc : Nat) : ∀ v ∈ noteA m sa sc, ∀ x, v ≠ byteV x := by
  intro v hv x
  simp only [noteA, NoteV.cells, List.mem_toArray, List.mem_cons, List.not_mem_nil, or_false] at hv
  rcases hv with rfl | rfl | rfl | rfl | rfl | rfl | rfl | rfl | rfl | rfl | rfl | rfl | rfl | rfl | rfl | rfl | rfl | rfl | rfl <;> (intro h; cases h)
theorem decP_len : ∀ (l : List UInt8) (i u v : Nat) (t : List UInt8), decP i u l = some (v, t) → t.length ≤ l.length
  | [], i, u, v, t, h => by simp [decP] at h
  | c :: l, i, u, v, t, h => by
    rw [decP] at h
    split at h
    · cases h
    · split at h
      · simp only [Option.some.injEq, Prod.mk.injEq] at h
        rw [← h.2, List.length_cons]; omega
      · have := decP_len l _ _ v t h
        rw [List.length_cons]; omega
theorem numP_len {l t : List UInt8} {z : Int} (h : numP l = some (z, t)) : t.length ≤ l.length := by
  unfold numP at h
  split at h
  · rename_i e
    simp only [Option.some.injEq, Prod.mk.injEq] at h
    rw [← h.2]
    exact decP_len _ _ _ _ _ e
  · cases h
theorem manyP_len {l : List UInt8} : ∀ (k : Nat) {t : List UInt8} {xs : List Int}, many numP k l = some (xs, t) → t.length ≤ l.length
  | 0, t, xs, h => by simp only [many, Option.some.injEq, Prod.mk.injEq] at h; rw [h.2]; exact Nat.le_refl _
  | k + 1, t, xs, h => by
    rw [many] at h
    split at h
    · rename_i e
      split at h
      · rename_i e2
        simp only [Option.some.injEq, Prod.mk.injEq] at h
        rw [← h.2]
        exact Nat.le_trans (numP_len e2) (manyP_len k e)
      · cases h
    · cases h
theorem lenP_len {l t : List UInt8} {k : Nat} (h : lenF numP l = some (k, t)) : t.length ≤ l.length := by
  unfold lenF at h
  split at h
  · rename_i e
    split at h
    · simp only [Option.some.injEq, Prod.mk.injEq] at h
      rw [← h.2]
      exact numP_len e
    · cases h
  · cases h
structure NInv (wf W : World) (rp nb B : Nat) (m : NoteV) (sa : Option Addr) (sc : Nat) (t : List UInt8) (a : Option Addr) (n c : Nat) : Prop where
  e : W.heap[nb]? = some (.cells (noteA m sa sc) 47 (0, 0))
  r : RdP W rp t a n c
  s : Same (fun k => k = rp ∨ k = nb ∨ B ≤ k) wf W
  o : RdB wf a n c t
section
variable {wf W W' : World} {rp nb B : Nat} {m : NoteV} {sa : Option Addr} {sc : Nat} {t : List UInt8} {a : Option Addr} {n c : Nat}
theorem NInv.number (h : NInv wf W rp nb B m sa sc t a n c) {t' : List UInt8} {a2 : Option Addr} {n2 c2 : Nat} (hr : RdP W' rp t' a2 n2 c2) (hs : Same (fun k => k = rp) W W') (hq : ∀ W, RdB W a n c t → RdB W a2 n2 c2 t') (hne : ¬ nb = rp) : NInv wf W' rp nb B m sa sc t' a2 n2 c2 :=
  ⟨(hs.block _ (Array.getElem?_eq_some_iff.1 h.e).1 hne).trans h.e, hr, h.s.trans (same_imp hs fun k e => .inl e), hq wf h.o⟩
theorem NInv.set (h : NInv wf W rp nb B m sa sc t a n c) (j : Nat) (v : Value) {m' : NoteV} {sa' : Option Addr} {sc' : Nat} (hv : (noteA m sa sc).setIfInBounds j v = noteA m' sa' sc') (hne : ¬ rp = nb) : NInv wf (W.setCell ⟨nb, j, none⟩ v) rp nb B m' sa' sc' t a n c :=
  ⟨by rw [← hv]; exact heap_setCell_same W nb j _ _ v h.e, h.r.same (same_at W nb j v) hne (fun h0 b off e => rd_not h.e (noteA_noByte m sa sc) h.r.r h0 b off e), h.s.trans (same_imp (same_at W nb j v) fun k e => .inr (.inl e)), h.o⟩
theorem NInv.below (h : NInv wf W rp nb B m sa sc t a n c) (hb : Below W.heap.size W W') : NInv wf W' rp nb B m sa sc t a n c :=
  ⟨(hb.block _ (Array.getElem?_eq_some_iff.1 h.e).1).trans h.e, h.r.same (S := fun _ => False) (Same.of_below hb) id (fun _ _ _ _ => id), h.s.trans (Same.of_below hb), h.o⟩
theorem NInv.grown (h : NInv wf W rp nb B m sa sc t a n c) {v : Value} {q k : Nat} {xs : List Value} {e : TypeId} (hg : W.grownBy W' v.ownBlock) (ho : W.ownsRow B e k v q xs) (hB : wf.heap.size = B) (hnb : nb < B) (hrp : rp < B) : NInv wf W' rp nb B m sa sc t a n c := by
  have hlt := fun b hb => (ho.lt b hb).1
  have hs : Same (fun k => v.ownBlock = some k) W W' := Same.of_grown hg (fun k e => e)
  have h1 : ¬ v.ownBlock = some nb := fun e => by have := hlt _ e; omega
  have h2 : ¬ v.ownBlock = some rp := fun e => by have := hlt _ e; omega
  refine ⟨(hs.block _ (Array.getElem?_eq_some_iff.1 h.e).1 h1).trans h.e, h.r.same hs h2 (fun h0 b off e hb => ?_), h.s.trans (same_imp hs fun k e => .inr (.inr (hlt k e))), h.o⟩
  have h3 := rd_lt h.o h0 (by omega) b off e
  have h4 := hlt b hb
  omega
end
theorem infoInt : (Tryz.prog.info? 3).map (fun i => (i.zero, i.size, i.bytes)) = some (some (.int .i64 0), 1, 8) := by kernel_rfl
theorem step_app_ints {w : World} {ops : Array Oper} {o : Oper} {a : Act} {K : Act → World → Prop} {Q : Exit → Act → World → Prop} {E : Prop} (hgd : o.guard = none) (s x : Operand)
    (ho : o.op = .call { callee := .builtin .append, args := #[s, x], argTypes := #[37, 37] }) (base : Nat)
    (sa : Option Addr) (sn sc : Nat) (xs : List Int) (hs : a.eval s = .slice sa sn sc) (hown : w.ownsRow base 3 1 (.slice sa sn sc) sn (xs.map intV))
    (xa : Option Addr) (m xc : Nat) (ys : List Int) (hx : a.eval x = .slice xa m xc) (hrd : RdI w xa m xc ys) (hbytes : (sn + m) * 8 ≤ 140737488355328) (hbase : base ≤ w.heap.size)
    (h : ∀ a' c' w', w'.ownsRow base 3 1 (.slice a' (sn + m) c') (sn + m) ((xs ++ ys).map intV) → w.grownBy w' (Value.ownBlock (.slice sa sn sc)) → K (a.put o.dst (.slice a' (sn + m) c')) w') :
    if Region.wanted o (yielded ops a.tmps) = true then Oper.wp Tryz.prog o a w K Q else E := by
  have hw : Region.wanted o (yielded ops a.tmps) = true := by simp [Region.wanted, hgd]
  rw [if_pos hw]
  obtain ⟨i, hi, hz0, hz1, hz2⟩ := info_parts infoInt
  obtain ⟨a', c', w', hr, h2, h3⟩ := run_append_rd (P := Tryz.prog) w base 37 o.type 3 i (.int .i64 0) 1 8 Tryz.underlying37 hi hz0 hz1 hz2 rfl (by decide) sa sn sc _ hown xa m xc _ hrd (intV_one _) (by unfold maxLen; omega) (by omega) hbase
  unfold Oper.wp
  simp [execOp, ho, resolve, invoke, builtin, hs, hx, hr, Result.andThen]
  exact h a' c' w' (by rw [List.map_append]; exact h2) h3
theorem number_some (rp : Nat) (l t : List UInt8) (z : Int) (a : Option Addr) (n c : Nat) (w : World) (h : RdP w rp l a n c) (hn : numP l = some (z, t)) :
    Calls Tryz.prog 146 #[.pointer (some ⟨rp, 0, none⟩)] w fun e w' => ∃ a2 n2 c2, e = .returned (.int .i64 z) ∧ RdP w' rp t a2 n2 c2 ∧ Same (fun k => k = rp) w w' ∧ (∀ W, RdB W a n c l → RdB W a2 n2 c2 t) := by
  refine (number_any rp l a n c w h).mono ?_
  rintro e w1 (⟨z', t', a2, n2, c2, h1, rfl, h2, h3⟩ | ⟨h1, rfl, h3⟩)
  · rw [hn] at h1
    cases h1
    exact ⟨a2, n2, c2, rfl, h2, h3⟩
  · rw [hn] at h1; cases h1
theorem number_none (rp : Nat) (l : List UInt8) (a : Option Addr) (n c : Nat) (w : World) (h : RdP w rp l a n c) (hn : numP l = none) :
    Calls Tryz.prog 146 #[.pointer (some ⟨rp, 0, none⟩)] w fun e w' => e = .panicked [tornP] ∧ Same (fun k => k = rp) w w' := by
  refine (number_any rp l a n c w h).mono ?_
  rintro e w1 (⟨z', t', a2, n2, c2, h1, rfl, h2, h3⟩ | ⟨h1, rfl, h3⟩)
  · rw [hn] at h1; cases h1
  · exact ⟨rfl, h3⟩
section
attribute [local go_sem] noteA_0 noteA_1 noteA_2 noteA_3 noteA_4 noteA_5 noteA_6 noteA_7 noteA_8 noteA_9 noteA_10 noteA_11 noteA_12 noteA_13 noteA_14 noteA_15 noteA_16 noteA_17 noteA_18
set_option maxHeartbeats 8000000 in
set_option maxRecDepth 100000 in
theorem note_any (rp : Nat) (l : List UInt8) (a : Option Addr) (n c : Nat) (w : World) (h : RdP w rp l a n c) (hl : l.length ≤ 1000000) :
    Calls Tryz.prog 131 #[.pointer (some ⟨rp, 0, none⟩)] w fun e w' => (∃ (m : NoteV) (t : List UInt8) (sa : Option Addr) (sc : Nat) (a2 : Option Addr) (n2 c2 : Nat), noteF numP l = some (m, t) ∧ e = .returned (.agg (noteA m sa sc)) ∧ w'.ownsRow w.heap.size 3 1 (.slice sa m.strokes.length sc) m.strokes.length (m.strokes.map intV) ∧ RdP w' rp t a2 n2 c2 ∧ Same (fun k => k = rp) w w') ∨
      (noteF numP l = none ∧ e = .panicked [tornP] ∧ Same (fun k => k = rp) w w') := by
  have I43 := Lib.hid (show ∀ (m : NoteV) (a : Option Addr) (c : Nat), (Tryz.prog.info? 47).map (·.size) = some (noteA m a c).size from fun m a c => by kernel_rfl)
  have hrp : rp < w.heap.size := (Array.getElem?_eq_some_iff.1 h.e).1
  have hlast : (w.alloc (.cells (noteA zeroN none 0) 47)).heap[w.heap.size]? = some (.cells (noteA (mkN [] [] []) none 0) 47 (0, 0)) := heap_last w (.cells (noteA zeroN none 0) 47)
  have bb : Below w.heap.size w (w.alloc (.cells (noteA zeroN none 0) 47)) := (Below.refl _ _).alloc (Nat.le_refl _) _
  have hz0 : w.heap.size < (w.alloc (.cells (noteA zeroN none 0) 47)).heap.size := by simp
  obtain ⟨nb, hnb⟩ : ∃ nb, Hid (w.heap.size = nb) := ⟨_, Lib.hid rfl⟩
  rw [hnb.out] at hrp hlast hz0
  have HRP := Lib.hid hrp; clear hrp
  have HH := Lib.hid h; clear h
  have H0 := Lib.hid (And.intro hlast (And.intro bb hz0)); clear hlast bb hz0
  have HL := Lib.hid hl; clear hl
  go_enter Tryz.func131, Tryz.ntmps131
  go_wp2_with fail
  rw [← noteA_zero, hnb.out]
  generalize w.alloc (.cells (noteA zeroN none 0) 47) = w0 at *
  refine (fields_any nb w0).mono ?_
  rintro e wf ⟨rfl, g1, g2, b1⟩
  have HW : Hid (Below w.heap.size w wf) := Lib.hid (H0.out.2.1.trans (b1.mono (by rw [hnb.out]; exact Nat.le_of_lt H0.out.2.2)))
  have hn1 := (b1.block _ H0.out.2.2).trans H0.out.1
  obtain ⟨P, hP⟩ : ∃ P, Hid (w0.heap.size = P) := ⟨_, Lib.hid rfl⟩
  obtain ⟨Q, hQ⟩ : ∃ Q, Hid (w0.heap.size + 1 = Q) := ⟨_, Lib.hid rfl⟩
  obtain ⟨B, hB⟩ : ∃ B, Hid (wf.heap.size = B) := ⟨_, Lib.hid rfl⟩
  rw [hQ.out, hP.out]
  rw [hP.out] at g1
  rw [hQ.out] at g2
  have hPn : nb < P := by rw [← hP.out]; exact H0.out.2.2
  have hQn : nb < Q := by rw [← hQ.out]; exact Nat.lt_succ_of_lt H0.out.2.2
  have hPB : P < B := by rw [← hB.out]; exact (Array.getElem?_eq_some_iff.1 g1).1
  have hQB : Q < B := by rw [← hB.out]; exact (Array.getElem?_eq_some_iff.1 g2).1
  have LP := Lib.hid (And.intro hPn (And.intro hPB g1)); clear hPn hPB g1
  have LQ := Lib.hid (And.intro hQn (And.intro hQB g2)); clear hQn hQB g2
  have LB : Hid (nb < B ∧ rp < B) := Lib.hid ⟨Nat.lt_trans LP.out.1 LP.out.2.1, Nat.lt_trans HRP.out (Nat.lt_trans LP.out.1 LP.out.2.1)⟩
  have hI : NInv wf wf rp nb B (mkN [] [] []) none 0 l a n c := ⟨hn1, HH.out.same (S := fun _ => False) (Same.of_below HW.out) id (fun _ _ _ _ => id), ⟨rfl, rfl, rfl, Nat.le_refl _, fun _ _ _ => rfl⟩, RdB.below HH.out.r HW.out⟩
  have HI := Lib.hid hI; clear hI hn1 H0 b1 HH
  have FR : Hid (∀ W, Same (fun k => k = rp ∨ k = nb ∨ B ≤ k) wf W → Same (fun k => k = rp) w W) := Lib.hid fun W hS =>
    ⟨hS.os.trans HW.out.os, hS.tape.trans HW.out.tape, hS.output.trans HW.out.output, Nat.le_trans HW.out.size hS.size, fun k hk hr => by
      have hkn : k < nb := by rw [← hnb.out]; exact hk
      have := LB.out.1
      exact (hS.block k (Nat.lt_of_lt_of_le hk HW.out.size) (by omega)).trans (HW.out.block k hk)⟩
  have NR : Hid (¬ nb = rp ∧ ¬ rp = nb) := Lib.hid (by have := HRP.out; omega)
  go_wp2_with fail
  go_loopw [6, 15] (fun _ i wr => ∃ (k : Nat) (xs : List Int) (t : List UInt8) (a : Option Addr) (n c : Nat), i = .int .i64 k ∧ k ≤ 15 ∧ Hid (many numP k l = some (xs, t)) ∧ Hid (NInv wf wr rp nb B (mkN xs [] []) none 0 t a n c)) (fun _ i _ => 15 - (intOf i).toNat)
  case atStart => exact ⟨0, [], l, a, n, c, rfl, by omega, Lib.hid rfl, HI⟩
  case round =>
    obtain ⟨k, xs, t, a, n, c, rfl, hk, HM, HN⟩ := hrel
    by_cases hlt : k < 15
    · have hxl := many_len _ _ _ _ HM.out
      have e1 : wr.cell? ⟨P, k, none⟩ = some (.pointer (some ⟨nb, k, none⟩)) := cell_of ((HN.out.s.block P (by rw [hB.out]; exact LP.out.2.1) (by have h1 := LP.out.1; have h2 := LP.out.2.1; have h3 := HRP.out; omega)).trans LP.out.2.2) _ _ (aheadP_cell nb k hlt)
      have hz63 : (k : Int) ≤ 9223372036854775807 := by omega
      have HXL := Lib.hid hxl; clear hxl
      go_wp2_with fail
      refine (number_any rp t a n c wr HN.out.r).mono ?_
      rintro e w1 (⟨z, t', a2, n2, c2, h1, rfl, h2, h3⟩ | ⟨h1, rfl, h3⟩)
      · have HN1 := Lib.hid (HN.out.number h2 h3.1 h3.2 NR.out.1)
        have H1 := Lib.hid (many_succ HM.out h1)
        clear h1 h2 h3 e1
        have e2 : w1.cell? ⟨nb, k, none⟩ = some (.int .i64 ((aheadN (mkN xs [] []))[k]?.getD 0)) := cell_of HN1.out.e _ _ (ahead_cell (mkN xs [] []) none 0 k hlt)
        have f2 := frozen_of HN1.out.e k
        generalize (aheadN (mkN xs [] []))[k]?.getD 0 = y at *
        have HN2 := Lib.hid (HN1.out.set k (.int .i64 z) (by rw [← HXL.out]; exact set_ahead xs z (by rw [HXL.out]; exact hlt)) NR.out.2)
        go_wp2_with fail
        go_roundw
        case rel => exact ⟨k + 1, xs ++ [z], t', a2, n2, c2, by go_num, by omega, H1, HN2⟩
        case measure => simp [intOf]; omega
      · have HF := Lib.hid (noteF_1 (many_fail HM.out h1 15 hlt))
        have HS := Lib.hid (FR.out _ (HN.out.s.trans (same_imp h3 fun k e => .inl e)))
        clear h1 h3 e1
        go_wp2_with fail
        exact ⟨rfl, .inr ⟨HF.out, rfl, HS.out⟩⟩
    · have hkn : k = 15 := by omega
      subst hkn
      go_wp2_with fail
      refine (length_any rp t a n c wr HN.out.r).mono ?_
      rintro e w1 (⟨cnt, t1, a2, n2, c2, h1, hcnt, rfl, h2, h3⟩ | ⟨h1, rfl, h3⟩)
      · have HN1 := Lib.hid (HN.out.number h2 h3.1 h3.2 NR.out.1)
        have hc2 : cnt ≤ 1000000 := Nat.le_trans hcnt (Nat.le_trans (lenP_len h1) (Nat.le_trans (manyP_len _ HM.out) HL.out))
        have H1 := Lib.hid h1
        clear h1 h2 h3 hcnt
        go_wp2_with fail
        go_loopw [26] (fun i wr => ∃ (k : Nat) (ys : List Int) (t : List UInt8) (a : Option Addr) (n c : Nat) (sa : Option Addr) (sc : Nat), i = .int .i64 k ∧ k ≤ cnt ∧ Hid (many numP k t1 = some (ys, t)) ∧ Hid (NInv wf wr rp nb B (mkN xs ys []) sa sc t a n c) ∧ Hid (wr.ownsRow B 3 1 (.slice sa k sc) k (ys.map intV))) (fun i _ => cnt - (intOf i).toNat)
        case atStart => exact ⟨0, [], t1, a2, n2, c2, none, 0, rfl, Nat.zero_le _, Lib.hid rfl, HN1, Lib.hid (World.ownsRow_nil _ _ _ _)⟩
        case round =>
          obtain ⟨k, ys, t, a, n, c, sa, sc, rfl, hk, HM2, HN2, HO⟩ := hrel
          by_cases hlt : k < cnt
          · cases hnum : numP t with
            | none =>
              go_wp2_with fail
              have hyl : ys.length = k := many_len _ _ _ _ HM2.out
              have HND := Lib.hid (HN2.out.below (Below.refl wr.heap.size wr).drew)
              have e15 : wr.drew.cell? ⟨nb, 15, none⟩ = some (.slice sa k sc) := cell_of HND.out.e 15 _ (by rw [← hyl]; rfl)
              have HF := Lib.hid (show noteF numP l = none by rw [noteF_3 HM.out H1.out, many_fail HM2.out hnum cnt hlt])
              refine wp_region_any (by kernel_rfl) ?_
              change wpAny _ _ _ _ _ _ _ (World.drew _)
              refine wpAny_take (i := 0) (v := ?_) rfl (by kernel_rfl) (by kernel_rfl) (by kernel_rfl) (fun _ _ _ h => h) (Or.inl ⟨by rfl, ?_⟩) ?_
              rotate_left
              · intro w; go_simp
                first | done | with_reducible rfl
              refine wpAny_take (i := 2) (v := ?_) rfl (by kernel_rfl) (by kernel_rfl) (by kernel_rfl) (fun _ _ _ h => h) (Or.inl ⟨by rfl, ?_⟩) ?_
              rotate_left
              · intro w; go_simp
                first | done | with_reducible rfl
              refine wpAny_ready (rs := [1, 3]) (by kernel_rfl) (by simp) ?_
              refine AllReady.cons rfl (fun K hK => ?_) ?_
              · go_simp
                refine hK _ _ ?_
                clear hK K
                refine wpAny_ready (rs := [3]) (by kernel_rfl) (by simp) ?_
                refine AllReady.cons rfl (fun K hK => ?_) AllReady.nil
                go_simp
                go_at_call 146
                refine (number_none rp t a n c _ HND.out.r hnum).mono ?_
                rintro e w1 ⟨rfl, h3⟩
                exact ⟨rfl, .inr ⟨HF.out, rfl, FR.out _ (HND.out.s.trans (same_imp h3 fun k e => .inl e))⟩⟩
              refine AllReady.cons rfl (fun K hK => ?_) AllReady.nil
              go_simp
              go_at_call 146
              refine (number_none rp t a n c _ HND.out.r hnum).mono ?_
              rintro e w1 ⟨rfl, h3⟩
              exact ⟨rfl, .inr ⟨HF.out, rfl, FR.out _ (HND.out.s.trans (same_imp h3 fun k e => .inl e))⟩⟩
            | some p =>
              obtain ⟨z, t'⟩ := p
              go_wp2_with fail
              have hyl : ys.length = k := many_len _ _ _ _ HM2.out
              have HYL := Lib.hid hyl; clear hyl
              have HND := Lib.hid (HN2.out.below (Below.refl wr.heap.size wr).drew)
              have OD := Lib.hid (own_below HO.out (Below.refl wr.heap.size wr).drew)
              have e15 : wr.drew.cell? ⟨nb, 15, none⟩ = some (.slice sa k sc) := cell_of HND.out.e 15 _ (by rw [← HYL.out]; rfl)
              go_region_law (first
                | (refine step_app_ints rfl _ _ rfl B _ _ _ ys rfl O3.out _ _ _ [z] rfl (one_rd w1 z) (by omega) hBs ?_; intro sa' sc' w3 h5 h6; have HN4 := Lib.hid ((HN3.out.below ((Below.refl w1.heap.size w1).alloc (Nat.le_refl _) (.cells #[.int .i64 z] 3))).grown h6 O3.out hB.out LB.out.1 LB.out.2); have e18 : w3.cell? ⟨nb, 15, none⟩ = some (.slice sa k sc) := cell_of HN4.out.e 15 _ (by rw [← HYL.out]; try rfl); have f18 := frozen_of HN4.out.e 15; have H5 := Lib.hid h5; clear h5 h6)
                | (go_simp; go_at_call 146; refine (number_some rp t t' z a n c _ HND.out.r hnum).mono ?_; rintro e w1 ⟨a3, n3, c3, rfl, h2, h3⟩; have HN3 := Lib.hid (HND.out.number h2 h3.1 h3.2 NR.out.1); have e16 : w1.cell? ⟨nb, 15, none⟩ = some (.slice sa k sc) := cell_of HN3.out.e 15 _ (by rw [← HYL.out]; try rfl); have e17 : ∀ o, (w1.alloc o).cell? ⟨nb, 15, none⟩ = some (.slice sa k sc) := fun o => cell_of (heap_before w1 o _ _ HN3.out.e) 15 _ (by rw [← HYL.out]; try rfl); have O3 := Lib.hid (own_below (own_same OD.out h3.1 (fun b cur fr hb => .inr ((show b = rp from hb).symm ▸ LB.out.2))) ((Below.refl w1.heap.size w1).alloc (Nat.le_refl _) (.cells #[.int .i64 z] 3))); have hBs : B ≤ (w1.alloc (.cells #[.int .i64 z] 3)).heap.size := Nat.le_trans (Nat.le_of_eq hB.out.symm) (Nat.le_trans HN3.out.s.size (by simp)); clear h2 h3))
              all_goals
                have HN5 := Lib.hid (HN4.out.set 15 (.slice sa' (k + 1) sc') (set_strokes xs ys (ys ++ [z]) sa sa' sc sc' (k + 1) (by simp [HYL.out])) NR.out.2)
                have HO5 := Lib.hid (own_same H5.out (same_at w3 nb 15 (.slice sa' (k + 1) sc')) (fun b cur fr hb => .inr ((show b = nb from hb).symm ▸ LB.out.1)))
                clear e15 e16 e17 e18 f18
                go_wp2_with fail
                go_roundw
                case rel => exact ⟨k + 1, ys ++ [z], t', a3, n3, c3, sa', sc', by go_num, by omega, Lib.hid (many_succ HM2.out hnum), HN5, HO5⟩
                case measure => simp [intOf]; omega
          · have hkn : k = cnt := by omega
            subst hkn
            have HF3 := Lib.hid (noteF_3 HM.out H1.out)
            go_wp2_with fail
            go_loopw [8, 38] (fun _ i wr => ∃ (j : Nat) (zs : List Int) (t' : List UInt8) (a : Option Addr) (n c : Nat), i = .int .i64 j ∧ j ≤ 3 ∧ Hid (many numP j t = some (zs, t')) ∧ Hid (NInv wf wr rp nb B (mkN xs ys zs) sa sc t' a n c) ∧ Hid (wr.ownsRow B 3 1 (.slice sa k sc) k (ys.map intV))) (fun _ i _ => 3 - (intOf i).toNat)
            case atStart => exact ⟨0, [], t, a, n, c, rfl, by omega, Lib.hid rfl, HN2, HO⟩
            case round =>
              obtain ⟨j, zs, t', a, n, c, rfl, hj, HM3, HN3, HO3⟩ := hrel
              by_cases hlt : j < 3
              · have hxl := many_len _ _ _ _ HM3.out
                have e1 : wr.cell? ⟨Q, j, none⟩ = some (.pointer (some ⟨nb, 16 + j, none⟩)) := cell_of ((HN3.out.s.block Q (by rw [hB.out]; exact LQ.out.2.1) (by have h1 := LQ.out.1; have h2 := LQ.out.2.1; have h3 := HRP.out; omega)).trans LQ.out.2.2) _ _ (behindP_cell nb j hlt)
                have hz63 : (j : Int) ≤ 9223372036854775807 := by omega
                have HXL := Lib.hid hxl; clear hxl
                go_wp2_with fail
                refine (number_any rp t' a n c wr HN3.out.r).mono ?_
                rintro e w1 (⟨z, t2, a2, n2, c2, h1, rfl, h2, h3⟩ | ⟨h1, rfl, h3⟩)
                · have HN4 := Lib.hid (HN3.out.number h2 h3.1 h3.2 NR.out.1)
                  have HO4 := Lib.hid (own_same HO3.out h3.1 (fun b cur fr hb => .inr ((show b = rp from hb).symm ▸ LB.out.2)))
                  have H1' := Lib.hid (many_succ HM3.out h1)
                  clear h1 h2 h3 e1
                  have e2 : w1.cell? ⟨nb, 16 + j, none⟩ = some (.int .i64 ((behindN (mkN xs ys zs))[j]?.getD 0)) := cell_of HN4.out.e _ _ (behind_cell (mkN xs ys zs) sa sc j hlt)
                  have f2 := frozen_of HN4.out.e (16 + j)
                  generalize (behindN (mkN xs ys zs))[j]?.getD 0 = y at *
                  have HN5 := Lib.hid (HN4.out.set (16 + j) (.int .i64 z) (by rw [← HXL.out]; exact set_behind xs ys sa sc zs z (by rw [HXL.out]; exact hlt)) NR.out.2)
                  have HO5 := Lib.hid (own_same HO4.out (same_at w1 nb (16 + j) (.int .i64 z)) (fun b cur fr hb => .inr ((show b = nb from hb).symm ▸ LB.out.1)))
                  go_wp2_with fail
                  go_roundw
                  case rel => exact ⟨j + 1, zs ++ [z], t2, a2, n2, c2, by go_num, by omega, H1', HN5, HO5⟩
                  case measure => simp [intOf]; omega
                · have HF := Lib.hid (show noteF numP l = none by rw [HF3.out, HM2.out]; simp only; rw [many_fail HM3.out h1 3 hlt])
                  have HS := Lib.hid (FR.out _ (HN3.out.s.trans (same_imp h3 fun k e => .inl e)))
                  clear h1 h3 e1
                  go_wp2_with fail
                  exact ⟨rfl, .inr ⟨HF.out, rfl, HS.out⟩⟩
              · have hjn : j = 3 := by omega
                subst hjn
                have HF := Lib.hid (show noteF numP l = some (mkN xs ys zs, t') by rw [HF3.out, HM2.out]; simp only; rw [HM3.out])
                have hyl : ys.length = k := many_len _ _ _ _ HM2.out
                obtain ⟨N, hN⟩ : ∃ N, Hid (mkN xs ys zs = N) := ⟨_, Lib.hid rfl⟩
                have hNs : N.strokes = ys := by rw [← hN.out]; rfl
                rw [hN.out] at HN3 HF
                have one1 := noteA_one N sa sc
                have HY := Lib.hid (And.intro hNs hyl); clear hyl hNs
                go_wp2_with (first
                  | (refine wpList_load_row rfl 47 _ rfl nb rfl 47 (noteA N sa sc) (0, 0) _ HN3.out.e Tryz.underlying47 rfl (I43.out _ _ _) ?_)
                  | (refine wpList_store_rowN rfl 47 _ _ rfl nb (noteA N sa sc) (noteA N sa sc) 47 rfl rfl HN3.out.e (I43.out _ _ _) rfl one1 ?_))
                refine bodyPost_ret (results_cell_row rfl _ _ nb 47 (noteA N sa sc) (0, 0) _ rfl ?hg Tryz.underlying47 rfl (I43.out _ _ _)) rfl ?_
                case hg => exact setRow_heap wr nb _ _ _ _ HN3.out.e
                have hSR : Same (fun k => k = nb) wr (wr.setRow nb (noteA N sa sc)) := ⟨rfl, rfl, rfl, by simp, fun k hk hs => setRow_other wr nb k _ hs⟩
                have hO := own_same HO3.out hSR (fun b cur fr hb => .inr ((show b = nb from hb).symm ▸ LB.out.1))
                refine .inl ⟨N, t', sa, sc, a, n, c, HF.out, rfl, ?_, ?_, ?_⟩
                · rw [HY.out.1, HY.out.2]; exact own_mono hO (by rw [hnb.out]; exact Nat.le_of_lt LB.out.1)
                · exact HN3.out.r.same hSR NR.out.2 (fun h0 b off e => rd_not HN3.out.e (noteA_noByte N sa sc) HN3.out.r.r h0 b off e)
                · exact FR.out _ (HN3.out.s.trans (same_imp hSR fun k e => .inr (.inl e)))
      · have HF := Lib.hid (noteF_2 HM.out h1)
        have HS := Lib.hid (FR.out _ (HN.out.s.trans (same_imp h3 fun k e => .inl e)))
        clear h1 h3
        go_wp2_with fail
        exact ⟨rfl, .inr ⟨HF.out, rfl, HS.out⟩⟩
end
end Go.Proofs.YtlnhppgfhkkidaaGreat
namespace Go.Proofs.YtlnhppgfhkkidaaGreat
open Go.RowKit

structure RdQ (W : World) (rp : Nat) (l : List UInt8) (a : Option Addr) (n c : Nat) (at_ : Nat) (bad : Bool) : Prop where
  e : W.heap[rp]? = some (.cells #[.slice a n c, .int .i64 at_, .bool bad] 205 (0, 0))
  r : RdB W a n c l
  le : at_ ≤ l.length
section
variable {W W' : World} {rp : Nat} {l : List UInt8} {a : Option Addr} {n c at_ : Nat} {bad : Bool}
theorem RdQ.not (h : RdQ W rp l a n c at_ bad) (h0 : 0 < n) : ∀ b off, a = some ⟨b, off, none⟩ → b ≠ rp :=
  rd_not h.e (by intro v hv x; simp at hv; rcases hv with rfl | rfl | rfl <;> (intro hh; cases hh)) h.r h0
theorem RdQ.same {S : Nat → Prop} (h : RdQ W rp l a n c at_ bad) (hs : Same S W W') (h1 : ¬ S rp) (h2 : 0 < n → ∀ b off, a = some ⟨b, off, none⟩ → ¬ S b) : RdQ W' rp l a n c at_ bad :=
  ⟨(hs.block _ (Array.getElem?_eq_some_iff.1 h.e).1 h1).trans h.e, rd_same h.r hs h2, h.le⟩
theorem RdQ.setAt (h : RdQ W rp l a n c at_ bad) (k : Nat) (hk : k ≤ l.length) : RdQ (W.setCell ⟨rp, 1, none⟩ (.int .i64 k)) rp l a n c k bad :=
  ⟨heap_setCell_same W rp 1 _ _ (.int .i64 k) h.e, rd_same h.r (same_at W rp 1 _) (fun h0 b off e => h.not h0 b off e), hk⟩
theorem RdQ.c0 (h : RdQ W rp l a n c at_ bad) : W.cell? ⟨rp, 0, none⟩ = some (.slice a n c) := cell_of h.e 0 _ rfl
theorem RdQ.c1 (h : RdQ W rp l a n c at_ bad) : W.cell? ⟨rp, 1, none⟩ = some (.int .i64 at_) := cell_of h.e 1 _ rfl
theorem RdQ.c2 (h : RdQ W rp l a n c at_ bad) : W.cell? ⟨rp, 2, none⟩ = some (.bool bad) := cell_of h.e 2 _ rfl
theorem RdQ.f (h : RdQ W rp l a n c at_ bad) (j : Nat) : W.frozen? ⟨rp, j, none⟩ = false := frozen_of h.e j
theorem RdQ.len (h : RdQ W rp l a n c at_ bad) : l.length = n := by have := h.r.1; simpa using this
theorem Same.refl (S : Nat → Prop) (W : World) : Same S W W := ⟨rfl, rfl, rfl, Nat.le_refl _, fun _ _ _ => rfl⟩
end
end Go.Proofs.YtlnhppgfhkkidaaGreat
namespace Go.Proofs.YtlnhppgfhkkidaaGreat
open Go.RowKit

theorem app_ints (w : World) {ops : Array Oper} {rest : List Oper} {o : Oper} {a : Act} {Q : Exit → Act → World → Prop} (hgd : o.guard = none) (s x : Operand)
    (ho : o.op = .call { callee := .builtin .append, args := #[s, x], argTypes := #[37, 37] }) (base : Nat)
    (sa : Option Addr) (sn sc : Nat) (xs : List Int) (hs : a.eval s = .slice sa sn sc) (hown : w.ownsRow base 3 1 (.slice sa sn sc) sn (xs.map intV))
    (xa : Option Addr) (m xc : Nat) (ys : List Int) (hx : a.eval x = .slice xa m xc) (hrd : RdI w xa m xc ys) (hbytes : (sn + m) * 8 ≤ 140737488355328) (hbase : base ≤ w.heap.size)
    (h : ∀ a' c' w', w'.ownsRow base 3 1 (.slice a' (sn + m) c') (sn + m) ((xs ++ ys).map intV) → w.grownBy w' (Value.ownBlock (.slice sa sn sc)) → wpList Tryz.prog ops Q rest (a.put o.dst (.slice a' (sn + m) c')) w') :
    wpList Tryz.prog ops Q (o :: rest) a w := by
  obtain ⟨i, hi, hz0, hz1, hz2⟩ := info_parts infoInt
  exact wpList_append_rd w hgd s x 37 ho base 3 i (.int .i64 0) 1 8 Tryz.underlying37 hi hz0 hz1 hz2 rfl (by decide) sa sn sc _ hs hown xa m xc _ hx hrd (intV_one _) (by unfold maxLen; omega) hbytes hbase
    (fun a' c' w' h1 h2 => h a' c' w' (by rw [List.map_append]; exact h1) h2)
end Go.Proofs.YtlnhppgfhkkidaaGreat
namespace Go.Proofs.YtlnhppgfhkkidaaGreat
open Go.RowKit

theorem Same.trans2 {F F1 : Nat → Prop} {a b c : World} (h : Same F a b) (k : Same F1 b c) (hF : ∀ k, F1 k → F k ∨ a.heap.size ≤ k) : Same F a c :=
  ⟨k.os.trans h.os, k.tape.trans h.tape, k.output.trans h.output, Nat.le_trans h.size k.size, fun i hi hs => (k.block i (Nat.lt_of_lt_of_le hi h.size) (fun h1 => by
    rcases hF i h1 with h2 | h2
    · exact hs h2
    · omega)).trans (h.block i hi hs)⟩

theorem xor_bytes (x y : UInt8) : bits .xor .u8 (x.toNat : Int) (y.toNat : Int) = ((x ^^^ y).toNat : Int) := by
  have hx := x.toNat_lt
  have hy := y.toNat_lt
  have h : x.toNat ^^^ y.toNat < 2 ^ 8 := Nat.xor_lt_two_pow hx hy
  show IntKind.u8.wrap (((BitVec.ofInt 8 (x.toNat : Int)) ^^^ (BitVec.ofInt 8 (y.toNat : Int)) : BitVec 8)).toNat = _
  rw [BitVec.ofInt_natCast, BitVec.ofInt_natCast, BitVec.toNat_xor, BitVec.toNat_ofNat, BitVec.toNat_ofNat, Nat.mod_eq_of_lt hx, Nat.mod_eq_of_lt hy, IntKind.wrap_u8, UInt8.toNat_xor]
  omega
theorem mask_eq (b : Nat) : ((2 : Int) ^ b % 256) = ((UInt8.ofNat (2 ^ b)).toNat : Int) := by
  rw [UInt8.toNat_ofNat']
  simp

theorem Stk.self {w : World} {p : Nat} {F : Nat → Prop} {sb fb : List UInt8} {sd fd : Nat} (h : Stk w p F sb fb sd fd) : F p := by
  obtain ⟨sa, sc, fa, fc, h1, h2, h3, h4, h5, h6⟩ := h
  exact (h5 p).2 (.inl rfl)

set_option maxHeartbeats 1000000 in
theorem crash_yes (w : World) (p : Nat) (F : Nat → Prop) (sb fb : List UInt8) (sd fd : Nat) (stock foil : Nat) (flip : Int) (h : Stk w p F sb fb sd fd) (hc : CrashOk sb fb sd fd stock foil flip) :
    Calls Tryz.prog 50 #[.pointer (some ⟨p, 0, none⟩), .int .i64 stock, .int .i64 foil, .int .i64 flip] w fun e w' => e = .returned (.int .i64 0) ∧
      ∃ F', Stk w' p F' (crashS sb sd stock flip) (crashF fb fd stock foil flip) (crashS sb sd stock flip).length (crashF fb fd stock foil flip).length ∧ Same F w w' ∧ (∀ k, F' k → F k ∨ w.heap.size ≤ k) := by
  obtain ⟨c1, c2, c3, c4, c5, c6⟩ := hc
  have hq : ∀ q, Stk (w.drewN q) p F sb fb sd fd := fun q => h.same (S := fun _ => False) (Same.of_below (below_drewN (Below.refl _ _) q)) (fun _ e => e.elim)
  obtain ⟨_, _, _, _, _, _, _, _, _, g6, g7, g8, g9⟩ := id h
  have P1 : ∀ q, Calls Tryz.prog 110 #[.pointer (some ⟨p, 0, none⟩)] (w.drewN q) fun e w' => e = .returned (.int .i64 ((sb.length : Int) - sd)) ∧ ∃ q', w' = w.drewN q' := by
    intro q
    obtain ⟨a, c, j, _⟩ := (hq q).j0
    refine (jpending_any _ _ _ _ _ _ _ j g6 (by omega)).mono ?_
    rintro e w' ⟨rfl, q', rfl⟩
    exact ⟨rfl, q + q', by rw [World.drewN_drewN]⟩
  have P2 : ∀ q, Calls Tryz.prog 110 #[.pointer (some ⟨p, 2, none⟩)] (w.drewN q) fun e w' => e = .returned (.int .i64 ((fb.length : Int) - fd)) ∧ ∃ q', w' = w.drewN q' := by
    intro q
    obtain ⟨a, c, j, _⟩ := (hq q).j2
    refine (jpending_any _ _ _ _ _ _ _ j g7 (by omega)).mono ?_
    rintro e w' ⟨rfl, q', rfl⟩
    exact ⟨rfl, q + q', by rw [World.drewN_drewN]⟩
  have H1 := Lib.hid P1; clear P1
  have H2 := Lib.hid P2; clear P2
  have HQ := Lib.hid hq; clear hq
  have HP := Lib.hid h.self; clear h
  have q1 : decide ((stock : Int) < 0) = false := by simp
  have q2 : decide ((sb.length : Int) - sd < stock) = false := by simp; omega
  have q3 : decide ((foil : Int) < 0) = false := by simp
  have q4 : decide ((fb.length : Int) - fd < foil) = false := by simp; omega
  have q5 : decide (flip < -1) = false := by simp; omega
  have q6 : decide (8 * ((stock : Int) + foil) ≤ flip) = false := by simp; omega
  go_enter Tryz.func50, Tryz.ntmps50
  go_wp2_with fail
  refine (H1.out 0).mono ?_
  rintro e w' ⟨rfl, q, rfl⟩
  go_wp2_with fail
  refine (H2.out q).mono ?_
  rintro e w' ⟨rfl, q', rfl⟩
  have hS := HQ.out q'
  have hbq : Below w.heap.size w (w.drewN q') := below_drewN (Below.refl _ _) q'
  have HB := Lib.hid hbq; clear hbq
  go_wp2_with fail
  generalize w.drewN q' = w0 at *
  have hb0 := HB.out
  have hz0 := hb0.size
  obtain ⟨a0, k0, j0, o0⟩ := hS.j0
  refine (jkeep_any w0 p 0 a0 sb.length k0 sd sb j0 (RdB.of_own o0) stock (by omega) (by omega)).mono ?_
  rintro e w' ⟨rfl, a1, k1, w1, ho1, hb1, rfl⟩
  obtain ⟨F1, hS1, hF1, hF1'⟩ := hS.setStock hb1 ho1 (by omega) (by omega)
  clear j0 o0 hb1 ho1
  go_wp2_with fail
  generalize w1.setCell ⟨p, 0, none⟩ (.slice a1 (sd + stock) k1) = w2 at *
  obtain ⟨a2, k2, j2, o2⟩ := hS1.j2
  refine (jkeep_any w2 p 2 a2 fb.length k2 fd fb j2 (RdB.of_own o2) foil (by omega) (by omega)).mono ?_
  rintro e w' ⟨rfl, a3, k3, w3, ho3, hb3, rfl⟩
  obtain ⟨F2, hS2, hF2, hF2'⟩ := hS1.setFoil hb3 ho3 (by omega) (by omega)
  clear j2 o2 hb3 ho3
  have hSame : Same F w (w3.setCell ⟨p, 2, none⟩ (.slice a3 (fd + foil) k3)) := ((Same.of_below hb0).trans2 hF1 (fun k hk => .inl hk)).trans2 hF2 (fun k hk => by
    rcases hF1' k hk with h | h
    · exact .inl h
    · exact .inr (by omega))
  have hFoot : ∀ k, F2 k → F k ∨ w.heap.size ≤ k := fun k hk => by
    rcases hF2' k hk with h | h
    · rcases hF1' k h with h | h
      · exact .inl h
      · exact .inr (by omega)
    · have := hF1.size; exact .inr (by omega)
  have HS := Lib.hid hSame; clear hSame
  have HF := Lib.hid hFoot; clear hFoot hF1 hF1' hF2 hF2' hS hS1
  by_cases hm : flip < 0
  · have e1 : crashS sb sd stock flip = sb.take (sd + stock) := by unfold crashS; rw [if_neg (by omega)]
    have e2 : crashF fb fd stock foil flip = fb.take (fd + foil) := by unfold crashF; rw [if_neg (by omega)]
    have E1 := Lib.hid e1; clear e1
    have E2 := Lib.hid e2; clear e2
    go_wp2_with fail
    generalize w3.setCell ⟨p, 2, none⟩ (.slice a3 (fd + foil) k3) = w4 at *
    refine (sync_any _ _ _ _ _ _ _ hS2).mono ?_
    rintro e w' ⟨rfl, hS3, hF3⟩
    go_wp2_with fail
    go_ret
    rw [E1.out, E2.out]
    exact ⟨rfl, F2, hS3, HS.out.trans2 hF3 (fun k hk => .inl (by subst hk; exact HP.out)), HF.out⟩
  · obtain ⟨f, rfl⟩ := Int.eq_ofNat_of_zero_le (show 0 ≤ flip by omega)
    go_wp2_with fail
    go_quiet (fail)
    have hS3 := hS2.same (S := fun _ => False) (Same.of_below (below_drewN (Below.refl _ _) nq)) (fun _ e => e.elim)
    have hA : (f : Int) / 8 = ((f / 8 : Nat) : Int) := by omega
    have hlen1 : (sb.take (sd + stock)).length = sd + stock := by rw [List.length_take]; omega
    have hlen2 : (fb.take (fd + foil)).length = fd + foil := by rw [List.length_take]; omega
    have HL1 := Lib.hid hlen1; clear hlen1
    have HL2 := Lib.hid hlen2; clear hlen2
    have hS0 := HS.out.trans (Same.of_below (S := F) (below_drewN (Below.refl _ _) nq))
    have HS0 := Lib.hid hS0; clear hS0
    rw [mask_eq, hA]
    clear hA hS2 HS
    generalize (w3.setCell ⟨p, 2, none⟩ (.slice a3 (fd + foil) k3)).drewN nq = w4 at *
    by_cases hat : f / 8 < stock
    · have e1 : crashS sb sd stock f = flipAt (sb.take (sd + stock)) (sd + f / 8) (f % 8) := by unfold crashS; rw [if_pos (by simp; exact hat)]; simp
      have e2 : crashF fb fd stock foil f = fb.take (fd + foil) := by unfold crashF; rw [if_neg (by simp; omega)]
      have E1 := Lib.hid e1; clear e1
      have E2 := Lib.hid e2; clear e2
      obtain ⟨g, k, y1, y2, y3, y4, hS4, hF4⟩ := hS3.flipS (sd + f / 8) (by rw [HL1.out]; omega) (((sb.take (sd + stock))[sd + f / 8]?.getD 0) ^^^ UInt8.ofNat (2 ^ (f % 8)))
      rw [HL1.out] at y1
      have hx := xor_bytes ((sb.take (sd + stock))[sd + f / 8]?.getD 0) (UInt8.ofNat (2 ^ (f % 8)))
      have E3 : Hid (flipAt (sb.take (sd + stock)) (sd + f / 8) (f % 8) = (sb.take (sd + stock)).set (sd + f / 8) (((sb.take (sd + stock))[sd + f / 8]?.getD 0) ^^^ UInt8.ofNat (2 ^ (f % 8)))) := show _ = _ from rfl
      generalize (sb.take (sd + stock))[sd + f / 8]?.getD 0 = bt at *
      generalize UInt8.ofNat (2 ^ (f % 8)) = mk at *
      generalize f / 8 = A at *
      have HS4 := Lib.hid hS4; clear hS4
      have HF4 := Lib.hid hF4; clear hF4 hS3
      clear w0 hb0 hz0 HB H1 H2 HQ
      go_wp2_with fail
      go_region
      rw [← UInt8.toNat_xor]
      have hS5 := HS4.out.same (S := fun _ => False) (w' := (w4.setCell ⟨g, sd + A, none⟩ (.int .u8 ((bt ^^^ mk).toNat : Int))).drew) (Same.of_below (below_drewN (Below.refl _ _) 1)) (fun _ e => e.elim)
      have hF5 : Same F2 w4 (w4.setCell ⟨g, sd + A, none⟩ (.int .u8 ((bt ^^^ mk).toNat : Int))).drew := HF4.out.trans (Same.of_below (below_drewN (Below.refl _ _) 1))
      generalize (w4.setCell ⟨g, sd + A, none⟩ (.int .u8 ((bt ^^^ mk).toNat : Int))).drew = w5 at *
      have HF5 := Lib.hid hF5; clear hF5 HS4 HF4 y1 y2 y3 y4 hx
      go_wp2_with fail
      refine (sync_any _ _ _ _ _ _ _ hS5).mono ?_
      rintro e w' ⟨rfl, hS6, hF6⟩
      go_wp2_with fail
      go_ret
      rw [E1.out, E2.out, E3.out]
      exact ⟨rfl, F2, hS6, (HS0.out.trans2 HF5.out HF.out).trans2 hF6 (fun k hk => .inl (by subst hk; exact HP.out)), HF.out⟩
    · have e1 : crashS sb sd stock f = sb.take (sd + stock) := by unfold crashS; rw [if_neg (by simp; omega)]
      have e2 : crashF fb fd stock foil f = flipAt (fb.take (fd + foil)) (fd + f / 8 - stock) (f % 8) := by unfold crashF; rw [if_pos (by simp; omega)]; simp
      have E1 := Lib.hid e1; clear e1
      have E2 := Lib.hid e2; clear e2
      have hlt : fd + f / 8 - stock < fd + foil := by omega
      obtain ⟨g, k, y1, y2, y3, y4, hS4, hF4⟩ := hS3.flipF (fd + f / 8 - stock) (by rw [HL2.out]; exact hlt) (((fb.take (fd + foil))[fd + f / 8 - stock]?.getD 0) ^^^ UInt8.ofNat (2 ^ (f % 8)))
      rw [HL2.out] at y1
      have hx := xor_bytes ((fb.take (fd + foil))[fd + f / 8 - stock]?.getD 0) (UInt8.ofNat (2 ^ (f % 8)))
      have E3 : Hid (flipAt (fb.take (fd + foil)) (fd + f / 8 - stock) (f % 8) = (fb.take (fd + foil)).set (fd + f / 8 - stock) (((fb.take (fd + foil))[fd + f / 8 - stock]?.getD 0) ^^^ UInt8.ofNat (2 ^ (f % 8)))) := show _ = _ from rfl
      generalize (fb.take (fd + foil))[fd + f / 8 - stock]?.getD 0 = bt at *
      generalize UInt8.ofNat (2 ^ (f % 8)) = mk at *
      have HS4 := Lib.hid hS4; clear hS4
      have HF4 := Lib.hid hF4; clear hF4 hS3
      clear w0 hb0 hz0 HB H1 H2 HQ
      go_wp2_with fail
      go_region
      rw [← UInt8.toNat_xor]
      have hS5 := HS4.out.same (S := fun _ => False) (w' := (w4.setCell ⟨g, fd + f / 8 - stock, none⟩ (.int .u8 ((bt ^^^ mk).toNat : Int))).drew) (Same.of_below (below_drewN (Below.refl _ _) 1)) (fun _ e => e.elim)
      have hF5 : Same F2 w4 (w4.setCell ⟨g, fd + f / 8 - stock, none⟩ (.int .u8 ((bt ^^^ mk).toNat : Int))).drew := HF4.out.trans (Same.of_below (below_drewN (Below.refl _ _) 1))
      generalize (w4.setCell ⟨g, fd + f / 8 - stock, none⟩ (.int .u8 ((bt ^^^ mk).toNat : Int))).drew = w5 at *
      have HF5 := Lib.hid hF5; clear hF5 HS4 HF4 y1 y2 y3 y4 hx
      go_wp2_with fail
      refine (sync_any _ _ _ _ _ _ _ hS5).mono ?_
      rintro e w' ⟨rfl, hS6, hF6⟩
      go_wp2_with fail
      go_ret
      rw [E1.out, E2.out, E3.out]
      exact ⟨rfl, F2, hS6, (HS0.out.trans2 HF5.out HF.out).trans2 hF6 (fun k hk => .inl (by subst hk; exact HP.out)), HF.out⟩
end Go.Proofs.YtlnhppgfhkkidaaGreat
namespace Go.Proofs.YtlnhppgfhkkidaaGreat
open Go.RowKit

theorem RdB.lit (w : World) (l : List UInt8) (hl : l.length ≤ 1000000) : RdB (w.alloc (.cells (l.map byteV).toArray 5)) (some ⟨w.heap.size, 0, none⟩) l.length l.length l := by
  have h := World.ownsRow_lit (base := w.heap.size) (e := 5) (size := 1) w (l.map byteV).toArray l.length (Nat.le_refl _) (by unfold maxLen; omega) (by simp)
  exact RdA.of_own h

theorem conv_bytes {w : World} {a : Option Addr} {n c : Nat} {l : List UInt8} (h : RdB w a n c l) : (convert 41 9 (.slice a n c)).run Tryz.prog w = .ok (.string ⟨l.toArray⟩) w :=
  run_convert_str 41 9 5 Tryz.underlying41 Tryz.underlying5 Tryz.underlying9 h

theorem join_lit (w : World) (A B : List UInt8) (hA : A.length ≤ 1000) (hB : B.length ≤ 1000) :
    Calls Tryz.prog 47 #[.slice (some ⟨w.heap.size, 0, none⟩) A.length A.length, .slice (some ⟨w.heap.size + 1, 0, none⟩) B.length B.length] ((w.alloc (.cells (A.map byteV).toArray 5)).alloc (.cells (B.map byteV).toArray 5)) fun e w' =>
      ∃ oa oc, e = .returned (.tuple #[.slice oa (joinOf A B).length oc, .int .i64 (sOf (joinOf A B)), .int .i64 (4 * ((joinOf A B).length : Int))]) ∧ Below w.heap.size w w' := by
  have r2 := RdB.lit w A (by omega)
  have r3 := RdB.lit (w.alloc (.cells (A.map byteV).toArray 5)) B (by omega)
  rw [World.size_alloc] at r3
  have b2 := (Below.refl (w.alloc (.cells (A.map byteV).toArray 5)).heap.size (w.alloc (.cells (A.map byteV).toArray 5))).alloc (Nat.le_refl _) (.cells (B.map byteV).toArray 5)
  have b1 := (Below.refl w.heap.size w).alloc (Nat.le_refl _) (.cells (A.map byteV).toArray 5)
  have b3 := b1.trans (b2.mono (by simp))
  refine (join_any _ _ _ A _ _ _ B _ (r2.below b2) r3 (by omega) (by omega)).mono ?_
  rintro e w' ⟨oa, oc, rfl, _, hb⟩
  exact ⟨oa, oc, rfl, b3.trans (hb.mono b3.size)⟩

theorem join_ex1 (w : World) : Calls Tryz.prog 47 #[.slice (some ⟨w.heap.size, 0, none⟩) 5 5, .slice (some ⟨w.heap.size + 1, 0, none⟩) 4 4]
    ((w.alloc (.cells #[.int .u8 1, .int .u8 0, .int .u8 7, .int .u8 0, .int .u8 0] 5)).alloc (.cells #[.int .u8 1, .int .u8 0, .int .u8 8, .int .u8 0] 5)) fun e w' =>
      ∃ oa oc, e = .returned (.tuple #[.slice oa 1 oc, .int .i64 3, .int .i64 4]) ∧ Below w.heap.size w w' := by
  have h := join_lit w [1, 0, 7, 0, 0] [1, 0, 8, 0] (by decide) (by decide)
  have e : joinOf [1, 0, 7, 0, 0] [1, 0, 8, 0] = [[7]] := by decide +kernel
  rw [e] at h
  exact h
theorem join_ex2 (w : World) : Calls Tryz.prog 47 #[.slice (some ⟨w.heap.size, 0, none⟩) 3 3, .slice (some ⟨w.heap.size + 1, 0, none⟩) 4 4]
    ((w.alloc (.cells #[.int .u8 1, .int .u8 0, .int .u8 6] 5)).alloc (.cells #[.int .u8 1, .int .u8 0, .int .u8 8, .int .u8 0] 5)) fun e w' =>
      ∃ oa oc, e = .returned (.tuple #[.slice oa 0 oc, .int .i64 0, .int .i64 0]) ∧ Below w.heap.size w w' := by
  have h := join_lit w [1, 0, 6] [1, 0, 8, 0] (by decide) (by decide)
  have e : joinOf [1, 0, 6] [1, 0, 8, 0] = [] := by decide +kernel
  rw [e] at h
  exact h

theorem stick_ex (w : World) (p : Nat) (F : Nat → Prop) (h : Stk w p F [1, 0, 7] [1, 0, 8, 0] 0 0) :
    Calls Tryz.prog 50 #[.pointer (some ⟨p, 0, none⟩), .int .i64 3, .int .i64 2, .int .i64 (-1)] w fun e w' => e = .returned (.int .i64 0) ∧ ∃ F', Stk w' p F' [1, 0, 7] [1, 0] 3 2 ∧ Same F w w' ∧ (∀ k, F' k → F k ∨ w.heap.size ≤ k) := by
  have h := crash_yes w p F [1, 0, 7] [1, 0, 8, 0] 0 0 3 2 (-1) h ⟨by decide, by decide, by decide, by decide, by decide, by decide⟩
  have e1 : crashS [1, 0, 7] 0 3 (-1) = [1, 0, 7] := by decide +kernel
  have e2 : crashF [1, 0, 8, 0] 0 3 2 (-1) = [1, 0] := by decide +kernel
  rw [e1, e2] at h
  exact h

theorem tallies_ex (w : World) (p : Nat) (F : Nat → Prop) (h : Stk w p F [1, 0, 7] [1, 0] 3 2) :
    Calls Tryz.prog 51 #[.pointer (some ⟨p, 0, none⟩)] w fun e w' => (∃ oa oc, e = .returned (.slice oa 0 oc)) ∧ Below w.heap.size w w' := by
  have h := talliesOf_any w p F _ _ _ _ h
  have e1 : joinOf [1, 0, 7] [1, 0] = [] := by decide +kernel
  rw [e1] at h
  exact h.mono fun e w' ⟨oa, oc, he, _, hb⟩ => ⟨⟨oa, oc, he⟩, hb⟩

set_option maxHeartbeats 1000000 in
theorem awake_any (w : World) : Calls Tryz.prog 10 #[] w fun e w' => e = .returned (.bool true) ∧ Below w.heap.size w w' := by
  go_enter Tryz.func10, Tryz.ntmps10
  go_wp2_with fail
  have r1 : RdB (w.alloc (.cells #[.int .u8 7] 5)) (some ⟨w.heap.size, 0, none⟩) 1 1 [7] := RdB.lit w [7] (by decide)
  have b0 := (Below.refl w.heap.size w).alloc (Nat.le_refl _) (.cells #[.int .u8 7] 5)
  refine (notch_any _ _ _ [7] _ r1 (by decide)).mono ?_
  rintro e w1 ⟨sa, sc, fa, fc, rfl, hs, hf, b1⟩
  have hb1 := b0.trans (b1.mono b0.size)
  have e1 : stockOf [7] = [1, 0, 7] := by decide +kernel
  have e2 : foilOf [7] = [1, 0, 8, 0] := by decide +kernel
  rw [e1] at hs ⊢
  rw [e2] at hf ⊢
  clear r1 b0 b1 e1 e2
  have HB := Lib.hid hb1; clear hb1
  go_wp2_with fail
  refine (join_ex1 w1).mono ?_
  rintro e w2 ⟨oa, oc, rfl, b2⟩
  have hb2 := HB.out.trans (b2.mono HB.out.size)
  have hs2 := hs.below b2
  have hf2 := hf.below b2
  have HB2 := Lib.hid hb2; clear hb2 b2 hs hf
  go_wp2_with fail
  refine (join_ex2 w2).mono ?_
  rintro e w3 ⟨oa3, oc3, rfl, b3⟩
  have hb3 := HB2.out.trans (b3.mono HB2.out.size)
  have hs3 := hs2.below b3
  have hf3 := hf2.below b3
  have HB3 := Lib.hid hb3; clear hb3 b3 hs2 hf2
  go_wp2_with fail
  refine (newStick_any w3).mono ?_
  rintro e w4 ⟨rfl, hst4, b4⟩
  have hz4 : w3.heap.size < w4.heap.size := hst4.lt _ rfl
  have B4 := Lib.hid b4; clear b4
  go_wp2_with fail
  have ba := (Below.refl w4.heap.size w4).alloc (Nat.le_refl _) (.cells #[.int .u8 7] 5)
  have hst5 := hst4.same (S := fun _ => False) (Same.of_below ba) (fun _ e => e.elim)
  refine (write_yes _ _ _ _ _ _ _ _ _ _ [7] hst5 (RdB.lit w4 [7] (by decide)) (by decide) (by decide) (by decide)).mono ?_
  rintro e w5 ⟨rfl, F5, hst5', hF5, hF5'⟩
  have e1 : ([] : List UInt8) ++ stockOf [7] = [1, 0, 7] := by decide +kernel
  have e2 : ([] : List UInt8) ++ foilOf [7] = [1, 0, 8, 0] := by decide +kernel
  rw [e1, e2] at hst5'
  have b5 : Below w3.heap.size w3 w5 := hF5.below (B4.out.trans (ba.mono (by omega))) (by simp; omega) (fun k hk => by omega)
  have hG5 : ∀ k, F5 k → w3.heap.size ≤ k := fun k hk => by
    rcases hF5' k hk with h | h
    · omega
    · simp at h; omega
  have B5 := Lib.hid b5; clear b5 hst5 ba hF5 hF5' hst4
  have G5 := Lib.hid hG5; clear hG5
  go_wp2_with fail
  refine (stick_ex w5 _ F5 hst5').mono ?_
  rintro e w6 ⟨rfl, F6, hst6, hF6, hF6'⟩
  have b6 : Below w3.heap.size w3 w6 := hF6.below B5.out B5.out.size G5.out
  have hs6 := hs3.below b6
  have hf6 := hf3.below b6
  have hb6 := HB3.out.trans (b6.mono HB3.out.size)
  have HB6 := Lib.hid hb6
  clear hb6 b6 hF6 hF6' hst5' hs3 hf3
  have c1 : (convert 41 9 (.slice sa 3 sc)).run Tryz.prog w6 = .ok (.string ⟨[1, 0, 7].toArray⟩) w6 := conv_bytes hs6
  have c2 : (convert 41 9 (.slice (some ⟨w6.heap.size, 0, none⟩) 3 3)).run Tryz.prog (w6.alloc (.cells #[.int .u8 1, .int .u8 0, .int .u8 7] 5)) = .ok (.string ⟨[1, 0, 7].toArray⟩) (w6.alloc (.cells #[.int .u8 1, .int .u8 0, .int .u8 7] 5)) := conv_bytes (RdB.lit w6 [1, 0, 7] (by decide))
  have ba := (Below.refl w6.heap.size w6).alloc (Nat.le_refl _) (.cells #[.int .u8 1, .int .u8 0, .int .u8 7] 5)
  have c3 : (convert 41 9 (.slice fa 4 fc)).run Tryz.prog (w6.alloc (.cells #[.int .u8 1, .int .u8 0, .int .u8 7] 5)) = .ok (.string ⟨[1, 0, 8, 0].toArray⟩) (w6.alloc (.cells #[.int .u8 1, .int .u8 0, .int .u8 7] 5)) := conv_bytes (hf6.below ba)
  have c4 : (convert 41 9 (.slice (some ⟨w6.heap.size + 1, 0, none⟩) 4 4)).run Tryz.prog ((w6.alloc (.cells #[.int .u8 1, .int .u8 0, .int .u8 7] 5)).alloc (.cells #[.int .u8 1, .int .u8 0, .int .u8 8, .int .u8 0] 5)) = .ok (.string ⟨[1, 0, 8, 0].toArray⟩) ((w6.alloc (.cells #[.int .u8 1, .int .u8 0, .int .u8 7] 5)).alloc (.cells #[.int .u8 1, .int .u8 0, .int .u8 8, .int .u8 0] 5)) := by
    have h := RdB.lit (w6.alloc (.cells #[.int .u8 1, .int .u8 0, .int .u8 7] 5)) [1, 0, 8, 0] (by decide)
    rw [World.size_alloc] at h
    exact conv_bytes h
  have bb := ba.alloc (by simp) (.cells #[.int .u8 1, .int .u8 0, .int .u8 8, .int .u8 0] 5)
  have hst7 := hst6.same (S := fun _ => False) (Same.of_below bb) (fun _ e => e.elim)
  have HST := Lib.hid hst7
  have HBB := Lib.hid bb
  clear hst6 hst7 hs6 hf6 ba bb
  go_wp2_with fail
  refine (tallies_ex _ _ _ HST.out).mono ?_
  rintro e w7 ⟨⟨oa7, oc7, rfl⟩, b7⟩
  have hb7 := HB6.out.trans ((HBB.out.trans (b7.mono HBB.out.size)).mono HB6.out.size)
  have HB7 := Lib.hid hb7
  clear hb7 b7
  go_wp2_with fail
  go_ret
  exact ⟨rfl, HB7.out⟩
end Go.Proofs.YtlnhppgfhkkidaaGreat
namespace Go.Proofs.YtlnhppgfhkkidaaGreat
open Go.RowKit
theorem within9_any (x lo hi : Int) (w : World) : Calls Tryz.prog 77 #[.int .i64 x, .int .i64 lo, .int .i64 hi] w fun e w' => e = .returned (.bool (inB x lo hi)) ∧ w = w' := by
  by_cases h1 : lo ≤ x
  · have t1 : decide (lo ≤ x) = true := by simp; omega
    by_cases h2 : x ≤ hi
    · have t2 : decide (x ≤ hi) = true := by simp; omega
      have t3 : inB x lo hi = true := inB_true.2 ⟨h1, h2⟩
      rw [t3]; clear t3
      go_enter Tryz.func77, Tryz.ntmps77
      go_wp2_with fail
      go_ret
      exact ⟨rfl, rfl⟩
    · have t2 : decide (x ≤ hi) = false := by simp; omega
      have t3 : inB x lo hi = false := inB_false.2 (fun h => h2 h.2)
      rw [t3]; clear t3
      go_enter Tryz.func77, Tryz.ntmps77
      go_wp2_with fail
      go_ret
      exact ⟨rfl, rfl⟩
  · have t1 : decide (lo ≤ x) = false := by simp; omega
    have t3 : inB x lo hi = false := inB_false.2 (fun h => h1 h.1)
    rw [t3]; clear t3
    go_enter Tryz.func77, Tryz.ntmps77
    go_wp2_with fail
    go_ret
    exact ⟨rfl, rfl⟩
theorem own_of_block {w : World} {base P : Nat} {l : List Int} {k : Nat} (h : w.heap[P]? = some (.cells (l.map intV).toArray 3 (0, 0))) (hk : l.length = k) (hb : base ≤ P) (hm : k ≤ maxLen) : w.ownsRow base 3 1 (.slice (some ⟨P, 0, none⟩) k k) k (l.map intV) := by
  refine ⟨by simp [hk], .inr ⟨P, k, _, rfl, hb, h, Nat.le_refl _, hm, by simp [hk], ?_⟩⟩
  rw [List.take_of_length_le (by simp [hk])]
theorem small_in {z : Int} (h : SmallZ z) : inB z (-4611686018427387904) 4611686018427387903 = true := by
  unfold SmallZ far at h
  rw [inB_true]
  omega
section
attribute [local go_sem] noteA_0
set_option maxHeartbeats 4000000 in
set_option maxRecDepth 100000 in
theorem inside_any (n : NoteV) (sa : Option Addr) (sc : Nat) (w : World) (hs : RdI w sa n.strokes.length sc n.strokes) (hsm : SmallN n) (hlen : n.strokes.length ≤ 1000000) :
    Calls Tryz.prog 126 #[.agg (noteA n sa sc)] w fun e w' => e = .returned (.bool true) ∧ Below w.heap.size w w' := by
  have I43 := Lib.hid (show ∀ (m : NoteV) (a : Option Addr) (c : Nat), (Tryz.prog.info? 47).map (·.size) = some (noteA m a c).size from fun m a c => by kernel_rfl)
  have hlast := heap_last w (.cells (noteA n sa sc) 47)
  have bb : Below w.heap.size w (w.alloc (.cells (noteA n sa sc) 47)) := (Below.refl _ _).alloc (Nat.le_refl _) _
  have hlt : w.heap.size < (w.alloc (.cells (noteA n sa sc) 47)).heap.size := by simp
  have H0 := Lib.hid (And.intro hlast (And.intro bb hlt)); clear hlast bb hlt
  go_enter Tryz.func126, Tryz.ntmps126
  go_upto_region 1 with fail
  generalize w.alloc (.cells (noteA n sa sc) 47) = w0 at *
  obtain ⟨base, hbase⟩ : ∃ base, Hid (w.heap.size = base) := ⟨_, Lib.hid rfl⟩
  rw [hbase.out]
  rw [hbase.out] at H0
  go_wp2_with (refine wpList_load_row rfl 47 _ rfl base rfl 47 (noteA n sa sc) (0, 0) _ H0.out.1 Tryz.underlying47 rfl (I43.out _ _ _) ?_)
  refine (rfields_any n sa sc w0).mono ?_
  rintro e wf ⟨P, Q, rfl, g1, g2, g3, g4, b1⟩
  have hlb := Nat.le_of_lt H0.out.2.2
  have BF := Lib.hid (H0.out.2.1.trans (b1.mono hlb))
  have hn1 := (b1.block _ H0.out.2.2).trans H0.out.1
  have hPQ : Q ≠ P := by
    intro e
    rw [e] at g2
    rw [g1] at g2
    simp only [Option.some.injEq, Obj.cells.injEq] at g2
    have := congrArg Array.size g2.1
    simp [aheadN, behindN] at this
  have OW := Lib.hid (own_of_block (base := base) g1 (k := 15) rfl (Nat.le_trans hlb g3) (by unfold maxLen; omega))
  have OQ := Lib.hid (And.intro hPQ (And.intro (own_of_block (base := base) g2 (k := 3) rfl (Nat.le_trans hlb g4) (by unfold maxLen; omega)) (Array.getElem?_eq_some_iff.1 g2).1))
  have e15 : wf.cell? ⟨base, 15, none⟩ = some (.slice sa n.strokes.length sc) := cell_of hn1 15 _ rfl
  have hbw : base ≤ wf.heap.size := Nat.le_trans hlb b1.size
  have RS1 := Lib.hid (show RdI wf sa n.strokes.length sc n.strokes from hs.below (by rw [hbase.out]; exact BF.out))
  have hln : n.strokes.length ≤ 1000000 := hlen
  obtain ⟨ln, hlnn⟩ : ∃ ln, Hid (n.strokes.length = ln) := ⟨_, Lib.hid rfl⟩
  rw [hlnn.out] at RS1 e15 hln
  clear g1 g2 g3 g4 b1 H0 hn1 hPQ hlb
  go_wp2_with (first
    | (at_builtin; refine app_ints _ rfl _ _ rfl base _ _ _ (aheadN n) rfl OW.out _ _ _ n.strokes rfl RS1.out (by omega) hbw ?_; intro a1 c1 w1 h1 k1; have O1 := Lib.hid h1; have G1 := Lib.hid k1; have hbw1 : base ≤ w1.heap.size := Nat.le_trans hbw G1.out.size; have RQ := Lib.hid (show RdI w1 (some ⟨Q, 0, none⟩) 3 3 (behindN n) from RdA.of_cells (RdA.of_own OQ.out.2.1) (fun b ⟨off, hb⟩ hlt => by cases hb; exact G1.out.block _ hlt (fun e => by cases e; exact OQ.out.1 rfl))); clear h1 k1)
    | (at_builtin; refine app_ints _ rfl _ _ rfl base _ _ _ (aheadN n ++ n.strokes) rfl O1.out _ _ _ (behindN n) rfl RQ.out (by omega) hbw1 ?_; intro a2 c2 w2 h2 k2; have O2 := Lib.hid h2; have B2 := Lib.hid ((BF.out.grown G1.out hbw (fun q hq => (OW.out.lt q hq).1)).grown k2 hbw1 (fun q hq => (O1.out.lt q hq).1)); clear h2 k2))
  have SM := Lib.hid (show ∀ z ∈ aheadN n ++ n.strokes ++ behindN n, SmallZ z from fun z hz => by
    rcases List.mem_append.1 hz with hz | hz
    · rcases List.mem_append.1 hz with hz | hz
      · exact hsm.1 z hz
      · exact hsm.2.1 z hz
    · exact hsm.2.2.1 z hz)
  have LL : Hid ((aheadN n ++ n.strokes ++ behindN n).length = 15 + ln + 3) := Lib.hid (by rw [List.length_append, List.length_append, hlnn.out]; rfl)
  obtain ⟨X, hX⟩ : ∃ X, Hid (X = aheadN n ++ n.strokes ++ behindN n) := ⟨_, Lib.hid rfl⟩
  obtain ⟨L, hL⟩ : ∃ L, Hid (15 + ln + 3 = L) := ⟨_, Lib.hid rfl⟩
  rw [← hX.out] at SM LL O2
  rw [hL.out] at LL O2 ⊢
  have hL63 : (L : Int) ≤ 9223372036854775807 := by have := hL.out; omega
  have RX := Lib.hid (RdA.of_own O2.out)
  clear OW OQ O1 G1 RQ RS1 e15 hbw1 hbw
  go_loopw [6] (fun i wr => ∃ k : Nat, i = .int .i64 k ∧ k ≤ L ∧ Hid (w2 = wr)) (fun i _ => L - (intOf i).toNat)
  case atStart => exact ⟨0, rfl, Nat.zero_le _, Lib.hid rfl⟩
  case round =>
    obtain ⟨k, rfl, hk, HE⟩ := hrel
    have := HE.out
    subst this
    by_cases hlt : k < L
    · obtain ⟨b, off, rfl, hc⟩ := RdI.at RX.out (by omega)
      have e1 := hc k hlt
      have hin := small_in (SM.out (X[k]?.getD 0) (by rw [List.getElem?_eq_getElem (by rw [LL.out]; exact hlt), Option.getD_some]; exact List.getElem_mem _))
      have HIN := Lib.hid hin; clear hin
      generalize X[k]?.getD 0 = z at *
      clear hc
      go_wp2_with fail
      refine (within9_any z (-4611686018427387904) 4611686018427387903 w2).mono ?_
      rintro e w' ⟨rfl, rfl⟩
      rw [HIN.out]
      go_wp2_with fail
      go_roundw
      case rel => exact ⟨k + 1, by go_num, by omega, Lib.hid (by trivial)⟩
      case measure => simp [intOf]; omega
    · have hkn : k = L := by omega
      subst hkn
      go_wp2_with fail
      go_ret
      exact ⟨rfl, by rw [hbase.out]; exact B2.out⟩
end
end Go.Proofs.YtlnhppgfhkkidaaGreat
namespace Go.Proofs.YtlnhppgfhkkidaaGreat
set_option linter.unusedSimpArgs false
open Go.RowKit
structure TwoN (w W : World) (p q : Nat) (x : NoteV) (sa : Option Addr) (sc : Nat) (ta : Option Addr) (tc : Nat) : Prop where
  e1 : W.heap[p]? = some (.cells (noteA x sa sc) 47 (0, 0))
  e2 : W.heap[q]? = some (.cells (noteA x ta tc) 47 (0, 0))
  b : Below p w W
  lt : p < q
theorem TwoN.below {w W W' : World} {p q : Nat} {x : NoteV} {sa ta : Option Addr} {sc tc : Nat} (h : TwoN w W p q x sa sc ta tc) (hb : Below W.heap.size W W') : TwoN w W' p q x sa sc ta tc := by
  have g : ∀ {k : Nat} {o : Obj}, W.heap[k]? = some o → W'.heap[k]? = some o := fun {k o} hk => (hb.block k (Array.getElem?_eq_some_iff.1 hk).1).trans hk
  have h0 := (Array.getElem?_eq_some_iff.1 h.e1).1
  exact ⟨g h.e1, g h.e2, h.b.trans (hb.mono (by omega)), h.lt⟩
theorem yields_row {P : Program} {ops : Array Oper} {S : World → Prop} {op : Oper} {a : Act} (hw : Region.wanted op (yielded ops a.tmps) = true) (ty : TypeId) (x : Operand) (ho : op.op = .load ty x)
    (b : Nat) (hx : a.eval x = .pointer (some ⟨b, 0, none⟩)) (cs : Array Value) (t : TypeId) (fr : Nat × Nat) (d : TypeDesc) (hS : ∀ w, S w → w.heap[b]? = some (.cells cs t fr))
    (hu : P.underlying ty = some d) (hd : (match d with | .struct _ | .array _ _ => true | _ => false) = true) (hi : (P.info? ty).map (·.size) = some cs.size) : YieldsIf P ops S op (.agg cs) a :=
  .inl ⟨hw, fun w hw' => by
    unfold execOp
    simp only [ho, hx, Instr.loadAt, Instr.sureAddr, Sem.run_bind, Sem.run_pure, Result.andThen_ok, run_loadVar_row w b t ty cs fr d (hS w hw') hu hd hi]⟩
section
attribute [local go_sem] noteA_0
set_option maxHeartbeats 8000000 in
set_option maxRecDepth 100000 in
theorem snote_any (x : NoteV) (sa : Option Addr) (sc : Nat) (ta : Option Addr) (tc : Nat) (w : World) (hx : RdI w sa x.strokes.length sc x.strokes) (hy : RdI w ta x.strokes.length tc x.strokes) (hsm : SmallN x) (hlen : x.strokes.length ≤ 1000000) :
    Calls Tryz.prog 70 #[.agg (noteA x sa sc), .agg (noteA x ta tc)] w fun e w' => e = .returned (.bool true) ∧ Below w.heap.size w w' := by
  have I43 := Lib.hid (show ∀ (m : NoteV) (a : Option Addr) (c : Nat), (Tryz.prog.info? 47).map (·.size) = some (noteA m a c).size from fun m a c => by kernel_rfl)
  have g1 := heap_before _ (.cells (noteA x ta tc) 47) _ _ (heap_last w (.cells (noteA x sa sc) 47))
  have g2 := heap_at (w.alloc (.cells (noteA x sa sc) 47)) (.cells (noteA x ta tc) 47) (w.heap.size + 1) (by simp)
  have bb : Below w.heap.size w ((w.alloc (.cells (noteA x sa sc) 47)).alloc (.cells (noteA x ta tc) 47)) := ((Below.refl _ _).alloc (Nat.le_refl _) _).alloc (by simp) _
  have T0 : Hid (TwoN w ((w.alloc (.cells (noteA x sa sc) 47)).alloc (.cells (noteA x ta tc) 47)) w.heap.size (w.heap.size + 1) x sa sc ta tc) := Lib.hid ⟨g1, g2, bb, by omega⟩
  clear g1 g2 bb
  go_enter Tryz.func70, Tryz.ntmps70
  go_upto_region 1 with fail
  generalize (w.alloc (.cells (noteA x sa sc) 47)).alloc (.cells (noteA x ta tc) 47) = W0 at *
  obtain ⟨p, hp⟩ : ∃ p, Hid (w.heap.size = p) := ⟨_, Lib.hid rfl⟩
  obtain ⟨q, hq⟩ : ∃ q, Hid (w.heap.size + 1 = q) := ⟨_, Lib.hid rfl⟩
  rw [hq.out, hp.out] at T0
  rw [hq.out, hp.out]
  have RX := Lib.hid (show ∀ W, Below p w W → RdI W sa x.strokes.length sc x.strokes from fun W h => hx.below (by rw [hp.out]; exact h))
  have RY := Lib.hid (show ∀ W, Below p w W → RdI W ta x.strokes.length tc x.strokes from fun W h => hy.below (by rw [hp.out]; exact h))
  have T0d := Lib.hid (T0.out.below (Below.refl W0.heap.size W0).drew)
  obtain ⟨E, hE⟩ : ∃ E, Hid (E = encN x) := ⟨_, Lib.hid rfl⟩
  have EX := Lib.hid (fun W (h : TwoN w W p q x sa sc ta tc) => rencd_any x sa sc W (RX.out _ h.b) hsm hlen)
  have EY := Lib.hid (fun W (h : TwoN w W p q x sa sc ta tc) => rencd_any x ta tc W (RY.out _ h.b) hsm hlen)
  have IX := Lib.hid (fun W (h : TwoN w W p q x sa sc ta tc) => inside_any x sa sc W (RX.out _ h.b) hsm hlen)
  have IY := Lib.hid (fun W (h : TwoN w W p q x sa sc ta tc) => inside_any x ta tc W (RY.out _ h.b) hsm hlen)
  rw [← hE.out] at EX EY
  clear hx hy
  refine wp_region_noPanic ?_
  refine wp_region_held_drew (S := fun w' => TwoN w w' p q x sa sc ta tc) (by kernel_rfl) T0d.out (fun hHeld => ?_)
  refine wpAnyH_take (i := 0) (v := .agg (noteA x sa sc)) rfl (by kernel_rfl) (by kernel_rfl) (by kernel_rfl) (fun _ _ _ h => h) (yields_row (by rfl) 47 _ rfl p rfl _ 47 (0, 0) _ (fun W h => h.e1) Tryz.underlying47 rfl (I43.out _ _ _)) (by assumption) ?_
  try simp only [Act.put, lq3, lq4, lq5]
  refine wpAnyH_take (i := 3) (v := .agg (noteA x ta tc)) rfl (by kernel_rfl) (by kernel_rfl) (by kernel_rfl) (fun _ _ _ h => h) (yields_row (by rfl) 47 _ rfl q rfl _ 47 (0, 0) _ (fun W h => h.e2) Tryz.underlying47 rfl (I43.out _ _ _)) (by assumption) ?_
  try simp only [Act.put, lq3, lq4, lq5]
  refine wpAnyH_ready (rs := [1]) (by kernel_rfl) (by simp) ?_
  refine AllReadyH.cons rfl (fun K hK => ?_) AllReadyH.nil
  go_simp
  go_at_call 125
  refine (EX.out _ T0d.out).mono ?_
  rintro e wX ⟨aX, cX, rfl, hX, bX⟩
  have TX := Lib.hid (T0d.out.below bX)
  have cvX := conv_bytes (RdB.of_own hX)
  have HX := Lib.hid hX; clear hX bX
  dsimp only
  refine hK.out _ _ TX.out (fun hHeld => ?_)
  clear hK K
  try simp only [Act.put, lq3, lq4, lq5]
  refine wpAnyH_ready (rs := [2, 4]) (by kernel_rfl) (by simp) ?_
  refine AllReadyH.cons rfl (fun K hK => ?_) ?_
  · go_simp
    refine hK.out _ _ TX.out (fun hHeld => ?_)
    clear hK K
    try simp only [Act.put, lq3, lq4, lq5]
    refine wpAnyH_ready (rs := [4]) (by kernel_rfl) (by simp) ?_
    refine AllReadyH.cons rfl (fun K hK => ?_) AllReadyH.nil
    go_simp
    go_at_call 125
    refine (EY.out _ TX.out).mono ?_
    rintro e wY ⟨aY, cY, rfl, hY, bY⟩
    have TY := Lib.hid (TX.out.below bY)
    have cvY := conv_bytes (RdB.of_own hY)
    have cvX2 := conv_bytes (RdB.below (RdB.of_own HX.out) bY); clear hY bY
    dsimp only
    refine hK.out _ _ TY.out (fun hHeld => ?_)
    clear hK K
    try simp only [Act.put, lq3, lq4, lq5]
    refine wpAnyH_ready (rs := [5]) (by kernel_rfl) (by simp) ?_
    refine AllReadyH.cons rfl (fun K hK => ?_) AllReadyH.nil
    go_simp
    refine hK.out _ _ TY.out (fun hHeld => ?_)
    clear hK K
    try simp only [Act.put, lq3, lq4, lq5]
    refine wpAnyH_take (i := 6) (v := .bool true) rfl (by kernel_rfl) (by kernel_rfl) (by kernel_rfl) (fun _ _ _ h => h) (Or.inl ⟨by rfl, by intro W _; go_simp⟩) (by assumption) ?_
    try simp only [Act.put, lq3, lq4, lq5]
    refine wpAnyH_take (i := 7) (v := .bool true) rfl (by kernel_rfl) (by kernel_rfl) (by kernel_rfl) (fun _ _ _ h => h) (Or.inl ⟨by rfl, by intro W _; go_simp⟩) (by assumption) ?_
    try simp only [Act.put, lq3, lq4, lq5]
    refine wpAnyH_take (i := 8) (v := .agg (noteA x sa sc)) rfl (by kernel_rfl) (by kernel_rfl) (by kernel_rfl) (fun _ _ _ h => h) (yields_row (by rfl) 47 _ rfl p rfl _ 47 (0, 0) _ (fun W h => h.e1) Tryz.underlying47 rfl (I43.out _ _ _)) (by assumption) ?_
    try simp only [Act.put, lq3, lq4, lq5]
    refine wpAnyH_take (i := 10) (v := .agg (noteA x ta tc)) rfl (by kernel_rfl) (by kernel_rfl) (by kernel_rfl) (fun _ _ _ h => h) (yields_row (by rfl) 47 _ rfl q rfl _ 47 (0, 0) _ (fun W h => h.e2) Tryz.underlying47 rfl (I43.out _ _ _)) (by assumption) ?_
    try simp only [Act.put, lq3, lq4, lq5]
    refine wpAnyH_ready (rs := [9]) (by kernel_rfl) (by simp) ?_
    refine AllReadyH.cons rfl (fun K hK => ?_) AllReadyH.nil
    go_simp
    go_at_call 126
    refine (IX.out _ TY.out).mono ?_
    rintro e wI ⟨rfl, bI⟩
    have TI := Lib.hid (TY.out.below bI); clear bI
    dsimp only
    refine hK.out _ _ TI.out (fun hHeld => ?_)
    clear hK K
    try simp only [Act.put, lq3, lq4, lq5]
    refine wpAnyH_ready (rs := [11]) (by kernel_rfl) (by simp) ?_
    refine AllReadyH.cons rfl (fun K hK => ?_) AllReadyH.nil
    go_simp
    go_at_call 126
    refine (IY.out _ TI.out).mono ?_
    rintro e wJ ⟨rfl, bJ⟩
    have TJ := Lib.hid (TI.out.below bJ); clear bJ
    dsimp only
    refine hK.out _ _ TJ.out (fun hHeld => ?_)
    clear hK K
    try simp only [Act.put, lq3, lq4, lq5]
    refine wpAnyH_take (i := 12) (v := .bool true) rfl (by kernel_rfl) (by kernel_rfl) (by kernel_rfl) (fun _ _ _ h => h) (Or.inl ⟨by rfl, by intro W _; go_simp⟩) (by assumption) ?_
    try simp only [Act.put, lq3, lq4, lq5]
    refine wpAnyH_take (i := 13) (v := .bool true) rfl (by kernel_rfl) (by kernel_rfl) (by kernel_rfl) (fun _ _ _ h => h) (Or.inl ⟨by rfl, by intro W _; go_simp⟩) (by assumption) ?_
    try simp only [Act.put, lq3, lq4, lq5]
    refine wpAnyH_take (i := 14) (v := .bool true) rfl (by kernel_rfl) (by kernel_rfl) (by kernel_rfl) (fun _ _ _ h => h) (Or.inl ⟨by rfl, by intro W _; go_simp⟩) (by assumption) ?_
    try simp only [Act.put, lq3, lq4, lq5]
    refine wpAnyH_done (by kernel_rfl) ?_ _
    refine NoPanic.normal ?_
    change Exit.then _ _ Exit.normal { tmps := #[.agg (noteA x sa sc), .agg (noteA x ta tc), .pointer (some ⟨p, 0, none⟩), .pointer (some ⟨q, 0, none⟩), .bool true, .agg (noteA x sa sc), .slice aX E.length cX, .string { data := E.toArray }, .agg (noteA x ta tc), .slice aY E.length cY, .string { data := E.toArray }, .bool true, .bool true, .agg (noteA x sa sc), .bool true, .agg (noteA x ta tc), .bool true, .bool true, .bool true], defers := [] } _
    go_wp2_with fail
    go_ret
    exact ⟨rfl, by rw [hp.out]; exact TJ.out.b⟩
  refine AllReadyH.cons rfl (fun K hK => ?_) AllReadyH.nil
  go_simp
  go_at_call 125
  refine (EY.out _ TX.out).mono ?_
  rintro e wY ⟨aY, cY, rfl, hY, bY⟩
  have TY := Lib.hid (TX.out.below bY)
  have cvY := conv_bytes (RdB.of_own hY)
  have cvX2 := conv_bytes (RdB.below (RdB.of_own HX.out) bY); clear hY bY
  dsimp only
  refine hK.out _ _ TY.out (fun hHeld => ?_)
  clear hK K
  try simp only [Act.put, lq3, lq4, lq5]
  refine wpAnyH_ready (rs := [2, 5]) (by kernel_rfl) (by simp) ?_
  refine AllReadyH.cons rfl (fun K hK => ?_) ?_
  · go_simp
    refine hK.out _ _ TY.out (fun hHeld => ?_)
    clear hK K
    try simp only [Act.put, lq3, lq4, lq5]
    refine wpAnyH_ready (rs := [5]) (by kernel_rfl) (by simp) ?_
    refine AllReadyH.cons rfl (fun K hK => ?_) AllReadyH.nil
    go_simp
    refine hK.out _ _ TY.out (fun hHeld => ?_)
    clear hK K
    try simp only [Act.put, lq3, lq4, lq5]
    refine wpAnyH_take (i := 6) (v := .bool true) rfl (by kernel_rfl) (by kernel_rfl) (by kernel_rfl) (fun _ _ _ h => h) (Or.inl ⟨by rfl, by intro W _; go_simp⟩) (by assumption) ?_
    try simp only [Act.put, lq3, lq4, lq5]
    refine wpAnyH_take (i := 7) (v := .bool true) rfl (by kernel_rfl) (by kernel_rfl) (by kernel_rfl) (fun _ _ _ h => h) (Or.inl ⟨by rfl, by intro W _; go_simp⟩) (by assumption) ?_
    try simp only [Act.put, lq3, lq4, lq5]
    refine wpAnyH_take (i := 8) (v := .agg (noteA x sa sc)) rfl (by kernel_rfl) (by kernel_rfl) (by kernel_rfl) (fun _ _ _ h => h) (yields_row (by rfl) 47 _ rfl p rfl _ 47 (0, 0) _ (fun W h => h.e1) Tryz.underlying47 rfl (I43.out _ _ _)) (by assumption) ?_
    try simp only [Act.put, lq3, lq4, lq5]
    refine wpAnyH_take (i := 10) (v := .agg (noteA x ta tc)) rfl (by kernel_rfl) (by kernel_rfl) (by kernel_rfl) (fun _ _ _ h => h) (yields_row (by rfl) 47 _ rfl q rfl _ 47 (0, 0) _ (fun W h => h.e2) Tryz.underlying47 rfl (I43.out _ _ _)) (by assumption) ?_
    try simp only [Act.put, lq3, lq4, lq5]
    refine wpAnyH_ready (rs := [9]) (by kernel_rfl) (by simp) ?_
    refine AllReadyH.cons rfl (fun K hK => ?_) AllReadyH.nil
    go_simp
    go_at_call 126
    refine (IX.out _ TY.out).mono ?_
    rintro e wI ⟨rfl, bI⟩
    have TI := Lib.hid (TY.out.below bI); clear bI
    dsimp only
    refine hK.out _ _ TI.out (fun hHeld => ?_)
    clear hK K
    try simp only [Act.put, lq3, lq4, lq5]
    refine wpAnyH_ready (rs := [11]) (by kernel_rfl) (by simp) ?_
    refine AllReadyH.cons rfl (fun K hK => ?_) AllReadyH.nil
    go_simp
    go_at_call 126
    refine (IY.out _ TI.out).mono ?_
    rintro e wJ ⟨rfl, bJ⟩
    have TJ := Lib.hid (TI.out.below bJ); clear bJ
    dsimp only
    refine hK.out _ _ TJ.out (fun hHeld => ?_)
    clear hK K
    try simp only [Act.put, lq3, lq4, lq5]
    refine wpAnyH_take (i := 12) (v := .bool true) rfl (by kernel_rfl) (by kernel_rfl) (by kernel_rfl) (fun _ _ _ h => h) (Or.inl ⟨by rfl, by intro W _; go_simp⟩) (by assumption) ?_
    try simp only [Act.put, lq3, lq4, lq5]
    refine wpAnyH_take (i := 13) (v := .bool true) rfl (by kernel_rfl) (by kernel_rfl) (by kernel_rfl) (fun _ _ _ h => h) (Or.inl ⟨by rfl, by intro W _; go_simp⟩) (by assumption) ?_
    try simp only [Act.put, lq3, lq4, lq5]
    refine wpAnyH_take (i := 14) (v := .bool true) rfl (by kernel_rfl) (by kernel_rfl) (by kernel_rfl) (fun _ _ _ h => h) (Or.inl ⟨by rfl, by intro W _; go_simp⟩) (by assumption) ?_
    try simp only [Act.put, lq3, lq4, lq5]
    refine wpAnyH_done (by kernel_rfl) ?_ _
    refine NoPanic.normal ?_
    change Exit.then _ _ Exit.normal { tmps := #[.agg (noteA x sa sc), .agg (noteA x ta tc), .pointer (some ⟨p, 0, none⟩), .pointer (some ⟨q, 0, none⟩), .bool true, .agg (noteA x sa sc), .slice aX E.length cX, .string { data := E.toArray }, .agg (noteA x ta tc), .slice aY E.length cY, .string { data := E.toArray }, .bool true, .bool true, .agg (noteA x sa sc), .bool true, .agg (noteA x ta tc), .bool true, .bool true, .bool true], defers := [] } _
    go_wp2_with fail
    go_ret
    exact ⟨rfl, by rw [hp.out]; exact TJ.out.b⟩
  refine AllReadyH.cons rfl (fun K hK => ?_) AllReadyH.nil
  go_simp
  refine hK.out _ _ TY.out (fun hHeld => ?_)
  clear hK K
  try simp only [Act.put, lq3, lq4, lq5]
  refine wpAnyH_ready (rs := [2]) (by kernel_rfl) (by simp) ?_
  refine AllReadyH.cons rfl (fun K hK => ?_) AllReadyH.nil
  go_simp
  refine hK.out _ _ TY.out (fun hHeld => ?_)
  clear hK K
  try simp only [Act.put, lq3, lq4, lq5]
  refine wpAnyH_take (i := 6) (v := .bool true) rfl (by kernel_rfl) (by kernel_rfl) (by kernel_rfl) (fun _ _ _ h => h) (Or.inl ⟨by rfl, by intro W _; go_simp⟩) (by assumption) ?_
  try simp only [Act.put, lq3, lq4, lq5]
  refine wpAnyH_take (i := 7) (v := .bool true) rfl (by kernel_rfl) (by kernel_rfl) (by kernel_rfl) (fun _ _ _ h => h) (Or.inl ⟨by rfl, by intro W _; go_simp⟩) (by assumption) ?_
  try simp only [Act.put, lq3, lq4, lq5]
  refine wpAnyH_take (i := 8) (v := .agg (noteA x sa sc)) rfl (by kernel_rfl) (by kernel_rfl) (by kernel_rfl) (fun _ _ _ h => h) (yields_row (by rfl) 47 _ rfl p rfl _ 47 (0, 0) _ (fun W h => h.e1) Tryz.underlying47 rfl (I43.out _ _ _)) (by assumption) ?_
  try simp only [Act.put, lq3, lq4, lq5]
  refine wpAnyH_take (i := 10) (v := .agg (noteA x ta tc)) rfl (by kernel_rfl) (by kernel_rfl) (by kernel_rfl) (fun _ _ _ h => h) (yields_row (by rfl) 47 _ rfl q rfl _ 47 (0, 0) _ (fun W h => h.e2) Tryz.underlying47 rfl (I43.out _ _ _)) (by assumption) ?_
  try simp only [Act.put, lq3, lq4, lq5]
  refine wpAnyH_ready (rs := [9]) (by kernel_rfl) (by simp) ?_
  refine AllReadyH.cons rfl (fun K hK => ?_) AllReadyH.nil
  go_simp
  go_at_call 126
  refine (IX.out _ TY.out).mono ?_
  rintro e wI ⟨rfl, bI⟩
  have TI := Lib.hid (TY.out.below bI); clear bI
  dsimp only
  refine hK.out _ _ TI.out (fun hHeld => ?_)
  clear hK K
  try simp only [Act.put, lq3, lq4, lq5]
  refine wpAnyH_ready (rs := [11]) (by kernel_rfl) (by simp) ?_
  refine AllReadyH.cons rfl (fun K hK => ?_) AllReadyH.nil
  go_simp
  go_at_call 126
  refine (IY.out _ TI.out).mono ?_
  rintro e wJ ⟨rfl, bJ⟩
  have TJ := Lib.hid (TI.out.below bJ); clear bJ
  dsimp only
  refine hK.out _ _ TJ.out (fun hHeld => ?_)
  clear hK K
  try simp only [Act.put, lq3, lq4, lq5]
  refine wpAnyH_take (i := 12) (v := .bool true) rfl (by kernel_rfl) (by kernel_rfl) (by kernel_rfl) (fun _ _ _ h => h) (Or.inl ⟨by rfl, by intro W _; go_simp⟩) (by assumption) ?_
  try simp only [Act.put, lq3, lq4, lq5]
  refine wpAnyH_take (i := 13) (v := .bool true) rfl (by kernel_rfl) (by kernel_rfl) (by kernel_rfl) (fun _ _ _ h => h) (Or.inl ⟨by rfl, by intro W _; go_simp⟩) (by assumption) ?_
  try simp only [Act.put, lq3, lq4, lq5]
  refine wpAnyH_take (i := 14) (v := .bool true) rfl (by kernel_rfl) (by kernel_rfl) (by kernel_rfl) (fun _ _ _ h => h) (Or.inl ⟨by rfl, by intro W _; go_simp⟩) (by assumption) ?_
  try simp only [Act.put, lq3, lq4, lq5]
  refine wpAnyH_done (by kernel_rfl) ?_ _
  refine NoPanic.normal ?_
  change Exit.then _ _ Exit.normal { tmps := #[.agg (noteA x sa sc), .agg (noteA x ta tc), .pointer (some ⟨p, 0, none⟩), .pointer (some ⟨q, 0, none⟩), .bool true, .agg (noteA x sa sc), .slice aX E.length cX, .string { data := E.toArray }, .agg (noteA x ta tc), .slice aY E.length cY, .string { data := E.toArray }, .bool true, .bool true, .agg (noteA x sa sc), .bool true, .agg (noteA x ta tc), .bool true, .bool true, .bool true], defers := [] } _
  go_wp2_with fail
  go_ret
  exact ⟨rfl, by rw [hp.out]; exact TJ.out.b⟩
end
end Go.Proofs.YtlnhppgfhkkidaaGreat
namespace Go.Proofs.YtlnhppgfhkkidaaGreat
set_option linter.unusedSimpArgs false
open Go.RowKit

def cmpI (x y : Int) : Int := if x < y then -1 else if y < x then 1 else 0
def orI (x y : Int) : Int := if x = 0 then y else x
def namesC (h m h' m' : Int) : Int := orI (cmpI h h') (cmpI m m')
def knownC (x y : NoteV) : Int := orI (cmpI x.clock y.clock) (namesC x.house x.num y.house y.num)
def whenC (x y : NoteV) : Int := orI (cmpI x.day y.day) (knownC x y)
def doneB (n : NoteV) : Bool := inB n.kind 1 4
def judgesB (x r : NoteV) : Bool := decide (x.kind = 6) || (decide (x.kind = 5) && (!decide (x.fix = 2) || decide (r.kind = 2)))
theorem isNaN_any (x : Int) (w : World) : Calls Tryz.prog 206 #[.int .i64 x] w fun e w' => e = .returned (.bool false) ∧ w' = w := by
  have h : (x != x) = false := by simp
  go_enter Tryz.func206, Tryz.ntmps206
  go_wp2_with fail
  go_ret
  exact ⟨rfl, rfl⟩
theorem compare_any (x y : Int) (w : World) : Calls Tryz.prog 173 #[.int .i64 x, .int .i64 y] w fun e w' => e = .returned (.int .i64 (cmpI x y)) ∧ w' = w := by
  have K : ∀ {v : Int}, cmpI x y = v → Hid (cmpI x y = v) := fun h => Lib.hid h
  by_cases h1 : x < y
  · have HK := K (if_pos h1)
    have t1 : decide (x < y) = true := by simp [h1]
    go_enter Tryz.func173, Tryz.ntmps173
    go_wp2_with fail
    refine (isNaN_any x w).mono ?_
    rintro e w1 ⟨rfl, rfl⟩
    go_wp2_with fail
    refine (isNaN_any y _).mono ?_
    rintro e w1 ⟨rfl, rfl⟩
    go_wp2_with fail
    go_ret
    rw [HK.out]
    exact ⟨rfl, rfl⟩
  · have t1 : decide (x < y) = false := by simp; omega
    by_cases h2 : y < x
    · have HK := K ((if_neg h1).trans (if_pos h2))
      have t2 : decide (y < x) = true := by simp [h2]
      go_enter Tryz.func173, Tryz.ntmps173
      go_wp2_with fail
      refine (isNaN_any x w).mono ?_
      rintro e w1 ⟨rfl, rfl⟩
      go_wp2_with fail
      refine (isNaN_any y _).mono ?_
      rintro e w1 ⟨rfl, rfl⟩
      go_wp2_with fail
      go_ret
      rw [HK.out]
      exact ⟨rfl, rfl⟩
    · have HK := K ((if_neg h1).trans (if_neg h2))
      have t2 : decide (y < x) = false := by simp; omega
      go_enter Tryz.func173, Tryz.ntmps173
      go_wp2_with fail
      refine (isNaN_any x w).mono ?_
      rintro e w1 ⟨rfl, rfl⟩
      go_wp2_with fail
      refine (isNaN_any y _).mono ?_
      rintro e w1 ⟨rfl, rfl⟩
      go_wp2_with fail
      go_ret
      rw [HK.out]
      exact ⟨rfl, rfl⟩
set_option maxHeartbeats 2000000 in
theorem or_two (b : Nat) (x y : Int) (w : World) (h : w.heap[b]? = some (.cells #[.int .i64 x, .int .i64 y] 3 (0, 0))) : Calls Tryz.prog 172 #[.slice (some ⟨b, 0, none⟩) 2 2] w fun e w' => e = .returned (.int .i64 (orI x y)) ∧ w' = w := by
  have c0 : w.cell? ⟨b, 0, none⟩ = some (.int .i64 x) := cell_of h 0 _ rfl
  have c1 : w.cell? ⟨b, 1, none⟩ = some (.int .i64 y) := cell_of h 1 _ rfl
  go_enter Tryz.func172, Tryz.ntmps172
  go_wp2_with fail
  go_loopw [5, 8] (fun _ i wr => ((i = .int .i64 0) ∨ (i = .int .i64 1 ∧ Hid (x = 0)) ∨ (i = .int .i64 2 ∧ Hid (x = 0 ∧ y = 0))) ∧ Hid (w = wr)) (fun _ i _ => 2 - (intOf i).toNat)
  case atStart => exact ⟨.inl rfl, Lib.hid rfl⟩
  case round =>
    obtain ⟨hr, HE⟩ := hrel
    have := HE.out
    subst this
    rcases hr with rfl | ⟨rfl, hx⟩ | ⟨rfl, hx⟩
    · by_cases h0 : x = 0
      · have t0 : (x != 0) = false := by simp [h0]
        have H0 := Lib.hid h0; clear h0
        go_wp2_with fail
        go_roundw
        case rel => exact ⟨.inr (.inl ⟨rfl, H0⟩), Lib.hid (by trivial)⟩
        case measure => simp [intOf]
      · have t0 : (x != 0) = true := by simp [h0]
        have H0 := Lib.hid (show orI x y = x from if_neg h0); clear h0
        go_wp2_with fail
        go_ret
        rw [H0.out]
        exact ⟨rfl, rfl⟩
    · by_cases h0 : y = 0
      · have t0 : (y != 0) = false := by simp [h0]
        have H0 := Lib.hid (show x = 0 ∧ y = 0 from ⟨hx.out, h0⟩); clear h0
        go_wp2_with fail
        go_roundw
        case rel => exact ⟨.inr (.inr ⟨rfl, H0⟩), Lib.hid (by trivial)⟩
        case measure => simp [intOf]
      · have t0 : (y != 0) = true := by simp [h0]
        have H0 := Lib.hid (show orI x y = y from if_pos hx.out); clear h0
        go_wp2_with fail
        go_ret
        rw [H0.out]
        exact ⟨rfl, rfl⟩
    · have H0 := Lib.hid (show orI x y = 0 by rw [orI, if_pos hx.out.1]; exact hx.out.2)
      go_wp2_with fail
      go_ret
      rw [H0.out]
      exact ⟨rfl, rfl⟩
end Go.Proofs.YtlnhppgfhkkidaaGreat
namespace Go.Proofs.YtlnhppgfhkkidaaGreat
set_option linter.unusedSimpArgs false
open Go.RowKit

structure TwoC (w W : World) (p q : Nat) (A B : Array Value) (t : TypeId) : Prop where
  e1 : W.heap[p]? = some (.cells A t (0, 0))
  e2 : W.heap[q]? = some (.cells B t (0, 0))
  b : Below p w W
  lt : p < q
theorem TwoC.below {w W W' : World} {p q : Nat} {A B : Array Value} {t : TypeId} (h : TwoC w W p q A B t) (hb : Below W.heap.size W W') : TwoC w W' p q A B t := by
  have g : ∀ {k : Nat} {o : Obj}, W.heap[k]? = some o → W'.heap[k]? = some o := fun {k o} hk => (hb.block k (Array.getElem?_eq_some_iff.1 hk).1).trans hk
  have h0 := (Array.getElem?_eq_some_iff.1 h.e1).1
  exact ⟨g h.e1, g h.e2, h.b.trans (hb.mono (by omega)), h.lt⟩
set_option maxHeartbeats 4000000 in
set_option maxRecDepth 100000 in
theorem compareNames_any (x m y k : Int) (w : World) : Calls Tryz.prog 124 #[.agg #[.int .i64 x, .int .i64 m], .agg #[.int .i64 y, .int .i64 k]] w fun e w' => e = .returned (.int .i64 (namesC x m y k)) ∧ Below w.heap.size w w' := by
  have g1 := heap_before _ (.cells (#[.int .i64 y, .int .i64 k]) 45) _ _ (heap_last w (.cells (#[.int .i64 x, .int .i64 m]) 45))
  have g2 := heap_at (w.alloc (.cells (#[.int .i64 x, .int .i64 m]) 45)) (.cells (#[.int .i64 y, .int .i64 k]) 45) (w.heap.size + 1) (by simp)
  have bb : Below w.heap.size w ((w.alloc (.cells (#[.int .i64 x, .int .i64 m]) 45)).alloc (.cells (#[.int .i64 y, .int .i64 k]) 45)) := ((Below.refl _ _).alloc (Nat.le_refl _) _).alloc (by simp) _
  have T0 : Hid (TwoC w ((w.alloc (.cells (#[.int .i64 x, .int .i64 m]) 45)).alloc (.cells (#[.int .i64 y, .int .i64 k]) 45)) w.heap.size (w.heap.size + 1) (#[.int .i64 x, .int .i64 m]) (#[.int .i64 y, .int .i64 k]) 45) := Lib.hid ⟨g1, g2, bb, by omega⟩
  clear g1 g2 bb
  go_enter Tryz.func124, Tryz.ntmps124
  go_upto_region 1 with fail
  generalize (w.alloc (.cells (#[.int .i64 x, .int .i64 m]) 45)).alloc (.cells (#[.int .i64 y, .int .i64 k]) 45) = W0 at *
  obtain ⟨p, hp⟩ : ∃ p, Hid (w.heap.size = p) := ⟨_, Lib.hid rfl⟩
  obtain ⟨q, hq⟩ : ∃ q, Hid (w.heap.size + 1 = q) := ⟨_, Lib.hid rfl⟩
  rw [hq.out, hp.out] at T0
  rw [hq.out, hp.out]
  have T1 := Lib.hid (T0.out.below (Below.refl W0.heap.size W0).drew)
  refine wp_region_noPanic ?_
  refine wp_region_held_drew (S := fun w' => TwoC w w' p q (#[.int .i64 x, .int .i64 m]) (#[.int .i64 y, .int .i64 k]) 45) (by kernel_rfl) T1.out (fun hHeld => ?_)
  refine wpAnyH_take (i := 0) (v := .pointer (some ⟨p, 0, none⟩)) rfl (by kernel_rfl) (by kernel_rfl) (by kernel_rfl) (fun _ _ _ h => h) (Or.inl ⟨by rfl, by intro W _; go_simp⟩) (by assumption) ?_
  try simp only [Act.put, lq3, lq4, lq5]
  refine wpAnyH_take (i := 1) (v := .int .i64 x) rfl (by kernel_rfl) (by kernel_rfl) (by kernel_rfl) (fun _ _ _ h => h) (Or.inl ⟨by rfl, by intro W h; have hc := cell_of h.e1 0 (.int .i64 x) rfl; go_simp⟩) (by assumption) ?_
  try simp only [Act.put, lq3, lq4, lq5]
  refine wpAnyH_take (i := 2) (v := .pointer (some ⟨q, 0, none⟩)) rfl (by kernel_rfl) (by kernel_rfl) (by kernel_rfl) (fun _ _ _ h => h) (Or.inl ⟨by rfl, by intro W _; go_simp⟩) (by assumption) ?_
  try simp only [Act.put, lq3, lq4, lq5]
  refine wpAnyH_take (i := 3) (v := .int .i64 y) rfl (by kernel_rfl) (by kernel_rfl) (by kernel_rfl) (fun _ _ _ h => h) (Or.inl ⟨by rfl, by intro W h; have hc := cell_of h.e2 0 (.int .i64 y) rfl; go_simp⟩) (by assumption) ?_
  try simp only [Act.put, lq3, lq4, lq5]
  refine wpAnyH_take (i := 5) (v := .pointer (some ⟨p, 1, none⟩)) rfl (by kernel_rfl) (by kernel_rfl) (by kernel_rfl) (fun _ _ _ h => h) (Or.inl ⟨by rfl, by intro W _; go_simp⟩) (by assumption) ?_
  try simp only [Act.put, lq3, lq4, lq5]
  refine wpAnyH_take (i := 6) (v := .int .i64 m) rfl (by kernel_rfl) (by kernel_rfl) (by kernel_rfl) (fun _ _ _ h => h) (Or.inl ⟨by rfl, by intro W h; have hc := cell_of h.e1 1 (.int .i64 m) rfl; go_simp⟩) (by assumption) ?_
  try simp only [Act.put, lq3, lq4, lq5]
  refine wpAnyH_take (i := 7) (v := .pointer (some ⟨q, 1, none⟩)) rfl (by kernel_rfl) (by kernel_rfl) (by kernel_rfl) (fun _ _ _ h => h) (Or.inl ⟨by rfl, by intro W _; go_simp⟩) (by assumption) ?_
  try simp only [Act.put, lq3, lq4, lq5]
  refine wpAnyH_take (i := 8) (v := .int .i64 k) rfl (by kernel_rfl) (by kernel_rfl) (by kernel_rfl) (fun _ _ _ h => h) (Or.inl ⟨by rfl, by intro W h; have hc := cell_of h.e2 1 (.int .i64 k) rfl; go_simp⟩) (by assumption) ?_
  try simp only [Act.put, lq3, lq4, lq5]
  refine wpAnyH_ready (rs := [4]) (by kernel_rfl) (by simp) ?_
  refine AllReadyH.cons rfl (fun K hK => ?_) AllReadyH.nil
  go_simp
  go_at_call 173
  refine (compare_any x y _).mono ?_
  rintro e w1 ⟨rfl, rfl⟩
  dsimp only
  refine hK.out _ _ T1.out (fun hHeld => ?_)
  clear hK K
  try simp only [Act.put, lq3, lq4, lq5]
  refine wpAnyH_ready (rs := [9]) (by kernel_rfl) (by simp) ?_
  refine AllReadyH.cons rfl (fun K hK => ?_) AllReadyH.nil
  go_simp
  go_at_call 173
  refine (compare_any m k _).mono ?_
  rintro e w1 ⟨rfl, rfl⟩
  dsimp only
  refine hK.out _ _ T1.out (fun hHeld => ?_)
  clear hK K
  try simp only [Act.put, lq3, lq4, lq5]
  refine wpAnyH_ready (rs := [10]) (by kernel_rfl) (by simp) ?_
  refine AllReadyH.cons rfl (fun K hK => ?_) AllReadyH.nil
  go_simp
  have TB := Lib.hid (T1.out.below ((Below.refl W0.drew.heap.size W0.drew).alloc (Nat.le_refl _) (.cells #[.int .i64 (cmpI x y), .int .i64 (cmpI m k)] 3)))
  refine hK.out _ _ TB.out (fun hHeld => ?_)
  clear hK K
  try simp only [Act.put, lq3, lq4, lq5]
  refine wpAnyH_ready (rs := [11]) (by kernel_rfl) (by simp) ?_
  refine AllReadyH.cons rfl (fun K hK => ?_) AllReadyH.nil
  go_simp
  go_at_call 172
  refine (or_two W0.drew.heap.size (cmpI x y) (cmpI m k) _ (heap_last W0.drew _)).mono ?_
  rintro e w1 ⟨rfl, rfl⟩
  dsimp only
  refine hK.out _ _ TB.out (fun hHeld => ?_)
  clear hK K
  try simp only [Act.put, lq3, lq4, lq5]
  refine wpAnyH_take (i := 12) (v := .int .i64 (orI (cmpI x y) (cmpI m k))) rfl (by kernel_rfl) (by kernel_rfl) (by kernel_rfl) (fun _ _ _ h => h) (Or.inl ⟨by rfl, by intro W _; go_simp⟩) (by assumption) ?_
  try simp only [Act.put, lq3, lq4, lq5]
  have TE := TB
  refine wpAnyH_done (by kernel_rfl) ?_ _
  refine NoPanic.normal ?_
  change Exit.then _ _ Exit.normal { tmps := #[.agg #[.int .i64 x, .int .i64 m], .agg #[.int .i64 y, .int .i64 k], .pointer (some ⟨p, 0, none⟩), .pointer (some ⟨q, 0, none⟩), .int .i64 (orI (cmpI x y) (cmpI m k)), .pointer (some ⟨p, 0, none⟩), .int .i64 x, .pointer (some ⟨q, 0, none⟩), .int .i64 y, .int .i64 (cmpI x y), .pointer (some ⟨p, 1, none⟩), .int .i64 m, .pointer (some ⟨q, 1, none⟩), .int .i64 k, .int .i64 (cmpI m k), .slice (some ⟨W0.drew.heap.size, 0, none⟩) 2 2, .int .i64 (orI (cmpI x y) (cmpI m k))], defers := [] } _
  go_wp2_with fail
  go_ret
  exact ⟨rfl, by rw [hp.out]; exact TE.out.b⟩
section
attribute [local go_sem] noteA_0
set_option maxHeartbeats 4000000 in
set_option maxRecDepth 100000 in
theorem known_any (n r : NoteV) (sa : Option Addr) (sc : Nat) (ta : Option Addr) (tc : Nat) (w : World) : Calls Tryz.prog 191 #[.agg (noteA n sa sc), .agg (noteA r ta tc)] w fun e w' => e = .returned (.int .i64 (knownC n r)) ∧ Below w.heap.size w w' := by
  have I43 := Lib.hid (show ∀ (m : NoteV) (a : Option Addr) (c : Nat), (Tryz.prog.info? 47).map (·.size) = some (noteA m a c).size from fun m a c => by kernel_rfl)
  have g1 := heap_before _ (.cells (noteA r ta tc) 47) _ _ (heap_last w (.cells (noteA n sa sc) 47))
  have g2 := heap_at (w.alloc (.cells (noteA n sa sc) 47)) (.cells (noteA r ta tc) 47) (w.heap.size + 1) (by simp)
  have bb : Below w.heap.size w ((w.alloc (.cells (noteA n sa sc) 47)).alloc (.cells (noteA r ta tc) 47)) := ((Below.refl _ _).alloc (Nat.le_refl _) _).alloc (by simp) _
  have T0 : Hid (TwoC w ((w.alloc (.cells (noteA n sa sc) 47)).alloc (.cells (noteA r ta tc) 47)) w.heap.size (w.heap.size + 1) (noteA n sa sc) (noteA r ta tc) 47) := Lib.hid ⟨g1, g2, bb, by omega⟩
  clear g1 g2 bb
  go_enter Tryz.func191, Tryz.ntmps191
  go_upto_region 1 with fail
  generalize (w.alloc (.cells (noteA n sa sc) 47)).alloc (.cells (noteA r ta tc) 47) = W0 at *
  obtain ⟨p, hp⟩ : ∃ p, Hid (w.heap.size = p) := ⟨_, Lib.hid rfl⟩
  obtain ⟨q, hq⟩ : ∃ q, Hid (w.heap.size + 1 = q) := ⟨_, Lib.hid rfl⟩
  rw [hq.out, hp.out] at T0
  rw [hq.out, hp.out]
  have T1 := Lib.hid (T0.out.below (Below.refl W0.heap.size W0).drew)
  refine wp_region_noPanic ?_
  refine wp_region_held_drew (S := fun w' => TwoC w w' p q (noteA n sa sc) (noteA r ta tc) 47) (by kernel_rfl) T1.out (fun hHeld => ?_)
  refine wpAnyH_take (i := 0) (v := .pointer (some ⟨p, 2, none⟩)) rfl (by kernel_rfl) (by kernel_rfl) (by kernel_rfl) (fun _ _ _ h => h) (Or.inl ⟨by rfl, by intro W _; go_simp⟩) (by assumption) ?_
  try simp only [Act.put, lq3, lq4, lq5]
  refine wpAnyH_take (i := 1) (v := .int .i64 n.clock) rfl (by kernel_rfl) (by kernel_rfl) (by kernel_rfl) (fun _ _ _ h => h) (Or.inl ⟨by rfl, by intro W h; have hc := cell_of h.e1 2 (.int .i64 n.clock) rfl; go_simp⟩) (by assumption) ?_
  try simp only [Act.put, lq3, lq4, lq5]
  refine wpAnyH_take (i := 2) (v := .pointer (some ⟨q, 2, none⟩)) rfl (by kernel_rfl) (by kernel_rfl) (by kernel_rfl) (fun _ _ _ h => h) (Or.inl ⟨by rfl, by intro W _; go_simp⟩) (by assumption) ?_
  try simp only [Act.put, lq3, lq4, lq5]
  refine wpAnyH_take (i := 3) (v := .int .i64 r.clock) rfl (by kernel_rfl) (by kernel_rfl) (by kernel_rfl) (fun _ _ _ h => h) (Or.inl ⟨by rfl, by intro W h; have hc := cell_of h.e2 2 (.int .i64 r.clock) rfl; go_simp⟩) (by assumption) ?_
  try simp only [Act.put, lq3, lq4, lq5]
  refine wpAnyH_take (i := 5) (v := .agg (noteA n sa sc)) rfl (by kernel_rfl) (by kernel_rfl) (by kernel_rfl) (fun _ _ _ h => h) (yields_row (by rfl) 47 _ rfl p rfl _ 47 (0, 0) _ (fun W h => h.e1) Tryz.underlying47 rfl (I43.out _ _ _)) (by assumption) ?_
  try simp only [Act.put, lq3, lq4, lq5]
  refine wpAnyH_take (i := 7) (v := .agg (noteA r ta tc)) rfl (by kernel_rfl) (by kernel_rfl) (by kernel_rfl) (fun _ _ _ h => h) (yields_row (by rfl) 47 _ rfl q rfl _ 47 (0, 0) _ (fun W h => h.e2) Tryz.underlying47 rfl (I43.out _ _ _)) (by assumption) ?_
  try simp only [Act.put, lq3, lq4, lq5]
  refine wpAnyH_ready (rs := [4]) (by kernel_rfl) (by simp) ?_
  refine AllReadyH.cons rfl (fun K hK => ?_) AllReadyH.nil
  go_simp
  go_at_call 173
  refine (compare_any n.clock r.clock _).mono ?_
  rintro e w1 ⟨rfl, rfl⟩
  dsimp only
  refine hK.out _ _ T1.out (fun hHeld => ?_)
  clear hK K
  try simp only [Act.put, lq3, lq4, lq5]
  refine wpAnyH_ready (rs := [6]) (by kernel_rfl) (by simp) ?_
  refine AllReadyH.cons rfl (fun K hK => ?_) AllReadyH.nil
  go_simp
  go_at_call 167
  refine (nameOf_any n sa sc _).mono ?_
  rintro e w1 ⟨rfl, b1⟩
  have T2 := Lib.hid (T1.out.below b1); clear b1
  dsimp only
  refine hK.out _ _ T2.out (fun hHeld => ?_)
  clear hK K
  try simp only [Act.put, lq3, lq4, lq5]
  refine wpAnyH_ready (rs := [8]) (by kernel_rfl) (by simp) ?_
  refine AllReadyH.cons rfl (fun K hK => ?_) AllReadyH.nil
  go_simp
  go_at_call 167
  refine (nameOf_any r ta tc _).mono ?_
  rintro e w2 ⟨rfl, b1⟩
  have T3 := Lib.hid (T2.out.below b1); clear b1
  dsimp only
  refine hK.out _ _ T3.out (fun hHeld => ?_)
  clear hK K
  try simp only [Act.put, lq3, lq4, lq5]
  refine wpAnyH_ready (rs := [9]) (by kernel_rfl) (by simp) ?_
  refine AllReadyH.cons rfl (fun K hK => ?_) AllReadyH.nil
  go_simp
  go_at_call 124
  refine (compareNames_any n.house n.num r.house r.num _).mono ?_
  rintro e w3 ⟨rfl, b1⟩
  have T4 := Lib.hid (T3.out.below b1); clear b1
  dsimp only
  refine hK.out _ _ T4.out (fun hHeld => ?_)
  clear hK K
  try simp only [Act.put, lq3, lq4, lq5]
  refine wpAnyH_ready (rs := [10]) (by kernel_rfl) (by simp) ?_
  refine AllReadyH.cons rfl (fun K hK => ?_) AllReadyH.nil
  go_simp
  have TB := Lib.hid (T4.out.below ((Below.refl w3.heap.size w3).alloc (Nat.le_refl _) (.cells #[.int .i64 (cmpI n.clock r.clock), .int .i64 (namesC n.house n.num r.house r.num)] 3)))
  refine hK.out _ _ TB.out (fun hHeld => ?_)
  clear hK K
  try simp only [Act.put, lq3, lq4, lq5]
  refine wpAnyH_ready (rs := [11]) (by kernel_rfl) (by simp) ?_
  refine AllReadyH.cons rfl (fun K hK => ?_) AllReadyH.nil
  go_simp
  go_at_call 172
  refine (or_two w3.heap.size (cmpI n.clock r.clock) (namesC n.house n.num r.house r.num) _ (heap_last w3 _)).mono ?_
  rintro e w4 ⟨rfl, rfl⟩
  dsimp only
  refine hK.out _ _ TB.out (fun hHeld => ?_)
  clear hK K
  try simp only [Act.put, lq3, lq4, lq5]
  refine wpAnyH_take (i := 12) (v := .int .i64 (orI (cmpI n.clock r.clock) (namesC n.house n.num r.house r.num))) rfl (by kernel_rfl) (by kernel_rfl) (by kernel_rfl) (fun _ _ _ h => h) (Or.inl ⟨by rfl, by intro W _; go_simp⟩) (by assumption) ?_
  try simp only [Act.put, lq3, lq4, lq5]
  have TE := TB
  refine wpAnyH_done (by kernel_rfl) ?_ _
  refine NoPanic.normal ?_
  change Exit.then _ _ Exit.normal { tmps := #[.agg (noteA n sa sc), .agg (noteA r ta tc), .pointer (some ⟨p, 0, none⟩), .pointer (some ⟨q, 0, none⟩), .int .i64 (orI (cmpI n.clock r.clock) (namesC n.house n.num r.house r.num)), .pointer (some ⟨p, 2, none⟩), .int .i64 n.clock, .pointer (some ⟨q, 2, none⟩), .int .i64 r.clock, .int .i64 (cmpI n.clock r.clock), .agg (noteA n sa sc), .agg #[.int .i64 n.house, .int .i64 n.num], .agg (noteA r ta tc), .agg #[.int .i64 r.house, .int .i64 r.num], .int .i64 (namesC n.house n.num r.house r.num), .slice (some ⟨w3.heap.size, 0, none⟩) 2 2, .int .i64 (orI (cmpI n.clock r.clock) (namesC n.house n.num r.house r.num))], defers := [] } _
  go_wp2_with fail
  go_ret
  exact ⟨rfl, by rw [hp.out]; exact TE.out.b⟩
end
end Go.Proofs.YtlnhppgfhkkidaaGreat
namespace Go.Proofs.YtlnhppgfhkkidaaGreat
set_option linter.unusedSimpArgs false
open Go.RowKit

theorem cloneI_any (a : Option Addr) (n c : Nat) (l : List Int) (w : World) (hn : n ≤ 1000000000) (hr : RdI w a n c l) :
    Calls Tryz.prog 69 #[.slice a n c] w fun e w' => ∃ a' c', e = .returned (.slice a' n c') ∧ w'.ownsRow w.heap.size 3 1 (.slice a' n c') n (l.map intV) ∧ Below w.heap.size w w' := by
  have hnc := hr.2.1
  by_cases ha : a = none
  · subst ha
    have hc : n = 0 ∧ c = 0 := by
      rcases hr.2.2.2 with h | ⟨b, off, h, _⟩
      · omega
      · cases h
    obtain ⟨rfl, rfl⟩ := hc
    have hl : l = [] := List.eq_nil_of_length_eq_zero hr.len
    subst hl
    clear hr hnc
    have heq : ∀ w, (binOp .eql 37 (.slice none 0 0) (.slice none 0 0)).run Tryz.prog w = .ok (.bool true) w := fun w => Lib.run_eql_slice_nil (P := Tryz.prog) w 37 3 none 0 0 0 0 Tryz.underlying37
    go_enter Tryz.func69, Tryz.ntmps69
    go_wp2
    go_ret
    exact ⟨_, _, rfl, World.ownsRow_nil _ _ _ _, Below.refl _ _⟩
  · obtain ⟨ad, rfl⟩ := Option.ne_none_iff_exists'.1 ha
    clear ha
    have heq : ∀ w, (binOp .eql 37 (.slice (some ad) n c) (.slice none 0 0)).run Tryz.prog w = .ok (.bool false) w := fun w => Lib.run_eql_slice_nil (P := Tryz.prog) w 37 3 (some ad) n c 0 0 Tryz.underlying37
    have hown := World.ownsRow_lit (base := w.heap.size) (e := 3) (size := 1) w #[] 0 (Nat.le_refl _) (by unfold maxLen; omega) rfl
    have hr1 := hr.below ((Below.refl w.heap.size w).alloc (Nat.le_refl _) (Obj.cells #[] 3))
    go_enter Tryz.func69, Tryz.ntmps69
    go_wp2_with (at_builtin; refine app_ints _ rfl _ _ rfl w.heap.size _ _ _ [] rfl hown _ _ _ l rfl hr1 (by omega) (by simp) ?_)
    intro a' c' w' h1 h2
    have hb := ((Below.refl w.heap.size w).alloc (Nat.le_refl _) (Obj.cells #[] 3)).grown h2 (by simp) (fun q hq => (hown.lt q hq).1)
    have H1 := Lib.hid (show w'.ownsRow w.heap.size 3 1 (.slice a' n c') n (l.map intV) by simpa using h1); clear h1 h2
    try simp only [Nat.zero_add]
    go_wp2_with fail
    go_ret
    exact ⟨_, _, rfl, H1.out, hb⟩
section
attribute [local go_sem] noteA_0 noteA_1 noteA_2 noteA_3 noteA_4 noteA_5 noteA_6 noteA_7 noteA_8 noteA_9 noteA_10 noteA_11 noteA_12 noteA_13 noteA_14 noteA_15 noteA_16 noteA_17 noteA_18
variable (n : NoteV) (sa : Option Addr) (sc : Nat) (w : World)
theorem done_any : Calls Tryz.prog 189 #[.agg (noteA n sa sc)] w fun e w' => e = .returned (.bool (doneB n)) ∧ Below w.heap.size w w' := by
  have hb := (Below.refl w.heap.size w).alloc (Nat.le_refl _) (.cells (noteA n sa sc) 47)
  go_enter Tryz.func189, Tryz.ntmps189
  go_wp2_with fail
  refine (hin_any n.kind 1 4 _).mono ?_
  rintro e w' ⟨rfl, rfl⟩
  go_wp2_with fail
  go_ret
  exact ⟨rfl, hb⟩
set_option maxHeartbeats 2000000 in
theorem judges_any (r : NoteV) (ta : Option Addr) (tc : Nat) : Calls Tryz.prog 190 #[.agg (noteA n sa sc), .agg (noteA r ta tc)] w fun e w' => e = .returned (.bool (judgesB n r)) ∧ Below w.heap.size w w' := by
  have hb := ((Below.refl w.heap.size w).alloc (Nat.le_refl _) (.cells (noteA n sa sc) 47)).alloc (by simp) (.cells (noteA r ta tc) 47)
  have hl := heap_before _ (.cells (noteA r ta tc) 47) _ _ (heap_last w (.cells (noteA n sa sc) 47))
  have hl2 := heap_at (w.alloc (.cells (noteA n sa sc) 47)) (.cells (noteA r ta tc) 47) (w.heap.size + 1) (by simp)
  have c4 := cell_of hl 4 (.int .i64 n.kind) rfl
  have c18 := cell_of hl 18 (.int .i64 n.fix) rfl
  have d4 := cell_of hl2 4 (.int .i64 r.kind) rfl
  have HB := Lib.hid hb; clear hb hl hl2
  by_cases h6 : n.kind = 6
  · have q6 : (n.kind == 6) = true := by simp [h6]
    have HR := Lib.hid (show judgesB n r = true by simp [judgesB, h6])
    clear h6
    go_enter Tryz.func190, Tryz.ntmps190
    go_wp2_with fail
    go_ret
    rw [HR.out]
    exact ⟨rfl, HB.out⟩
  · have q6 : (n.kind == 6) = false := by simp [h6]
    by_cases h5 : n.kind = 5
    · have q5 : (n.kind == 5) = true := by simp [h5]
      by_cases h2 : n.fix = 2
      · have q2 : (n.fix != 2) = false := by simp [h2]
        have HR := Lib.hid (show judgesB n r = (r.kind == 2) by simp [judgesB, h5, h2]; by_cases h : r.kind = 2 <;> simp [h])
        clear h6 h5 h2
        go_enter Tryz.func190, Tryz.ntmps190
        go_wp2_with fail
        go_ret
        rw [HR.out]
        exact ⟨rfl, HB.out⟩
      · have q2 : (n.fix != 2) = true := by simp [h2]
        have HR := Lib.hid (show judgesB n r = true by simp [judgesB, h5, h2])
        clear h6 h5 h2
        go_enter Tryz.func190, Tryz.ntmps190
        go_wp2_with fail
        go_ret
        rw [HR.out]
        exact ⟨rfl, HB.out⟩
    · have q5 : (n.kind == 5) = false := by simp [h5]
      have HR := Lib.hid (show judgesB n r = false by simp [judgesB, h5, h6])
      clear h6 h5
      go_enter Tryz.func190, Tryz.ntmps190
      go_wp2_with fail
      go_ret
      rw [HR.out]
      exact ⟨rfl, HB.out⟩
end
end Go.Proofs.YtlnhppgfhkkidaaGreat
namespace Go.Proofs.YtlnhppgfhkkidaaGreat
set_option linter.unusedSimpArgs false
open Go.RowKit
open Go.Maps (Keyed)

abbrev Nm := Int × Int
def nmV (a : Nm) : Value := .agg #[.int .i64 a.1, .int .i64 a.2]
def nmOk (a : Nm) : Prop := I64 a.1 ∧ I64 a.2
def nmL (a : Nm) : Lit := .string (keyBytes [.int .i64 a.1, .int .i64 a.2])
theorem laid_ok : laidOutB Tryz.prog = true := by kernel_rfl
theorem nm_row : (45 : TypeId) < Tryz.prog.types.size := of_decide_eq_true (by kernel_rfl)
theorem nm_deep : Tryz.prog.keyTypeAt 2 45 = true := by kernel_rfl
theorem nm_law : WideMaps.KeyLaw Tryz.prog 45 := by
  refine deep_law_laid laid_ok (m := 2) (by omega) nm_row nm_deep ?_
  rw [Tryz.underlying45]
theorem nm_keyed : Keyed Tryz.prog 45 := Keyed.of_law nm_law
theorem nm_cells : Tryz.prog.cellsOf 45 = 2 := by kernel_rfl
theorem wf_i64 {z : Int} (h : I64 z) : (Lit.int .i64 z).wf = true := by
  have h1 := h.1
  have h2 := h.2
  simp [Lit.wf, IntKind.min, IntKind.max, IntKind.signed, IntKind.bits]
  omega
theorem i64_wf {z : Int} (h : (Lit.int .i64 z).wf = true) : I64 z := by
  simp [Lit.wf, IntKind.min, IntKind.max, IntKind.signed, IntKind.bits] at h
  unfold I64
  omega
theorem keyType_nm : Tryz.prog.keyType 45 = true := by kernel_rfl
theorem keyLits_nm (d : Nat) (c0 c1 : Value) : Tryz.prog.keyLits (d + 2) 45 [c0, c1] = (do let a ← Tryz.prog.keyLits (d + 1) 3 [c0]; let b ← Tryz.prog.keyLits (d + 1) 3 [c1]; pure (a ++ b)) := by
  have hc : Tryz.prog.cellsOf 3 = 1 := by kernel_rfl
  rw [show d + 2 = (d + 1) + 1 from rfl]
  conv => lhs; unfold Program.keyLits; rw [Tryz.underlying45]
  simp [nm_cells, hc]
  cases Tryz.prog.keyLits (d + 1) 3 [c0] <;> cases Tryz.prog.keyLits (d + 1) 3 [c1] <;> simp
theorem keyLits_int (d : Nat) (z : Int) (h : I64 z) : Tryz.prog.keyLits (d + 1) 3 [.int .i64 z] = some [.int .i64 z] := by
  unfold Program.keyLits
  rw [Tryz.underlying3]
  simp [wf_i64 h]
theorem keyLits_int_inv (d : Nat) (v : Value) (ls : List Lit) (h : Tryz.prog.keyLits (d + 1) 3 [v] = some ls) : ∃ z, v = .int .i64 z ∧ I64 z ∧ ls = [.int .i64 z] := by
  unfold Program.keyLits at h
  generalize hu : Tryz.prog.underlying 3 = u at h
  rw [Tryz.underlying3] at hu
  subst hu
  cases v <;> simp at h
  obtain ⟨⟨rfl, hw⟩, rfl⟩ := h
  exact ⟨_, rfl, i64_wf hw, rfl⟩
theorem types_succ : ∃ d, Tryz.prog.types.size + 1 = d + 2 := by
  have h : 0 < Tryz.prog.types.size := of_decide_eq_true (by kernel_rfl)
  generalize Tryz.prog.types.size = s at h
  exact ⟨s - 1, by omega⟩
theorem keyOf_nm (a : Nm) (h : nmOk a) : keyOf Tryz.prog 45 (nmV a) = some (nmL a) := by
  obtain ⟨d, hd⟩ := types_succ
  have hf : (nmV a).formed Tryz.prog 45 = true := by simp [nmV, Value.formed, Tryz.underlying45, nm_cells]
  unfold keyOf
  rw [Tryz.underlying45]
  simp only [keyType_nm, hf, Bool.and_self, if_true, hd]
  rw [show (nmV a).cells.toList = [.int .i64 a.1, .int .i64 a.2] from rfl, keyLits_nm, keyLits_int _ _ h.1, keyLits_int _ _ h.2]
  rfl
set_option maxRecDepth 10000 in
theorem keyOf_inv {v : Value} {kl : Lit} (h : keyOf Tryz.prog 45 v = some kl) : ∃ a, v = nmV a ∧ nmOk a ∧ kl = nmL a := by
  obtain ⟨d, hd⟩ := types_succ
  unfold keyOf at h
  rw [Tryz.underlying45] at h
  simp only [keyType_nm, Bool.true_and, hd] at h
  split at h
  · rename_i hf
    cases v <;> simp [Value.formed, Tryz.underlying45, nm_cells] at hf
    rename_i cs
    obtain ⟨l⟩ := cs
    match l, hf with
    | [c0, c1], _ =>
      rw [show (Value.agg #[c0, c1]).cells.toList = [c0, c1] from rfl, keyLits_nm] at h
      cases h0 : Tryz.prog.keyLits (d + 1) 3 [c0] with
      | none => simp [h0] at h
      | some l0 =>
        cases h1 : Tryz.prog.keyLits (d + 1) 3 [c1] with
        | none => simp [h0, h1] at h
        | some l1 =>
          obtain ⟨z0, rfl, hz0, rfl⟩ := keyLits_int_inv _ _ _ h0
          obtain ⟨z1, rfl, hz1, rfl⟩ := keyLits_int_inv _ _ _ h1
          simp [h0, h1] at h
          exact ⟨(z0, z1), rfl, ⟨hz0, hz1⟩, h.symm⟩
  · cases h
theorem nmL_key (a : Nm) : WideAt.IsKeyLit (nmL a) := trivial
theorem nmV_inj {a b : Nm} (h : nmV a = nmV b) : a = b := by
  simp [nmV] at h
  exact Prod.ext h.1 h.2
theorem nmL_inj {a b : Nm} (ha : nmOk a) (hb : nmOk b) (h : nmL a = nmL b) : a = b :=
  nmV_inj (nm_keyed.inj (keyOf_nm a ha) (h ▸ keyOf_nm b hb))

def heldR : Value → Option (DataW Value × List MemPlace) := fun v => some (.held v, [])
structure Reads {α : Type} (enc : α → Value) (D : DataW Value) (f : Nm → Option α) : Prop where
  ok : ∀ a, (f a).isSome = true → nmOk a
  has : ∀ a, nmOk a → Maps.has D (nmL a) = (f a).isSome
  val : ∀ a x, f a = some x → ∀ z, D.atKey (nmL a) z = .held (enc x)
def MapF {α : Type} (enc : α → Value) (w : World) (b n : Nat) (f : Nm → Option α) : Prop := ∃ D, w.ownsMap Tryz.prog 45 heldR b n D ∧ Reads enc D f
def updF {α : Type} (f : Nm → Option α) (k : Nm) (x : α) : Nm → Option α := fun a => if a = k then some x else f a
def delF {α : Type} (f : Nm → Option α) (k : Nm) : Nm → Option α := fun a => if a = k then none else f a
section
variable {α : Type} {enc : α → Value} {D : DataW Value} {f : Nm → Option α}
theorem Reads.empty : Reads enc (.map []) (fun _ => none) := ⟨by simp, fun a _ => rfl, by simp⟩
theorem Reads.put (h : Reads enc D f) (hm : Maps.IsMap D) {k : Nm} (hk : nmOk k) (x : α) : Reads enc (D.put (nmL k) (.held (enc x))) (updF f k x) := by
  refine ⟨fun a ha => ?_, fun a ha => ?_, fun a y hy z => ?_⟩
  · unfold updF at ha
    split at ha
    · rename_i e; rw [e]; exact hk
    · exact h.ok a ha
  · unfold updF
    split
    · rename_i e; rw [e, Maps.has_put_same hm (nmL_key _)]; rfl
    · rename_i e; rw [Maps.has_put_other (fun he => e (nmL_inj ha hk he))]; exact h.has a ha
  · unfold updF at hy
    split at hy
    · rename_i e; cases hy; rw [e, Maps.atKey_put_same hm (nmL_key _)]
    · rename_i e; rw [Maps.atKey_put_other (fun he => e (nmL_inj (h.ok a (by rw [hy]; rfl)) hk he))]; exact h.val a y hy z
theorem Reads.del (h : Reads enc D f) {k : Nm} (hk : nmOk k) : Reads enc (D.del (nmL k)) (delF f k) := by
  refine ⟨fun a ha => ?_, fun a ha => ?_, fun a y hy z => ?_⟩
  · unfold delF at ha
    split at ha
    · cases ha
    · exact h.ok a ha
  · unfold delF
    split
    · rename_i e; rw [e, Maps.has_del_same]; rfl
    · rename_i e; rw [Maps.has_del_other (fun he => e (nmL_inj ha hk he))]; exact h.has a ha
  · unfold delF at hy
    split at hy
    · cases hy
    · rename_i e; rw [Maps.atKey_del_other (fun he => e (nmL_inj (h.ok a (by rw [hy]; rfl)) hk he))]; exact h.val a y hy z
variable {w : World} {b n : Nat}
theorem MapF.made (w : World) : MapF enc (w.alloc (.map #[] 0)) w.heap.size 0 (fun _ => none) := ⟨_, World.ownsMap_made w _ _ _, Reads.empty⟩
theorem MapF.lt (h : MapF enc w b n f) : b < w.heap.size := by obtain ⟨D, h1, _⟩ := h; exact h1.lt
theorem MapF.kept {w' : World} {row : Option Nat} (h : MapF enc w b n f) (hg : w.grownBy w' row) (hne : some b ≠ row) : MapF enc w' b n f := by
  obtain ⟨D, h1, h2⟩ := h
  exact ⟨D, h1.kept hg hne, h2⟩
theorem MapF.of_block {w' : World} (h : MapF enc w b n f) (hb : w'.heap[b]? = w.heap[b]?) : MapF enc w' b n f := by
  obtain ⟨D, ⟨es, clock, h1, h2⟩, h3⟩ := h
  exact ⟨D, ⟨es, clock, hb.trans h1, h2⟩, h3⟩
theorem MapF.below {w' : World} (h : MapF enc w b n f) (hb : Below w.heap.size w w') : MapF enc w' b n f := h.of_block (hb.block b h.lt)
theorem MapF.mono {m : Nat} (h : MapF enc w b n f) (hn : n ≤ m) : MapF enc w b m f := by obtain ⟨D, h1, h2⟩ := h; exact ⟨D, h1.mono hn, h2⟩
end
def RangeF {α : Type} (enc : α → Value) (w : World) (b r n : Nat) (f : Nm → Option α) (ks : List Nm) (cnt : Nat) : Prop :=
  ∃ D left, w.ranges Tryz.prog 45 heldR b r n D left cnt ∧ Reads enc D f ∧ (∀ a, nmOk a → left (nmL a) = ((f a).isSome && !decide (a ∈ ks))) ∧ ks.Nodup ∧ cnt + ks.length ≤ n
section
variable {α : Type} {enc : α → Value} {f : Nm → Option α} {w : World} {b r n cnt : Nat} {ks : List Nm}
theorem RangeF.map (h : RangeF enc w b r n f ks cnt) : MapF enc w b n f := by obtain ⟨D, left, h1, h2, _⟩ := h; exact ⟨D, h1.owns, h2⟩
theorem RangeF.left_eq (h : RangeF enc w b r n f ks cnt) : w.rangeLeft b r = cnt := by obtain ⟨D, left, h1, _⟩ := h; exact h1.left_eq
theorem RangeF.lt (h : RangeF enc w b r n f ks cnt) : r < w.heap.size := by obtain ⟨D, left, h1, _⟩ := h; exact h1.lt
theorem RangeF.nodup (h : RangeF enc w b r n f ks cnt) : ks.Nodup := by obtain ⟨D, left, _, _, _, h1, _⟩ := h; exact h1
theorem RangeF.count (h : RangeF enc w b r n f ks cnt) : cnt + ks.length ≤ n := by obtain ⟨D, left, _, _, _, _, h1⟩ := h; exact h1
theorem RangeF.of_blocks {w' : World} (h : RangeF enc w b r n f ks cnt) (hb : w'.heap[b]? = w.heap[b]?) (hr : w'.heap[r]? = w.heap[r]?) : RangeF enc w' b r n f ks cnt := by
  obtain ⟨D, left, ⟨es, clock, since, seen, c0, h1, h2, h3, h4, h5, h6⟩, h7⟩ := h
  exact ⟨D, left, ⟨es, clock, since, seen, c0, hb.trans h1, h2, h3, h4, hr.trans h5, h6⟩, h7⟩
theorem RangeF.below {w' : World} (h : RangeF enc w b r n f ks cnt) (hb : Below w.heap.size w w') : RangeF enc w' b r n f ks cnt := h.of_blocks (hb.block b h.map.lt) (hb.block r h.lt)
end
section
variable {α : Type} {enc : α → Value} {f : Nm → Option α} {P : Program} (w : World) {ops : Array Oper} {rest : List Oper} {o : Oper} {a : Act} {Q : Exit → Act → World → Prop}
theorem wpList_range_nm (hg : o.guard = none) (m : Operand) (t e : TypeId) (hop : o.op = Op.range t m) (ht : Tryz.prog.underlying t = some (.map 45 e)) (b n : Nat) (hm : a.eval m = .map (some b)) (hmap : MapF enc w b n f)
    (hK : ∀ w' cnt, RangeF enc w' b w.heap.size n f [] cnt → w.grownBy w' none → w'.heap.size = w.heap.size + 1 → wpList Tryz.prog ops Q rest (a.put o.dst (.pointer (some ⟨w.heap.size, 0, none⟩))) w') : wpList Tryz.prog ops Q (o :: rest) a w := by
  obtain ⟨D, h1, h2⟩ := hmap
  exact wpList_range_own w hg m t hop 45 e nm_keyed ht heldR b n D hm h1 (fun w' h3 h4 h5 => hK w' _ ⟨D, _, h3, h2, fun k hk => by rw [h2.has k hk]; simp, List.nodup_nil, by have := h1.size_le; simpa using this⟩ h4 h5)
structure NextF {α : Type} (enc : α → Value) (w : World) (b r n cnt : Nat) (f : Nm → Option α) (ks : List Nm) (kh km : Int) (y : α) (w' : World) (cnt' : Nat) : Prop where
  at_ : f (kh, km) = some y
  new : (kh, km) ∉ ks
  ok : nmOk (kh, km)
  range : RangeF enc w' b r n f (ks ++ [(kh, km)]) cnt'
  lt : cnt' < cnt
  grown : w.grownBy w' (some r)
  size : w'.heap.size = w.heap.size
def AllIn {α : Type} (f : Nm → Option α) (ks : List Nm) : Prop := ∀ k, (f k).isSome = true → k ∈ ks
theorem wpList_next_nm (hg : o.guard = none) (it : Operand) (hop : o.op = Op.next it false) (b r n cnt : Nat) (ks : List Nm) (hit : a.eval it = .pointer (some ⟨r, 0, none⟩)) (h : RangeF enc w b r n f ks cnt)
    (hDone : AllIn f ks → wpList Tryz.prog ops Q rest (a.put o.dst (.tuple #[.bool false])) w)
    (hMore : ∀ kh km y w' cnt', Hid (NextF enc w b r n cnt f ks kh km y w' cnt') →
      (Instr.entry (.pointer (some ⟨r, 0, none⟩))).run Tryz.prog w' = .ok (.tuple #[.agg #[.int .i64 kh, .int .i64 km], enc y]) w' → wpList Tryz.prog ops Q rest (a.put o.dst (.tuple #[.bool true, .agg #[.int .i64 kh, .int .i64 km], enc y])) w') : wpList Tryz.prog ops Q (o :: rest) a w := by
  obtain ⟨D, left, h1, h2, h3, h4, hcn⟩ := h
  refine wpList_next_ranges (α := Nm) (β := Value) w hg it hop 45 nm_keyed heldR nmV id (fun key kl hk => by obtain ⟨a, rfl, _⟩ := keyOf_inv hk; exact ⟨a, rfl⟩) (fun v _ _ => ⟨v, rfl⟩) b r n D left cnt hit h1 (fun _ hl => hDone (fun k hk => ?_)) (fun k c kl y w' cnt' hkey hlk hv hat hrg hlt hgr hsz hen => ?_)
  · have := hl (nmL k)
    rw [h3 k (h2.ok k hk), hk] at this
    simpa using this
  · obtain ⟨k', e1, hk', rfl⟩ := keyOf_inv hkey
    cases nmV_inj e1
    rw [h3 k hk'] at hlk
    simp only [Bool.and_eq_true, Bool.not_eq_true', decide_eq_false_iff_not] at hlk
    obtain ⟨x, hx⟩ := Option.isSome_iff_exists.1 hlk.1
    have hy := hat (.lit (.bool true))
    rw [h2.val k x hx] at hy
    simp only [heldR, Option.some.injEq] at hv
    rw [← hv] at hy
    simp only [DataW.held.injEq, id_eq] at hy
    subst hy
    refine hMore k.1 k.2 x w' cnt' (Lib.hid ⟨hx, hlk.2, hk', ⟨D, _, hrg, h2, fun a ha => ?_, ?_, by rw [List.length_append, List.length_singleton]; omega⟩, hlt, hgr, hsz⟩) hen
    · rw [h3 a ha]
      by_cases e : a = k
      · subst e
        have : (nmL a).sameKey (nmL a) = true := WideAt.sameKey_self (nmL_key _)
        simp [this]
      · have : (nmL a).sameKey (nmL k) = false := Maps.sameKey_ne (fun he => e (nmL_inj ha hk' he))
        simp [this, e]
    · exact List.nodup_append.2 ⟨h4, by simp, fun a ha b hb e => hlk.2 (by rw [List.mem_singleton] at hb; rw [← show b = k from hb, ← e]; exact ha)⟩
theorem wpList_del_nm (hg : o.guard = none) (m x : Operand) (t e : TypeId) (hop : o.op = Op.call { callee := Callee.builtin Builtin.delete, args := #[m, x], argTypes := #[t, 45] }) (ht : Tryz.prog.underlying t = some (.map 45 e)) (b r n cnt : Nat) (ks : List Nm) (k : Nm)
    (hm : a.eval m = .map (some b)) (h : RangeF enc w b r n f ks cnt) (hx : a.eval x = nmV k) (hk : nmOk k) (hin : k ∈ ks)
    (hK : ∀ w' cnt', RangeF enc w' b r n (delF f k) ks cnt' → cnt' ≤ cnt → w.mapTurned w' b → wpList Tryz.prog ops Q rest (a.put o.dst (.tuple #[])) w') : wpList Tryz.prog ops Q (o :: rest) a w := by
  obtain ⟨D, left, h1, h2, h3, h4, hcn⟩ := h
  refine wpList_delete_ranges w hg m x t 45 hop e nm_keyed ht heldR b r n D left cnt hm h1 (nmV k) (nmL k) hx (keyOf_nm k hk) (fun w' cnt' h5 h6 h7 => hK w' cnt' ⟨_, _, h5, h2.del hk, fun a ha => ?_, h4, by omega⟩ h6 h7)
  rw [h3 a ha]
  by_cases e : a = k
  · subst e
    have : (nmL a).sameKey (nmL a) = true := WideAt.sameKey_self (nmL_key _)
    simp [this, delF]
  · have : (nmL a).sameKey (nmL k) = false := Maps.sameKey_ne (fun he => e (nmL_inj ha hk he))
    simp [this, delF, e]
end
section
variable {α : Type} {enc : α → Value} {f : Nm → Option α} {w : World} {b n : Nat} {t e : TypeId}
theorem run_put_nm (hmap : MapF enc w b n f) (hn : n < maxLen) (ht : Tryz.prog.underlying t = some (.map 45 e)) (h m : Int) (hk : nmOk (h, m)) (y : α) :
    ∃ w', (Instr.mapUpdate t (.map (some b)) (.agg #[.int .i64 h, .int .i64 m]) (enc y)).run Tryz.prog w = .ok () w' ∧ MapF enc w' b (n + 1) (updF f (h, m) y) ∧ w.mapTurned w' b := by
  obtain ⟨D, h1, h2⟩ := hmap
  obtain ⟨w', h3, h4, h5⟩ := h1.store nm_keyed ht hn (keyOf_nm (h, m) hk) (val := enc y) (d := .held (enc y)) (ps := []) rfl
  exact ⟨w', h3, ⟨_, h4, h2.put h1.isMap hk y⟩, h5⟩
theorem run_get_nm (hmap : MapF enc w b n f) (ht : Tryz.prog.underlying t = some (.map 45 e)) {z : Value} (hz : (zeroValue e).run Tryz.prog w = .ok z w) (h m : Int) (hk : nmOk (h, m)) :
    (Instr.lookup t (.map (some b)) (.agg #[.int .i64 h, .int .i64 m]) true).run Tryz.prog w = .ok (.tuple #[((f (h, m)).map enc).getD z, .bool (f (h, m)).isSome]) w := by
  obtain ⟨D, h1, h2⟩ := hmap
  obtain ⟨v, ps, h3, h4⟩ := h1.look_ok nm_keyed ht hz (zd := .held z) (zp := []) rfl (keyOf_nm (h, m) hk)
  rw [h2.has (h, m) hk] at h3
  simp only [heldR, Option.some.injEq, Prod.mk.injEq] at h4
  refine h3.trans ?_
  cases hf : f (h, m) with
  | none =>
    rw [Maps.atKey_of_not_has (by rw [h2.has (h, m) hk, hf]; rfl)] at h4
    have := h4.1
    simp only [DataW.held.injEq] at this
    rw [this]; rfl
  | some y =>
    rw [h2.val (h, m) y hf] at h4
    have := h4.1
    simp only [DataW.held.injEq] at this
    rw [this]; rfl
end
end Go.Proofs.YtlnhppgfhkkidaaGreat
